import Derived.Laws.ResultCell
import Derived.Test.YtdbnmdchecacdaaDoorQFnStepk
section
namespace Go.Proofs.YtdbnmdchecacdaaDoor.G
open Go.RowKit
set_option linter.unusedVariables false
set_option linter.unusedSimpArgs false
def table24 : Array Value := #[.int .i64 (24), .int .i64 (-126), .int .i64 (127), .int .i64 (32), .int .i64 (8), .bool false, .int .i64 (53), .int .i64 (-1022), .int .i64 (1023), .int .i64 (64), .int .i64 (11), .bool false, .int .i64 (64), .int .i64 (-16382), .int .i64 (16383), .int .i64 (80), .int .i64 (15), .bool true, .int .i64 (113), .int .i64 (-16382), .int .i64 (16383), .int .i64 (128), .int .i64 (15), .bool false]
def Tabled (w : World) : Prop := 0 < w.heap.size ∧ ∀ i : Nat, i < 24 → w.cell? ⟨0, i, none⟩ = table24[i]?
theorem results_cell_row_tmp {P : Program} {fn : Func} {p u : Tmp} {ty : TypeId} (h : fn.results = #[.cell p ty, .tmp u]) (tmps : Array Value) (w : World) (g : Nat) (t : TypeId) (cs : Array Value) (fr : Nat × Nat) (d : TypeDesc)
    (hp : tmps.getD p undef = .pointer (some ⟨g, 0, none⟩)) (hg : w.heap[g]? = some (.cells cs t fr))
    (hu : P.underlying ty = some d) (hd : (match d with | .struct _ | .array _ _ => true | _ => false) = true) (hi : (P.info? ty).map (·.size) = some cs.size) :
    (results fn tmps).run P w = .ok (.tuple #[.agg cs, tmps.getD u undef]) w := by
  rw [results_cell_tmp h, hp]
  simp [asAddr, run_loadVar_row w g t ty cs fr d hg hu hd hi, Result.andThen]
theorem isFormat_yes (f : Int) (w : World) (h0 : 0 ≤ f) (h1 : f < 4) : Calls Tryd.prog 101 #[.int .i64 f] w fun e w' => e = .returned (.bool true) ∧ w' = w := by
  go_enter Tryd.func101, Tryd.ntmps101
  go_wp2
  go_ret
  exact ⟨rfl, rfl⟩
theorem isFormat_no (f : Int) (w : World) (h : ¬ (0 ≤ f ∧ f < 4)) : Calls Tryd.prog 101 #[.int .i64 f] w fun e w' => e = .returned (.bool false) ∧ w' = w := by
  by_cases h0 : 0 ≤ f
  · have h1 : ¬ f < 4 := fun g => h ⟨h0, g⟩
    clear h
    go_enter Tryd.func101, Tryd.ntmps101
    go_wp2
    go_ret
    exact ⟨rfl, rfl⟩
  · clear h
    go_enter Tryd.func101, Tryd.ntmps101
    go_wp2
    go_ret
    exact ⟨rfl, rfl⟩
set_option maxHeartbeats 1600000 in
theorem layoutOf_0 (w : World) (hs : 0 < w.heap.size) (c0 : w.cell? ⟨0, 0, none⟩ = some (.int .i64 (24))) (c1 : w.cell? ⟨0, 1, none⟩ = some (.int .i64 (-126))) (c2 : w.cell? ⟨0, 2, none⟩ = some (.int .i64 (127))) (c3 : w.cell? ⟨0, 3, none⟩ = some (.int .i64 (32))) (c4 : w.cell? ⟨0, 4, none⟩ = some (.int .i64 (8))) (c5 : w.cell? ⟨0, 5, none⟩ = some (.bool false)) : Calls Tryd.prog 65 #[.int .i64 0] w fun e w' => e = .returned (.tuple #[.agg #[.int .i64 (24), .int .i64 (-126), .int .i64 (127), .int .i64 (32), .int .i64 (8), .bool false], .bool true]) ∧ w' = w.alloc (.cells #[.int .i64 (24), .int .i64 (-126), .int .i64 (127), .int .i64 (32), .int .i64 (8), .bool false] 91) := by
  go_enter Tryd.func65, Tryd.ntmps65
  go_wp2_with (go_at_call 101; refine (isFormat_yes _ _ (by decide) (by decide)).mono ?_; rintro e w' ⟨rfl, rfl⟩)
  refine bodyPost_ret (results_cell_row_tmp rfl _ _ w.heap.size 91 #[.int .i64 (24), .int .i64 (-126), .int .i64 (127), .int .i64 (32), .int .i64 (8), .bool false] (0, 0) _ rfl (heap_alloc_new _ _) Tryd.underlying91 rfl (by kernel_rfl)) rfl ?_
  exact ⟨rfl, rfl⟩
set_option maxHeartbeats 1600000 in
theorem layoutOf_1 (w : World) (hs : 0 < w.heap.size) (c0 : w.cell? ⟨0, 6, none⟩ = some (.int .i64 (53))) (c1 : w.cell? ⟨0, 7, none⟩ = some (.int .i64 (-1022))) (c2 : w.cell? ⟨0, 8, none⟩ = some (.int .i64 (1023))) (c3 : w.cell? ⟨0, 9, none⟩ = some (.int .i64 (64))) (c4 : w.cell? ⟨0, 10, none⟩ = some (.int .i64 (11))) (c5 : w.cell? ⟨0, 11, none⟩ = some (.bool false)) : Calls Tryd.prog 65 #[.int .i64 1] w fun e w' => e = .returned (.tuple #[.agg #[.int .i64 (53), .int .i64 (-1022), .int .i64 (1023), .int .i64 (64), .int .i64 (11), .bool false], .bool true]) ∧ w' = w.alloc (.cells #[.int .i64 (53), .int .i64 (-1022), .int .i64 (1023), .int .i64 (64), .int .i64 (11), .bool false] 91) := by
  go_enter Tryd.func65, Tryd.ntmps65
  go_wp2_with (go_at_call 101; refine (isFormat_yes _ _ (by decide) (by decide)).mono ?_; rintro e w' ⟨rfl, rfl⟩)
  refine bodyPost_ret (results_cell_row_tmp rfl _ _ w.heap.size 91 #[.int .i64 (53), .int .i64 (-1022), .int .i64 (1023), .int .i64 (64), .int .i64 (11), .bool false] (0, 0) _ rfl (heap_alloc_new _ _) Tryd.underlying91 rfl (by kernel_rfl)) rfl ?_
  exact ⟨rfl, rfl⟩
set_option maxHeartbeats 1600000 in
theorem layoutOf_2 (w : World) (hs : 0 < w.heap.size) (c0 : w.cell? ⟨0, 12, none⟩ = some (.int .i64 (64))) (c1 : w.cell? ⟨0, 13, none⟩ = some (.int .i64 (-16382))) (c2 : w.cell? ⟨0, 14, none⟩ = some (.int .i64 (16383))) (c3 : w.cell? ⟨0, 15, none⟩ = some (.int .i64 (80))) (c4 : w.cell? ⟨0, 16, none⟩ = some (.int .i64 (15))) (c5 : w.cell? ⟨0, 17, none⟩ = some (.bool true)) : Calls Tryd.prog 65 #[.int .i64 2] w fun e w' => e = .returned (.tuple #[.agg #[.int .i64 (64), .int .i64 (-16382), .int .i64 (16383), .int .i64 (80), .int .i64 (15), .bool true], .bool true]) ∧ w' = w.alloc (.cells #[.int .i64 (64), .int .i64 (-16382), .int .i64 (16383), .int .i64 (80), .int .i64 (15), .bool true] 91) := by
  go_enter Tryd.func65, Tryd.ntmps65
  go_wp2_with (go_at_call 101; refine (isFormat_yes _ _ (by decide) (by decide)).mono ?_; rintro e w' ⟨rfl, rfl⟩)
  refine bodyPost_ret (results_cell_row_tmp rfl _ _ w.heap.size 91 #[.int .i64 (64), .int .i64 (-16382), .int .i64 (16383), .int .i64 (80), .int .i64 (15), .bool true] (0, 0) _ rfl (heap_alloc_new _ _) Tryd.underlying91 rfl (by kernel_rfl)) rfl ?_
  exact ⟨rfl, rfl⟩
set_option maxHeartbeats 1600000 in
theorem layoutOf_3 (w : World) (hs : 0 < w.heap.size) (c0 : w.cell? ⟨0, 18, none⟩ = some (.int .i64 (113))) (c1 : w.cell? ⟨0, 19, none⟩ = some (.int .i64 (-16382))) (c2 : w.cell? ⟨0, 20, none⟩ = some (.int .i64 (16383))) (c3 : w.cell? ⟨0, 21, none⟩ = some (.int .i64 (128))) (c4 : w.cell? ⟨0, 22, none⟩ = some (.int .i64 (15))) (c5 : w.cell? ⟨0, 23, none⟩ = some (.bool false)) : Calls Tryd.prog 65 #[.int .i64 3] w fun e w' => e = .returned (.tuple #[.agg #[.int .i64 (113), .int .i64 (-16382), .int .i64 (16383), .int .i64 (128), .int .i64 (15), .bool false], .bool true]) ∧ w' = w.alloc (.cells #[.int .i64 (113), .int .i64 (-16382), .int .i64 (16383), .int .i64 (128), .int .i64 (15), .bool false] 91) := by
  go_enter Tryd.func65, Tryd.ntmps65
  go_wp2_with (go_at_call 101; refine (isFormat_yes _ _ (by decide) (by decide)).mono ?_; rintro e w' ⟨rfl, rfl⟩)
  refine bodyPost_ret (results_cell_row_tmp rfl _ _ w.heap.size 91 #[.int .i64 (113), .int .i64 (-16382), .int .i64 (16383), .int .i64 (128), .int .i64 (15), .bool false] (0, 0) _ rfl (heap_alloc_new _ _) Tryd.underlying91 rfl (by kernel_rfl)) rfl ?_
  exact ⟨rfl, rfl⟩
set_option maxHeartbeats 1600000 in
theorem layoutOf_no (f : Int) (w : World) (h : ¬ (0 ≤ f ∧ f < 4)) : Calls Tryd.prog 65 #[.int .i64 f] w fun e w' => e = .returned (.tuple #[.agg #[.int .i64 (0), .int .i64 (0), .int .i64 (0), .int .i64 (0), .int .i64 (0), .bool false], .bool false]) ∧ w' = w.alloc (.cells #[.int .i64 (0), .int .i64 (0), .int .i64 (0), .int .i64 (0), .int .i64 (0), .bool false] 91) := by
  have hk : Hid (¬ (0 ≤ f ∧ f < 4)) := h
  clear h
  go_enter Tryd.func65, Tryd.ntmps65
  go_wp2_with (go_at_call 101; refine (isFormat_no _ _ hk.out).mono ?_; rintro e w' ⟨rfl, rfl⟩)
  refine bodyPost_ret (results_cell_row_tmp rfl _ _ w.heap.size 91 #[.int .i64 (0), .int .i64 (0), .int .i64 (0), .int .i64 (0), .int .i64 (0), .bool false] (0, 0) _ rfl (heap_alloc_new _ _) Tryd.underlying91 rfl (by kernel_rfl)) rfl ?_
  exact ⟨rfl, rfl⟩
def impl_layoutOf.f (f : Int) : Option (Int × Int × Int × Int × Int × Bool × Bool) :=
  some (if f = 0 then (24, -126, 127, 32, 8, false, true) else if f = 1 then (53, -1022, 1023, 64, 11, false, true) else if f = 2 then (64, -16382, 16383, 80, 15, true, true) else if f = 3 then (113, -16382, 16383, 128, 15, false, true) else (0, 0, 0, 0, 0, false, false))
theorem impl_layoutOf.calls (a0 : Int) (r1 r2 r3 r4 r5 : Int) (r6 r7 : Bool) (w : World) (hT : Tabled w) (h : impl_layoutOf.f a0 = some (r1, r2, r3, r4, r5, r6, r7)) :
    Calls Tryd.prog 65 #[.int .i64 a0] w fun e w' => e = .returned (.tuple #[.agg #[.int .i64 r1, .int .i64 r2, .int .i64 r3, .int .i64 r4, .int .i64 r5, .bool r6], .bool r7]) ∧ Below w.heap.size w w' := by
  have h := Option.some.inj h
  have fin : ∀ {v : Value} {o : Obj}, (Calls Tryd.prog 65 #[.int .i64 a0] w fun e w' => e = .returned v ∧ w' = w.alloc o) → Calls Tryd.prog 65 #[.int .i64 a0] w fun e w' => e = .returned v ∧ Below w.heap.size w w' :=
    fun hc => hc.mono fun e w' ⟨he, hw⟩ => ⟨he, by rw [hw]; exact (Below.refl _ _).alloc (Nat.le_refl _) _⟩
  have hs := hT.1
  have hc := hT.2
  by_cases h0 : a0 = 0
  · subst h0
    rw [if_pos rfl] at h
    injection h with h1 h; injection h with h2 h; injection h with h3 h; injection h with h4 h; injection h with h5 h; injection h with h6 h7
    subst h1 h2 h3 h4 h5 h6 h7
    exact fin (layoutOf_0 w hs (hc 0 (by decide)) (hc 1 (by decide)) (hc 2 (by decide)) (hc 3 (by decide)) (hc 4 (by decide)) (hc 5 (by decide)))
  rw [if_neg h0] at h
  by_cases h0 : a0 = 1
  · subst h0
    rw [if_pos rfl] at h
    injection h with h1 h; injection h with h2 h; injection h with h3 h; injection h with h4 h; injection h with h5 h; injection h with h6 h7
    subst h1 h2 h3 h4 h5 h6 h7
    exact fin (layoutOf_1 w hs (hc 6 (by decide)) (hc 7 (by decide)) (hc 8 (by decide)) (hc 9 (by decide)) (hc 10 (by decide)) (hc 11 (by decide)))
  rw [if_neg h0] at h
  by_cases h0 : a0 = 2
  · subst h0
    rw [if_pos rfl] at h
    injection h with h1 h; injection h with h2 h; injection h with h3 h; injection h with h4 h; injection h with h5 h; injection h with h6 h7
    subst h1 h2 h3 h4 h5 h6 h7
    exact fin (layoutOf_2 w hs (hc 12 (by decide)) (hc 13 (by decide)) (hc 14 (by decide)) (hc 15 (by decide)) (hc 16 (by decide)) (hc 17 (by decide)))
  rw [if_neg h0] at h
  by_cases h0 : a0 = 3
  · subst h0
    rw [if_pos rfl] at h
    injection h with h1 h; injection h with h2 h; injection h with h3 h; injection h with h4 h; injection h with h5 h; injection h with h6 h7
    subst h1 h2 h3 h4 h5 h6 h7
    exact fin (layoutOf_3 w hs (hc 18 (by decide)) (hc 19 (by decide)) (hc 20 (by decide)) (hc 21 (by decide)) (hc 22 (by decide)) (hc 23 (by decide)))
  rw [if_neg h0] at h
  injection h with h1 h; injection h with h2 h; injection h with h3 h; injection h with h4 h; injection h with h5 h; injection h with h6 h7
  subst h1 h2 h3 h4 h5 h6 h7
  exact fin (layoutOf_no a0 w (by omega))
end Go.Proofs.YtdbnmdchecacdaaDoor.G
end
section
namespace Go.Proofs.YtdbnmdchecacdaaDoor.G
def spec_Describe.f (f : Int) : Option (Int × Int × Int × Int × Int × Bool) :=
 if f = 0 then some (24, -126, 127, 32, 8, false) else if f = 1 then some (53, -1022, 1023, 64, 11, false) else if f = 2 then some (64, -16382, 16383, 80, 15, true) else if f = 3 then some (113, -16382, 16383, 128, 15, false) else some (0, 0, 0, 0, 0, false)
end Go.Proofs.YtdbnmdchecacdaaDoor.G
namespace Go.Proofs.YtdbnmdchecacdaaDoor.M
open Go.RowKit Go.Proofs.YtdbnmdchecacdaaDoor.G Go.Proofs.YtdbnmdchecacdaaDoorV.PrintWords Go.Proofs.YtdbnmdchecacdaaDoorV.PrintLast Go.Proofs.YtdbnmdchecacdaaDoor.X
set_option linter.unusedVariables false
set_option linter.unusedSimpArgs false
theorem spec_Describe.calls (f : Int) (r1 r2 r3 r4 r5 : Int) (r6 : Bool) (h : spec_Describe.f f = some (r1, r2, r3, r4, r5, r6)) : CtV Tryd.prog 57 [.int .i64 f] [] (.agg #[.int .i64 r1, .int .i64 r2, .int .i64 r3, .int .i64 r4, .int .i64 r5, .bool r6]) := by
 refine ct_of Tryd.func57 rfl (by kernel_rfl) (fun B w0 => ?_)
 unfold spec_Describe.f at h
 by_cases c0 : f = 0
 ·subst c0
  rw [if_pos rfl] at h
  cases h
  refine xg ?_
  refine xb 2 [.int .i64 0, .int .i64 0, .int .i64 0, .int .i64 0, .int .i64 0, .bool false] 83 (fun g0 => ?_)
  refine xz [] [] ?_
  refine SW_seq ?_
  refine xr [] [(3, .int .i64 0)] ?_
  refine SW_block ?_
  refine xr [] [(4, .bool true)] ?_
  refine xs1 ?_
  refine xq [(1, [0])] [] [(0, [.int .i64 24, .int .i64 (-126), .int .i64 127, .int .i64 32, .int .i64 8, .bool false])] ?_
  refine SW_ret ?_
  refine xe () (.agg #[.int .i64 24, .int .i64 (-126), .int .i64 127, .int .i64 32, .int .i64 8, .bool false]) [0] ?_ trivial
  rfl
 ·rw [if_neg c0] at h
  have z0 : (f == 0) = false := by rw [beq_eq_false_iff_ne]; exact c0
  by_cases c1 : f = 1
  ·subst c1
   rw [if_pos rfl] at h
   cases h
   refine xg ?_
   refine xb 2 [.int .i64 0, .int .i64 0, .int .i64 0, .int .i64 0, .int .i64 0, .bool false] 83 (fun g0 => ?_)
   refine xz [] [] ?_
   refine SW_seq ?_
   refine xr [] [(3, .int .i64 1)] ?_
   refine SW_block ?_
   refine xr [] [(4, .bool false)] ?_
   refine xs0 ?_
   refine xr [] [(7, .bool true)] ?_
   refine xs1 ?_
   refine xq [(1, [0])] [] [(0, [.int .i64 53, .int .i64 (-1022), .int .i64 1023, .int .i64 64, .int .i64 11, .bool false])] ?_
   refine SW_ret ?_
   refine xe () (.agg #[.int .i64 53, .int .i64 (-1022), .int .i64 1023, .int .i64 64, .int .i64 11, .bool false]) [0] ?_ trivial
   rfl
  ·rw [if_neg c1] at h
   have z1 : (f == 1) = false := by rw [beq_eq_false_iff_ne]; exact c1
   by_cases c2 : f = 2
   ·subst c2
    rw [if_pos rfl] at h
    cases h
    refine xg ?_
    refine xb 2 [.int .i64 0, .int .i64 0, .int .i64 0, .int .i64 0, .int .i64 0, .bool false] 83 (fun g0 => ?_)
    refine xz [] [] ?_
    refine SW_seq ?_
    refine xr [] [(3, .int .i64 2)] ?_
    refine SW_block ?_
    refine xr [] [(4, .bool false)] ?_
    refine xs0 ?_
    refine xr [] [(7, .bool false)] ?_
    refine xs0 ?_
    refine xr [] [(10, .bool true)] ?_
    refine xs1 ?_
    refine xq [(1, [0])] [] [(0, [.int .i64 64, .int .i64 (-16382), .int .i64 16383, .int .i64 80, .int .i64 15, .bool true])] ?_
    refine SW_ret ?_
    refine xe () (.agg #[.int .i64 64, .int .i64 (-16382), .int .i64 16383, .int .i64 80, .int .i64 15, .bool true]) [0] ?_ trivial
    rfl
   ·rw [if_neg c2] at h
    have z2 : (f == 2) = false := by rw [beq_eq_false_iff_ne]; exact c2
    by_cases c3 : f = 3
    ·subst c3
     rw [if_pos rfl] at h
     cases h
     refine xg ?_
     refine xb 2 [.int .i64 0, .int .i64 0, .int .i64 0, .int .i64 0, .int .i64 0, .bool false] 83 (fun g0 => ?_)
     refine xz [] [] ?_
     refine SW_seq ?_
     refine xr [] [(3, .int .i64 3)] ?_
     refine SW_block ?_
     refine xr [] [(4, .bool false)] ?_
     refine xs0 ?_
     refine xr [] [(7, .bool false)] ?_
     refine xs0 ?_
     refine xr [] [(10, .bool false)] ?_
     refine xs0 ?_
     refine xr [] [(13, .bool true)] ?_
     refine xs1 ?_
     refine xq [(1, [0])] [] [(0, [.int .i64 113, .int .i64 (-16382), .int .i64 16383, .int .i64 128, .int .i64 15, .bool false])] ?_
     refine SW_ret ?_
     refine xe () (.agg #[.int .i64 113, .int .i64 (-16382), .int .i64 16383, .int .i64 128, .int .i64 15, .bool false]) [0] ?_ trivial
     rfl
    ·rw [if_neg c3] at h
     have z3 : (f == 3) = false := by rw [beq_eq_false_iff_ne]; exact c3
     cases h
     refine xg ?_
     refine xb 2 [.int .i64 0, .int .i64 0, .int .i64 0, .int .i64 0, .int .i64 0, .bool false] 83 (fun g0 => ?_)
     refine xz [] [] ?_
     refine SW_seq ?_
     refine xr [] [(3, .int .i64 f)] ?_
     refine SW_block ?_
     refine xr [] [(4, .bool (f == 0))] ?_
     refine xsf z0 ?_
     refine xr [] [(7, .bool (f == 1))] ?_
     refine xsf z1 ?_
     refine xr [] [(10, .bool (f == 2))] ?_
     refine xsf z2 ?_
     refine xr [] [(13, .bool (f == 3))] ?_
     refine xsf z3 ?_
     refine SW_skip ?_
     refine xq [(1, [0])] [] [] ?_
     refine SW_ret ?_
     refine xe () (.agg #[.int .i64 0, .int .i64 0, .int .i64 0, .int .i64 0, .int .i64 0, .bool false]) [0] ?_ trivial
     rfl
theorem ct_spec_Describe {P : Nat} {emin emax : Int} {W E : Nat} {ex : Bool} (f : Int) (hf : spec_Describe.f f = some ((P : Int), emin, emax, (W : Int), (E : Int), ex)) : CtV Tryd.prog 57 [.int .i64 f] [] (dscV P emin emax W E ex) := spec_Describe.calls f _ _ _ _ _ _ hf
theorem ct_impl_layoutOf {P : Nat} {emin emax : Int} {W E : Nat} {ex : Bool} (f : Int) (hf : impl_layoutOf.f f = some ((P : Int), emin, emax, (W : Int), (E : Int), ex, true)) : CtV Tryd.prog 65 [.int .i64 f] [Tabled] (.tuple #[dscV P emin emax W E ex, .bool true]) :=
 ctV1 (fun w h1 => impl_layoutOf.calls _ _ _ _ _ _ _ _ w h1 hf)
theorem ct_impl_layout_fracBits {P : Nat} {emin emax : Int} {W E : Nat} {ex : Bool} (h : Fmt P emin emax W E ex) : CtV Tryd.prog 67 [.agg #[.int .i64 P, .int .i64 emin, .int .i64 emax, .int .i64 W, .int .i64 E, .bool ex]] [] (.int .i64 (fracN P ex)) := by
 refine ct_of Tryd.func67 rfl (by kernel_rfl) (fun B w0 => ?_)
 have hp0 := h.p0
 have hp1 := h.p1
 have v1 : Ve (IntKind.i64.wrap ((P : Int) - 1)) ((P - 1 : Nat) : Int) := veI (by omega) (by omega)
 unfold fracN
 cases ex with
 | true =>
  refine xg ?_
  refine xb 1 [.int .i64 (P : Int), .int .i64 emin, .int .i64 emax, .int .i64 (W : Int), .int .i64 (E : Int), .bool true] 91 (fun g0 => ?_)
  refine xz [] [(2, .int .i64 0)] ?_
  refine SW_seq ?_
  refine xr [(2, [0])] [(5, .bool true)] ?_
  refine xs1 ?_
  refine xr [(2, [0])] [(2, .int .i64 (P : Int))] ?_
  refine SW_ret ?_
  refine xe () (.int .i64 (P : Int)) [] ?_ trivial
  rfl
 | false =>
  refine xg ?_
  refine xb 1 [.int .i64 (P : Int), .int .i64 emin, .int .i64 emax, .int .i64 (W : Int), .int .i64 (E : Int), .bool false] 91 (fun g0 => ?_)
  refine xz [] [(2, .int .i64 0)] ?_
  refine SW_seq ?_
  refine xr [(2, [0])] [(5, .bool false)] ?_
  refine xs0 ?_
  refine SW_skip ?_
  refine xg ?_
  refine xn 3 [(2, [0])] [(11, .int .i64 (P : Int))] ?_
  refine xve 12 IntKind.i64 (IntKind.wrap IntKind.i64 ((P : Int) - 1)) ((((P - 1) : Nat) : Int)) v1 ?_
  refine xz [] [(2, .int .i64 (((P - 1) : Nat) : Int))] ?_
  refine SW_ret ?_
  refine xe () (.int .i64 (((P - 1) : Nat) : Int)) [] ?_ trivial
  rfl
theorem ct_impl_layout_top {P : Nat} {emin emax : Int} {W E : Nat} {ex : Bool} (h : Fmt P emin emax W E ex) : CtV Tryd.prog 69 [.agg #[.int .i64 P, .int .i64 emin, .int .i64 emax, .int .i64 W, .int .i64 E, .bool ex]] [] (.int .i64 ((2 ^ E - 1 : Nat) : Int)) := by
 refine ct_of Tryd.func69 rfl (by kernel_rfl) (fun B w0 => ?_)
 have hE := h.plt
 have he1 := h.e1
 have hp : 0 < 2 ^ E := Nat.pow_pos (by decide)
 have v1 : Ve (shl .i64 1 (E : Int)) ((2 ^ E : Nat) : Int) := ⟨by
  unfold shl
  rw [Int.toNat_natCast, show IntKind.i64.bits = 64 from rfl, Nat.min_eq_left (by omega), show ((1 : Int) * 2 ^ E) = ((2 ^ E : Nat) : Int) by simp]
  exact wrap_i64 (by omega)⟩
 have v2 : Ve (IntKind.i64.wrap (((2 ^ E : Nat) : Int) - 1)) ((2 ^ E - 1 : Nat) : Int) := veI (by omega) (by omega)
 refine xg ?_
 refine xb 1 [.int .i64 (P : Int), .int .i64 emin, .int .i64 emax, .int .i64 (W : Int), .int .i64 (E : Int), .bool ex] 91 (fun g0 => ?_)
 refine xz [] [(2, .int .i64 0)] ?_
 refine xg ?_
 refine xn 3 [(2, [0])] [(5, .int .i64 (E : Int))] ?_
 refine xve 6 IntKind.i64 (shl IntKind.i64 1 (E : Int)) ((((2 ^ E) : Nat) : Int)) v1 ?_
 refine xve 7 IntKind.i64 (IntKind.wrap IntKind.i64 ((((2 ^ E) : Nat) : Int) - 1)) ((((2 ^ E - 1) : Nat) : Int)) v2 ?_
 refine xz [] [(2, .int .i64 (((2 ^ E - 1) : Nat) : Int))] ?_
 refine SW_ret ?_
 refine xe () (.int .i64 (((2 ^ E - 1) : Nat) : Int)) [] ?_ trivial
 rfl
theorem ct_impl_layout_qMin {P : Nat} {emin emax : Int} {W E : Nat} {ex : Bool} (h : Fmt P emin emax W E ex) : CtV Tryd.prog 70 [.agg #[.int .i64 P, .int .i64 emin, .int .i64 emax, .int .i64 W, .int .i64 E, .bool ex]] [] (.int .i64 (emin - P + 1)) := by
 refine ct_of Tryd.func70 rfl (by kernel_rfl) (fun B w0 => ?_)
 have hp1 := h.p1
 have m0 := h.m0
 have v1 : Ve (IntKind.i64.wrap (emin - (P : Int))) (emin - (P : Int)) := ⟨wrap_i64 (by omega)⟩
 have v2 : Ve (IntKind.i64.wrap (emin - (P : Int) + 1)) (emin - (P : Int) + 1) := ⟨wrap_i64 (by omega)⟩
 refine xg ?_
 refine xb 1 [.int .i64 (P : Int), .int .i64 emin, .int .i64 emax, .int .i64 (W : Int), .int .i64 (E : Int), .bool ex] 91 (fun g0 => ?_)
 refine xz [] [(2, .int .i64 0)] ?_
 refine xg ?_
 refine xn 6 [(2, [0]), (5, [0])] [(8, .int .i64 (P : Int)), (5, .int .i64 emin)] ?_
 refine xve 9 IntKind.i64 (IntKind.wrap IntKind.i64 (emin - (P : Int))) (emin - (P : Int)) v1 ?_
 refine xve 10 IntKind.i64 (IntKind.wrap IntKind.i64 (emin - (P : Int) + 1)) (emin - (P : Int) + 1) v2 ?_
 refine xz [] [(2, .int .i64 (emin - (P : Int) + 1))] ?_
 refine SW_ret ?_
 refine xe () (.int .i64 (emin - (P : Int) + 1)) [] ?_ trivial
 rfl
end Go.Proofs.YtdbnmdchecacdaaDoor.M
end
section
namespace Go.Proofs.YtdbnmdchecacdaaDoor.M
open Go.RowKit Go.Proofs.YtdbnmdchecacdaaDoor.G Go.Proofs.YtdbnmdchecacdaaDoorV.PrintWords Go.Proofs.YtdbnmdchecacdaaDoorV.PrintLast Go.Proofs.YtdbnmdchecacdaaDoor.X
set_option linter.unusedVariables false
set_option linter.unusedSimpArgs false
def below (x y : Nat) (k : Int) : Bool := if 0 ≤ k then decide (x < y * 2 ^ k.toNat) else decide (x * 2 ^ (-k).toNat < y)
end Go.Proofs.YtdbnmdchecacdaaDoor.M
end
section
namespace Go.Proofs.YtdbnmdchecacdaaDoor.M
open Go.RowKit Go.Proofs.YtdbnmdchecacdaaDoor.G Go.Proofs.YtdbnmdchecacdaaDoorV.PrintWords Go.Proofs.YtdbnmdchecacdaaDoorV.PrintLast Go.Proofs.YtdbnmdchecacdaaDoor.X
set_option linter.unusedVariables false
set_option linter.unusedSimpArgs false
def makeN (P W : Nat) (ex : Bool) (neg lead : Bool) (exp rest : Nat) : Nat :=
 rest + (if ex = true ∧ lead = true then 2 ^ (P - 1) else 0) + exp * 2 ^ fracN P ex + (if neg = true then 2 ^ (W - 1) else 0)
theorem makeN_lt {P : Nat} {emin emax : Int} {W E : Nat} {ex : Bool} (h : Fmt P emin emax W E ex) (neg lead : Bool) (exp rest : Nat) (he : exp < 2 ^ E) (hr : rest < 2 ^ (P - 1)) : makeN P W ex neg lead exp rest < 2 ^ W := by
 have hw1 := h.w1
 have p0 := h.p0
 unfold makeN
 have h1 : rest + (if ex = true ∧ lead = true then 2 ^ (P - 1) else 0) < 2 ^ fracN P ex := by
  unfold fracN
  cases ex with
  | true =>
   rw [if_pos rfl]
   have h2 : 2 ^ P = 2 ^ (P - 1) * 2 := by rw [← Nat.pow_succ]; congr 1; omega
   split <;> omega
  | false =>
   rw [if_neg (show ¬ (false = true ∧ lead = true) from fun a => absurd a.1 (by decide)), if_neg (show ¬ false = true by decide)]
   exact hr
 have h3 : (rest + (if ex = true ∧ lead = true then 2 ^ (P - 1) else 0)) + exp * 2 ^ fracN P ex < 2 ^ (W - 1) := by
  have e1 : 2 ^ (W - 1) = 2 ^ E * 2 ^ fracN P ex := by rw [← Nat.pow_add]; congr 1; omega
  rw [e1]
  have h4 : (exp + 1) * 2 ^ fracN P ex ≤ 2 ^ E * 2 ^ fracN P ex := Nat.mul_le_mul_right _ he
  rw [Nat.add_mul, Nat.one_mul] at h4
  omega
 have h5 : 2 ^ W = 2 ^ (W - 1) * 2 := by rw [← Nat.pow_succ]; congr 1; omega
 rw [h5]
 generalize (rest + (if ex = true ∧ lead = true then 2 ^ (P - 1) else 0)) + exp * 2 ^ fracN P ex = X at *
 generalize 2 ^ (W - 1) = Y at *
 split <;> omega
theorem Weak.mk' {s t : St} (he : t.env.map (fun p => X.look s.env p.1) = t.env.map (fun p => some p.2)) (hb : s.bs = t.bs) (hf : Sub t.fs s.fs) : Weak s t := by
 refine Weak.of ?_ hb hf
 have : ∀ l : List (Nat × Value), l.map (fun p => X.look s.env p.1) = l.map (fun p => some p.2) → lookAll s.env l := by
  intro l
  induction l with
  | nil => intro _; trivial
  | cons p r ih =>
   intro h
   simp only [List.map_cons, List.cons.injEq] at h
   exact ⟨h.1, ih h.2⟩
 exact this _ he
theorem sm128 {x : Nat} (h : x < 2 ^ 250) : Sm x := Sm.of (k := 250) h (by decide)
theorem ct_spec_l2Make {P : Nat} {emin emax : Int} {W E : Nat} {ex : Bool} (h : Fmt P emin emax W E ex) (neg lead : Bool) (exp rest : Nat) (he : exp < 2 ^ E) (hr : rest < 2 ^ (P - 1)) (a : Int) (hea : Nn a exp) (A : Option Addr) (c : Nat) :
  CtV Tryd.prog 78 [dscV P emin emax W E ex, .bool neg, .int .i64 a, .bool lead, .slice A (ofN B32 rest).length c] [Row .u64 A c (ofN B32 rest)] (.agg #[.int .u64 (hiI (makeN P W ex neg lead exp rest)), .int .u64 (loI (makeN P W ex neg lead exp rest))]) := by
 obtain ⟨rfl⟩ := hea
 have p0 := h.p0
 have p1 := h.p1
 have w1 := h.w1
 have w2 := h.w2
 have hlt := makeN_lt h neg lead exp rest he hr
 have h128 : 2 ^ W ≤ B128 := Nat.pow_le_pow_right (n := 2) (by decide) w2
 have hP1 : 2 ^ (P - 1) ≤ 2 ^ 128 := Nat.pow_le_pow_right (by decide) (by omega)
 have s1 : Sm rest := sm128 (by omega)
 have s2 : Sm (2 ^ (P - 1)) := sm128 (by omega)
 have nP : Nn (IntKind.i64.wrap ((P : Int) - 1)) (P - 1) := Nn.wrap (by omega) (by omega)
 have nW : Nn (IntKind.i64.wrap ((W : Int) - 1)) (W - 1) := Nn.wrap (by omega) (by omega)
 have hB : 2 ^ E ≤ 2 ^ 15 := Nat.pow_le_pow_right (by decide) h.e1
 have n1 : Nn (IntKind.u64.wrap (exp : Int)) exp := ⟨wrap_u64_id (by omega)⟩
 have n2 : exp < 18446744073709551616 := by omega
 have s3 : Sm exp := sm128 (by omega)
 have hF : fracN P ex ≤ 113 := by unfold fracN; split <;> omega
 have nF : fracN P ex = if ex = true then P else P - 1 := rfl
 refine ct_of Tryd.func78 rfl (by kernel_rfl) (fun B w0 => ?_)
 refine xg ?_
 refine xb 5 [.int .i64 (P : Int), .int .i64 emin, .int .i64 emax, .int .i64 (W : Int), .int .i64 (E : Int), .bool ex] 83 (fun g0 => ?_)
 refine xb 10 [.int .u64 0, .int .u64 0] 25 (fun g1 => ?_)
 refine xz [] [] ?_
 refine xr [] [(11, .slice A (List.length (ofN B32 rest)) c)] ?_
 refine xr [(1, [0])] [(12, .int .i64 (IntKind.wrap IntKind.i64 ((P : Int) - 1)))] ?_
 refine SW_cut (fun s' => ∃ a x A1 c1, Nn a (fracN P ex) ∧ x = rest + (if ex = true ∧ lead = true then 2 ^ (P - 1) else 0) ∧ Weak s' ⟨[(1, .bool neg), (2, .int .i64 exp), (5, .pointer (some ⟨g0, 0, none⟩)), (10, .pointer (some ⟨g1, 0, none⟩)), (11, .slice A1 (ofN B32 x).length c1), (12, .int .i64 a)], [⟨g0, [.int .i64 P, .int .i64 emin, .int .i64 emax, .int .i64 W, .int .i64 E, .bool ex], 83⟩, ⟨g1, [.int .u64 0, .int .u64 0], 25⟩], [Row .u64 A1 c1 (ofN B32 x)]⟩) ?_ ?_
 ·refine xr [(1, [0])] [(18, .bool ex)] ?_
  refine xs (ex) (fun q0 => ?_) (fun q0 => ?_)
  ·refine xr [(1, [0])] [(12, .int .i64 (P : Int))] ?_
   refine xr [] [(21, .bool lead)] ?_
   refine xs (lead) (fun q1 => ?_) (fun q1 => ?_)
   ·refine SW_region ?_
    refine xn 4 [(2, [0])] [(25, .int .i64 (IntKind.wrap IntKind.i64 ((P : Int) - 1))), (22, .slice A (List.length (ofN B32 rest)) c)] ?_
    refine xcr 26 (ct_spec_l2Two (IntKind.wrap IntKind.i64 ((P : Int) - 1)) (P - 1) nP (by omega)) zs0 (fun A0 k0 => ?_)
    refine xcr 27 (ct_spec_l1Add (rest) (2 ^ (P - 1)) (A) (A0) (c) (k0) s1 s2) (zsS (ziS zi0) (zsS zi0 zs0)) (fun A1 k1 => ?_)
    refine xz [] [(11, .slice A1 (List.length (ofN B32 (rest + 2 ^ (P - 1)))) k1)] ?_
    refine ⟨(P : Int), _, A1, k1, ⟨by rw [nF, if_pos q0]⟩, rfl, ?_⟩
    rw [if_pos ⟨q0, q1⟩]
    exact Weak.mk' (by kernel_rfl) rfl (zsS zi0 zs0)
   ·refine SW_skip ?_
    refine ⟨(P : Int), _, A, c, ⟨by rw [nF, if_pos q0]⟩, rfl, ?_⟩
    rw [if_neg (fun z => by rw [z.2] at q1; cases q1)]
    exact Weak.mk' (by kernel_rfl) rfl (zsS zi0 zs0)
  ·refine SW_skip ?_
   refine ⟨IntKind.i64.wrap ((P : Int) - 1), _, A, c, ⟨by rw [nF, if_neg (by rw [q0]; decide)]; exact nP.out⟩, rfl, ?_⟩
   rw [if_neg (fun z => by rw [z.1] at q0; cases q0)]
   exact Weak.mk' (by kernel_rfl) rfl (zsS zi0 zs0)
 ·rintro s' ⟨a, x, A1, c1, na, hx, hw⟩
  refine SW_weak hw ?_
  have hm : makeN P W ex neg lead exp rest = x + exp * 2 ^ fracN P ex + (if neg = true then 2 ^ (W - 1) else 0) := by rw [hx]; rfl
  rw [hm] at hlt ⊢
  have hW1 : 2 ^ (W - 1) ≤ 2 ^ 128 := Nat.pow_le_pow_right (by decide) (by omega)
  have hl0 : x + exp * 2 ^ fracN P ex < 2 ^ 128 := Nat.lt_of_le_of_lt (Nat.le_add_right _ _) (Nat.lt_of_lt_of_le hlt h128)
  have hl1 : x + exp * 2 ^ fracN P ex + (if neg = true then 2 ^ (W - 1) else 0) < B128 := Nat.lt_of_lt_of_le hlt h128
  have s4 : Sm x := sm128 (by omega)
  have s5 : Sm (exp * 2 ^ fracN P ex) := sm128 (by omega)
  have s6 : Sm (x + exp * 2 ^ fracN P ex) := sm128 (by omega)
  have s7 : Sm (2 ^ (W - 1)) := sm128 (by omega)
  refine xg ?_
  refine xn 3 [] [(30, .int .u64 (IntKind.wrap IntKind.u64 (exp : Int))), (28, .slice A1 (List.length (ofN B32 x)) c1)] ?_
  refine xcr 31 (ct_spec_l1Of (IntKind.wrap IntKind.u64 (exp : Int)) (exp) n1 n2) zs0 (fun A2 k2 => ?_)
  refine xn 5 [] [(32, .int .i64 a)] ?_
  refine xcr 33 (ct_spec_l1Left (exp) (A2) (k2) (a) (fracN P ex) na (by omega) s3) (zsS zi0 zs0) (fun A3 k3 => ?_)
  refine xcr 34 (ct_spec_l1Add (x) (exp * 2 ^ fracN P ex) (A1) (A3) (c1) (k3) s4 s5) (zsS (ziS (ziS zi0)) (zsS zi0 zs0)) (fun A4 k4 => ?_)
  refine xz [] [(11, .slice A4 (List.length (ofN B32 (x + exp * 2 ^ fracN P ex))) k4)] ?_
  refine SW_cut (fun s' => ∃ A2 c2, Weak s' ⟨[(10, .pointer (some ⟨g1, 0, none⟩)), (11, .slice A2 (ofN B32 (x + exp * 2 ^ fracN P ex + (if neg = true then 2 ^ (W - 1) else 0))).length c2)], [⟨g0, [.int .i64 P, .int .i64 emin, .int .i64 emax, .int .i64 W, .int .i64 E, .bool ex], 83⟩, ⟨g1, [.int .u64 0, .int .u64 0], 25⟩], [Row .u64 A2 c2 (ofN B32 (x + exp * 2 ^ fracN P ex + (if neg = true then 2 ^ (W - 1) else 0)))]⟩) ?_ ?_
  ·refine xr [] [(35, .bool neg)] ?_
   refine xs (neg) (fun q0 => ?_) (fun q0 => ?_)
   ·refine SW_region ?_
    refine xn 4 [(2, [0])] [(39, .int .i64 (IntKind.wrap IntKind.i64 ((W : Int) - 1))), (36, .slice A4 (List.length (ofN B32 (x + exp * 2 ^ fracN P ex))) k4)] ?_
    refine xcr 40 (ct_spec_l2Two (IntKind.wrap IntKind.i64 ((W : Int) - 1)) (W - 1) nW (by omega)) zs0 (fun A5 k5 => ?_)
    refine xcr 41 (ct_spec_l1Add (x + exp * 2 ^ fracN P ex) (2 ^ (W - 1)) (A4) (A5) (k4) (k5) s6 s7) (zsS (ziS zi0) (zsS zi0 zs0)) (fun A6 k6 => ?_)
    refine xz [] [(11, .slice A6 (List.length (ofN B32 (x + exp * 2 ^ fracN P ex + 2 ^ (W - 1)))) k6)] ?_
    refine ⟨A6, k6, ?_⟩
    rw [if_pos q0]
    exact Weak.mk' (by kernel_rfl) rfl (zsS zi0 zs0)
   ·refine SW_skip ?_
    refine ⟨A4, k4, ?_⟩
    rw [if_neg (by rw [q0]; decide), Nat.add_zero]
    exact Weak.mk' (by kernel_rfl) rfl (zsS zi0 zs0)
  ·rintro s' ⟨A2, c2, hw⟩
   refine SW_weak hw ?_
   refine xg ?_
   refine xn 1 [] [(42, .slice A2 (List.length (ofN B32 (x + exp * 2 ^ fracN P ex + if neg = true then 2 ^ (W - 1) else 0))) c2)] ?_
   refine xcv 43 (ct_spec_l2Word (x + exp * 2 ^ fracN P ex + if neg = true then 2 ^ (W - 1) else 0) (A2) (c2) hl1) (zsS zi0 zs0) ?_
   refine xy [(2, [1])] [] [(1, [.int .u64 (hiI (x + exp * 2 ^ fracN P ex + if neg = true then 2 ^ (W - 1) else 0)), .int .u64 (loI (x + exp * 2 ^ fracN P ex + if neg = true then 2 ^ (W - 1) else 0))])] ?_
   refine SW_ret ?_
   refine xe () (.agg #[.int .u64 (hiI (x + exp * 2 ^ fracN P ex + if neg = true then 2 ^ (W - 1) else 0)), .int .u64 (loI (x + exp * 2 ^ fracN P ex + if neg = true then 2 ^ (W - 1) else 0))]) [1] ?_ trivial
   rfl
theorem ct_spec_l2Make' {P : Nat} {emin emax : Int} {W E : Nat} {ex : Bool} (h : Fmt P emin emax W E ex) (neg lead : Bool) (exp : Nat) (he : exp < 2 ^ E) (a : Int) (hea : Nn a exp) :
  CtV Tryd.prog 78 [dscV P emin emax W E ex, .bool neg, .int .i64 a, .bool lead, .slice none 0 0] [] (.agg #[.int .u64 (hiI (makeN P W ex neg lead exp 0)), .int .u64 (loI (makeN P W ex neg lead exp 0))]) := by
 have := ct_spec_l2Make h neg lead exp 0 he (Nat.pow_pos (by decide)) a hea none 0
 rw [ofN_nil B32_2] at this
 exact Ct_drop (Row_nil _ _) this
end Go.Proofs.YtdbnmdchecacdaaDoor.M
end
section
namespace Go.Proofs.YtdbnmdchecacdaaDoor.M
open Go.RowKit Go.Proofs.YtdbnmdchecacdaaDoor.G Go.Proofs.YtdbnmdchecacdaaDoorV.PrintWords Go.Proofs.YtdbnmdchecacdaaDoorV.PrintLast Go.Proofs.YtdbnmdchecacdaaDoor.X
set_option linter.unusedVariables false
set_option linter.unusedSimpArgs false
structure Fmt2 (P : Nat) (emin emax : Int) (W E : Nat) (ex : Bool) : Prop extends Fmt P emin emax W E ex where
  top : 2 * emax + 1 = ((2 ^ E - 1 : Nat) : Int)
  mn : emin = 1 - emax
  p3 : 3 ≤ P
theorem fmt2_0 : Fmt2 24 (-126) 127 32 8 false := ⟨fmt0, by decide, by decide, by decide⟩
theorem fmt2_1 : Fmt2 53 (-1022) 1023 64 11 false := ⟨fmt1, by decide, by decide, by decide⟩
theorem fmt2_2 : Fmt2 64 (-16382) 16383 80 15 true := ⟨fmt2, by decide, by decide, by decide⟩
theorem fmt2_3 : Fmt2 113 (-16382) 16383 128 15 false := ⟨fmt3, by decide, by decide, by decide⟩
theorem hilo_inj {a b : Nat} (h1 : hiI a = hiI b) (h2 : loI a = loI b) : a = b := by
  unfold hiI at h1
  unfold loI at h2
  omega
section
variable {P : Nat} {emin emax : Int} {W E : Nat} {ex : Bool}
theorem unp_make (h : Fmt P emin emax W E ex) (neg : Bool) (e rest : Nat) (he : e < 2 ^ E) (hr : rest < 2 ^ (P - 1)) : unpN P emin emax W E ex (makeN P W ex neg (decide (e ≠ 0)) e rest) = partsOf P emin emax E e neg rest := by
  have hw1 := h.w1
  have p0 := h.p0
  have hlt := makeN_lt h neg (decide (e ≠ 0)) e rest he hr
  unfold unpN
  rw [if_neg (Nat.not_le.2 hlt)]
  obtain ⟨low, hlow⟩ : ∃ low, low = rest + (if ex = true ∧ decide (e ≠ 0) = true then 2 ^ (P - 1) else 0) := ⟨_, rfl⟩
  have hl : low < 2 ^ fracN P ex := by
    rw [hlow]
    unfold fracN
    cases ex with
    | true =>
      rw [if_pos rfl]
      have h2 : 2 ^ P = 2 ^ (P - 1) * 2 := by rw [← Nat.pow_succ]; congr 1; omega
      split <;> omega
    | false =>
      rw [if_neg (show ¬ (false = true ∧ decide (e ≠ 0) = true) from fun a => absurd a.1 (by decide)), if_neg (show ¬ false = true by decide)]
      exact hr
  have hm : makeN P W ex neg (decide (e ≠ 0)) e rest = low + (e + (if neg = true then 2 ^ E else 0)) * 2 ^ fracN P ex := by
    unfold makeN
    rw [← hlow, Nat.add_mul, Nat.add_assoc]
    congr 2
    cases neg with
    | true => rw [if_pos rfl, if_pos rfl, ← Nat.pow_add]; congr 1; omega
    | false => rw [if_neg (by decide), if_neg (by decide), Nat.zero_mul]
  have hp : 0 < 2 ^ fracN P ex := Nat.pow_pos (by decide)
  have m1 : makeN P W ex neg (decide (e ≠ 0)) e rest % 2 ^ fracN P ex = low := by rw [hm, Nat.add_mul_mod_self_right, Nat.mod_eq_of_lt hl]
  have m2 : makeN P W ex neg (decide (e ≠ 0)) e rest / 2 ^ fracN P ex = e + (if neg = true then 2 ^ E else 0) := by rw [hm, Nat.add_mul_div_right _ _ hp, Nat.div_eq_of_lt hl, Nat.zero_add]
  have m3 : (e + (if neg = true then 2 ^ E else 0)) % 2 ^ E = e := by
    cases neg with
    | true => rw [if_pos rfl, Nat.add_mod_right, Nat.mod_eq_of_lt he]
    | false => rw [if_neg (by decide), Nat.add_zero, Nat.mod_eq_of_lt he]
  have m4 : decide (makeN P W ex neg (decide (e ≠ 0)) e rest / 2 ^ (W - 1) % 2 = 1) = neg := by
    have : 2 ^ (W - 1) = 2 ^ fracN P ex * 2 ^ E := by rw [← Nat.pow_add]; congr 1; omega
    rw [this, ← Nat.div_div_eq_div_mul, m2]
    have hE : 0 < 2 ^ E := Nat.pow_pos (by decide)
    cases neg with
    | true =>
      rw [if_pos rfl, Nat.add_div_right _ hE, Nat.div_eq_of_lt he]
      rfl
    | false =>
      rw [if_neg (by decide), Nat.add_zero, Nat.div_eq_of_lt he]
      rfl
  rw [m4]
  cases ex with
  | false =>
    have hf : fracN P false = P - 1 := rfl
    rw [hf] at m1 m2
    rw [if_neg (by decide), m1, m2, m3, hlow, if_neg (show ¬ (false = true ∧ decide (e ≠ 0) = true) from fun a => absurd a.1 (by decide)), Nat.add_zero]
  | true =>
    have hf : fracN P true = P := rfl
    rw [hf] at m1 m2
    rw [if_pos rfl, m1, m2, m3]
    have hq : low % 2 ^ (P - 1) = rest := by
      rw [hlow]
      split
      · rw [Nat.add_mod_right, Nat.mod_eq_of_lt hr]
      · rw [Nat.add_zero, Nat.mod_eq_of_lt hr]
    rw [hq, if_pos]
    rw [hlow]
    by_cases h0 : e = 0
    · rw [if_neg (by simp [h0])]
      exact ⟨fun z => by omega, fun z => absurd h0 z⟩
    · rw [if_pos (by simp [h0])]
      exact ⟨fun _ => h0, fun _ => by omega⟩
theorem unp_cases (w : Nat) : unpN P emin emax W E ex w = badP ∨ ∃ e neg rest, e < 2 ^ E ∧ rest < 2 ^ (P - 1) ∧ unpN P emin emax W E ex w = partsOf P emin emax E e neg rest := by
  have h1 : ∀ z : Nat, z % 2 ^ E < 2 ^ E := fun z => Nat.mod_lt _ (Nat.pow_pos (by decide))
  have h2 : ∀ z : Nat, z % 2 ^ (P - 1) < 2 ^ (P - 1) := fun z => Nat.mod_lt _ (Nat.pow_pos (by decide))
  unfold unpN
  split
  · exact .inl rfl
  · split
    · split
      · exact .inr ⟨_, _, _, h1 _, h2 _, rfl⟩
      · exact .inl rfl
    · exact .inr ⟨_, _, _, h1 _, h2 _, rfl⟩
theorem unp_sig (h : Fmt P emin emax W E ex) {w : Nat} {c : Int} {neg : Bool} {S : Nat} {q : Int} (hu : unpN P emin emax W E ex w = (c, neg, hiI S, loI S, q)) : (c = 2 → S < 2 ^ (P - 1)) ∧ (c = 3 → 2 ^ (P - 1) ≤ S ∧ S < 2 ^ P) := by
  have p0 := h.p0
  have hP : 2 ^ P = 2 ^ (P - 1) * 2 := by rw [← Nat.pow_succ]; congr 1; omega
  rcases unp_cases (P := P) (emin := emin) (emax := emax) (W := W) (E := E) (ex := ex) w with hb | ⟨e, n2, rest, he, hr, hb⟩
  · rw [hb] at hu
    have : c = 0 := by have := congrArg Prod.fst hu; exact this.symm
    exact ⟨fun z => by omega, fun z => by omega⟩
  · rw [hb] at hu
    unfold partsOf at hu
    split at hu
    · split at hu
      · have : c = 4 := (congrArg Prod.fst hu).symm
        exact ⟨fun z => by omega, fun z => by omega⟩
      · have : c = 5 := (congrArg Prod.fst hu).symm
        exact ⟨fun z => by omega, fun z => by omega⟩
    · split at hu
      · split at hu
        · have : c = 1 := (congrArg Prod.fst hu).symm
          exact ⟨fun z => by omega, fun z => by omega⟩
        · simp only [Prod.mk.injEq] at hu
          obtain ⟨h1, h2, h3, h4, h5⟩ := hu
          have := hilo_inj h3 h4
          exact ⟨fun z => by omega, fun z => by omega⟩
      · simp only [Prod.mk.injEq] at hu
        obtain ⟨h1, h2, h3, h4, h5⟩ := hu
        have := hilo_inj h3 h4
        exact ⟨fun z => by omega, fun z => by omega⟩
end
def packN (P : Nat) (emax : Int) (W E : Nat) (ex : Bool) (c : Int) (neg : Bool) (S : Nat) (q : Int) : Option Nat :=
  if c = 1 then some (makeN P W ex neg false 0 0)
  else if c = 4 then some (makeN P W ex neg true (2 ^ E - 1) 0)
  else if c = 5 then some (makeN P W ex false true (2 ^ E - 1) (2 ^ (P - 2)))
  else if c = 2 then (if S < 2 ^ (P - 1) then some (makeN P W ex neg false 0 S) else none)
  else if c = 3 then (if (2 ^ (P - 1) ≤ S ∧ S < 2 ^ P) ∧ 1 ≤ q + emax + P - 1 ∧ q + emax + P - 1 < ((2 ^ E - 1 : Nat) : Int) then some (makeN P W ex neg true (q + emax + P - 1).toNat (S % 2 ^ (P - 1))) else none)
  else none
def packR (P : Nat) (emin emax : Int) (W E : Nat) (ex : Bool) (c : Int) (neg : Bool) (S : Nat) (q : Int) : Nat × Bool :=
  match packN P emax W E ex c neg S q with
  | none => (0, false)
  | some w => if unpN P emin emax W E ex w = (c, neg, hiI S, loI S, q) then (w, true) else (0, false)
def eqb (u p : Prt) : Bool := (u.1 == p.1) && ((u.2.1 == p.2.1) && (((u.2.2.1 == p.2.2.1) && (u.2.2.2.1 == p.2.2.2.1)) && (u.2.2.2.2 == p.2.2.2.2)))
theorem eqb_iff (u p : Prt) : eqb u p = true ↔ u = p := by
  obtain ⟨a, b, c, d, e⟩ := u
  obtain ⟨a', b', c', d', e'⟩ := p
  simp [eqb, Prod.mk.injEq, and_assoc]
theorem packR_some {P : Nat} {emin emax : Int} {W E : Nat} {ex : Bool} {c : Int} {neg : Bool} {S : Nat} {q : Int} {w : Nat} (h : packN P emax W E ex c neg S q = some w) :
    packR P emin emax W E ex c neg S q = if unpN P emin emax W E ex w = (c, neg, hiI S, loI S, q) then (w, true) else (0, false) := by unfold packR; rw [h]
theorem packR_none {P : Nat} {emin emax : Int} {W E : Nat} {ex : Bool} {c : Int} {neg : Bool} {S : Nat} {q : Int} (h : packN P emax W E ex c neg S q = none) : packR P emin emax W E ex c neg S q = (0, false) := by unfold packR; rw [h]
theorem packR_of {P : Nat} {emin emax : Int} {W E : Nat} {ex : Bool} {c : Int} {neg : Bool} {S : Nat} {q : Int} {w : Nat} (h : packN P emax W E ex c neg S q = some w ∨ (packR P emin emax W E ex c neg S q = (0, false) ∧ unpN P emin emax W E ex w ≠ (c, neg, hiI S, loI S, q))) :
    packR P emin emax W E ex c neg S q = if unpN P emin emax W E ex w = (c, neg, hiI S, loI S, q) then (w, true) else (0, false) := by
  rcases h with h | ⟨h1, h2⟩
  · exact packR_some h
  · rw [h1, if_neg h2]
theorem wrap_flat (a b c : Int) : wrap64 (wrap64 (wrap64 a + b) - c) = wrap64 (a + b - c) := by
  unfold wrap64
  omega
theorem wrap_big (x : Int) (h : 9223372036854775808 ≤ x) (h2 : x ≤ 9223372036855775808) : wrap64 x < 0 := by
  unfold wrap64
  omega
theorem wrapE (q emax : Int) (P : Nat) (hq : -9223372036854775808 ≤ q ∧ q ≤ 9223372036854775807) (h0 : 0 ≤ emax) (h1 : emax ≤ 20000) (hP : P ≤ 113) (hP1 : 1 ≤ P) :
    IntKind.i64.wrap (IntKind.i64.wrap (IntKind.i64.wrap (q + emax) + (P : Int)) - 1) = q + emax + P - 1 ∨ (IntKind.i64.wrap (IntKind.i64.wrap (IntKind.i64.wrap (q + emax) + (P : Int)) - 1) < 1 ∧ 9223372036854775808 ≤ q + emax + P - 1) := by
  rw [i64_w, i64_w, i64_w, wrap_flat]
  by_cases h : q + emax + P - 1 ≤ 9223372036854775807
  · exact .inl (wrap64_id ⟨by omega, h⟩)
  · exact .inr ⟨Int.lt_of_lt_of_le (wrap_big _ (by omega) (by omega)) (by decide), by omega⟩
theorem bits_ex (x : Nat) : ∃ m, IsBits x m := by
  induction x using Nat.strongRecOn with
  | _ x ih =>
    by_cases h0 : x = 0
    · exact ⟨0, by rw [h0]; exact IsBits.zero⟩
    · obtain ⟨m, h1, h2⟩ := ih (x / 2) (by omega)
      refine ⟨m + 1, ?_, .inr ?_⟩
      · rw [Nat.pow_succ]; omega
      · rcases h2 with h2 | h2
        · subst h2; simp at h1 ⊢; omega
        · have hm : m ≠ 0 := by
            intro z; subst z; simp at h2 h1; omega
          have : 2 ^ m = 2 ^ (m - 1) * 2 := by rw [← Nat.pow_succ]; congr 1; omega
          simp only [Nat.add_sub_cancel]
          rw [this]
          omega
theorem bits_lt {x m k : Nat} (h : IsBits x m) : m ≤ k ↔ x < 2 ^ k := by
  constructor
  · intro hk
    exact Nat.lt_of_lt_of_le h.1 (Nat.pow_le_pow_right (by decide) hk)
  · intro hk
    exact h.le hk
def packU (P : Nat) (emax : Int) (E : Nat) (ex : Bool) (c : Int) (S : Nat) (q : Int) : Option Nat :=
  if c = 1 then some 0
  else if c = 2 then some S
  else if c = 3 then (if 1 ≤ q + emax + P - 1 ∧ q + emax + P - 1 < ((2 ^ E - 1 : Nat) : Int) then some (S % 2 ^ fracN P ex ||| (q + emax + P - 1).toNat * 2 ^ fracN P ex) else none)
  else if c = 4 then some (if ex = true then ((2 ^ E - 1) * 2 ^ fracN P ex ||| 2 ^ (P - 1)) else (2 ^ E - 1) * 2 ^ fracN P ex)
  else if c = 5 then some ((if ex = true then ((2 ^ E - 1) * 2 ^ fracN P ex ||| 2 ^ (P - 1)) else (2 ^ E - 1) * 2 ^ fracN P ex) ||| 2 ^ (P - 2))
  else some 0
theorem lor_add {a b i : Nat} (h : b < 2 ^ i) : b ||| a * 2 ^ i = b + a * 2 ^ i := by
  have := Nat.two_pow_add_eq_or_of_lt h a
  rw [Nat.mul_comm a, Nat.or_comm, ← this, Nat.add_comm]
theorem lor_add' {a b i : Nat} (h : b < 2 ^ i) : a * 2 ^ i ||| b = a * 2 ^ i + b := by rw [Nat.or_comm, lor_add h, Nat.add_comm]
theorem lor_top {b i : Nat} (h : b < 2 ^ i) : b ||| 2 ^ i = b + 2 ^ i := by
  have := lor_add (a := 1) h
  rwa [Nat.one_mul] at this
section
variable {P : Nat} {emin emax : Int} {W E : Nat} {ex : Bool}
theorem sign_make (h : Fmt P emin emax W E ex) (neg lead : Bool) (e r u : Nat) (he : e < 2 ^ E) (hr : r < 2 ^ (P - 1)) (hu : u = r + (if ex = true ∧ lead = true then 2 ^ (P - 1) else 0) + e * 2 ^ fracN P ex) :
    (if neg = true then u ||| 2 ^ (W - 1) else u) = makeN P W ex neg lead e r := by
  have hw1 := h.w1
  have h0 : makeN P W ex false lead e r = u := by rw [hu]; unfold makeN; rw [if_neg (show ¬ false = true by decide), Nat.add_zero]
  have hlt : u < 2 ^ (W - 1) := by
    have hl := makeN_lt h true lead e r he hr
    have h1 : makeN P W ex true lead e r = u + 2 ^ (W - 1) := by rw [hu]; unfold makeN; rw [if_pos rfl]
    rw [h1] at hl
    have h5 : 2 ^ W = 2 ^ (W - 1) * 2 := by rw [← Nat.pow_succ]; congr 1; omega
    omega
  cases neg with
  | true =>
    rw [if_pos rfl, lor_top hlt, hu]
    unfold makeN
    rw [if_pos rfl]
  | false => rw [if_neg (by decide), h0]
theorem packU_none (h : Fmt2 P emin emax W E ex) {c : Int} {neg : Bool} {S : Nat} {q : Int} (hu : packU P emax E ex c S q = none) : packR P emin emax W E ex c neg S q = (0, false) := by
  unfold packU at hu
  split at hu
  · cases hu
  · split at hu
    · cases hu
    · split at hu
      · rename_i h1 h2 h3
        split at hu
        · cases hu
        · rename_i h4
          refine packR_none ?_
          unfold packN
          rw [if_neg h1, if_neg (by omega), if_neg (by omega), if_neg h2, if_pos h3, if_neg (fun z => h4 z.2)]
      · split at hu
        · cases hu
        · split at hu
          · cases hu
          · cases hu
theorem packU_some (h : Fmt2 P emin emax W E ex) {c : Int} {neg : Bool} {S : Nat} {q : Int} {u : Nat} (hu : packU P emax E ex c S q = some u) :
    packR P emin emax W E ex c neg S q = if unpN P emin emax W E ex (if neg = true then u ||| 2 ^ (W - 1) else u) = (c, neg, hiI S, loI S, q) then ((if neg = true then u ||| 2 ^ (W - 1) else u), true) else (0, false) := by
  have h1 := h.toFmt
  have p3 := h.p3
  have e0 : 0 < 2 ^ E := Nat.pow_pos (by decide)
  have e1 : 2 ^ E - 1 < 2 ^ E := by omega
  have z0 : 0 < 2 ^ (P - 1) := Nat.pow_pos (by decide)
  have r2 : 2 ^ (P - 2) < 2 ^ (P - 1) := Nat.pow_lt_pow_right (by decide) (by omega)
  have hP : 2 ^ P = 2 ^ (P - 1) * 2 := by rw [← Nat.pow_succ]; congr 1; omega
  have hfr : 2 ^ (P - 1) ≤ 2 ^ fracN P ex := Nat.pow_le_pow_right (by decide) (by unfold fracN; split <;> omega)
  -- the sign bit alone
  have zero : ∀ n : Bool, unpN P emin emax W E ex (if n = true then 0 ||| 2 ^ (W - 1) else 0) = (1, n, 0, 0, 0) := by
    intro n
    rw [sign_make h1 n false 0 0 0 e0 z0 (by simp)]
    have := unp_make h1 n 0 0 e0 z0
    simp only [ne_eq, not_true, decide_false] at this
    rw [this]
    unfold partsOf
    have hE := h1.e0
    have : (2 : Nat) ≤ 2 ^ E := by
      have := Nat.pow_le_pow_right (n := 2) (by decide) hE
      simpa using this
    rw [if_neg (by omega), if_pos rfl, if_pos rfl]
  have tb : (if ex = true then ((2 ^ E - 1) * 2 ^ fracN P ex ||| 2 ^ (P - 1)) else (2 ^ E - 1) * 2 ^ fracN P ex) = (if ex = true ∧ true = true then 2 ^ (P - 1) else 0) + (2 ^ E - 1) * 2 ^ fracN P ex := by
    cases hex : ex with
    | true =>
      rw [if_pos rfl, if_pos ⟨rfl, rfl⟩, lor_add' (by unfold fracN; rw [if_pos rfl]; omega), Nat.add_comm]
    | false => rw [if_neg (by decide), if_neg (fun z => absurd z.1 (by decide)), Nat.zero_add]
  refine packR_of ?_
  unfold packU at hu
  by_cases c1 : c = 1
  · rw [if_pos c1] at hu
    cases hu
    exact .inl (by unfold packN; rw [if_pos c1, sign_make h1 neg false 0 0 0 e0 z0 (by simp)])
  rw [if_neg c1] at hu
  by_cases c2 : c = 2
  · rw [if_pos c2] at hu
    cases hu
    have hpk : packN P emax W E ex c neg S q = if S < 2 ^ (P - 1) then some (makeN P W ex neg false 0 S) else none := by unfold packN; rw [if_neg c1, if_neg (by omega), if_neg (by omega), if_pos c2]
    by_cases hS : S < 2 ^ (P - 1)
    · exact .inl (by rw [hpk, if_pos hS, sign_make h1 neg false 0 S S e0 hS (by simp)])
    · refine .inr ⟨packR_none (by rw [hpk, if_neg hS]), fun he => hS ((unp_sig h1 he).1 c2)⟩
  rw [if_neg c2] at hu
  by_cases c3 : c = 3
  · rw [if_pos c3] at hu
    have hpk : packN P emax W E ex c neg S q = if (2 ^ (P - 1) ≤ S ∧ S < 2 ^ P) ∧ 1 ≤ q + emax + P - 1 ∧ q + emax + P - 1 < ((2 ^ E - 1 : Nat) : Int) then some (makeN P W ex neg true (q + emax + P - 1).toNat (S % 2 ^ (P - 1))) else none := by unfold packN; rw [if_neg c1, if_neg (by omega), if_neg (by omega), if_neg c2, if_pos c3]
    split at hu
    · rename_i hr
      cases hu
      have he3 : (q + emax + P - 1).toNat < 2 ^ E := by omega
      by_cases hS : 2 ^ (P - 1) ≤ S ∧ S < 2 ^ P
      · refine .inl ?_
        rw [hpk, if_pos ⟨hS, hr⟩, sign_make h1 neg true _ (S % 2 ^ (P - 1)) _ he3 (Nat.mod_lt _ z0) ?_]
        rw [lor_add (Nat.mod_lt _ (Nat.pow_pos (by decide)))]
        congr 1
        cases hex : ex with
        | true =>
          have : fracN P true = P := rfl
          rw [this, if_pos ⟨rfl, rfl⟩, Nat.mod_eq_of_lt hS.2, Nat.mod_eq_sub_mod hS.1, Nat.mod_eq_of_lt (by omega)]
          omega
        | false =>
          have : fracN P false = P - 1 := rfl
          rw [this, if_neg (fun z => absurd z.1 (by decide)), Nat.add_zero]
      · exact .inr ⟨packR_none (by rw [hpk, if_neg (fun z => hS z.1)]), fun he => hS ((unp_sig h1 he).2 c3)⟩
    · cases hu
  rw [if_neg c3] at hu
  by_cases c4 : c = 4
  · rw [if_pos c4] at hu
    cases hu
    exact .inl (by unfold packN; rw [if_neg c1, if_pos c4, sign_make h1 neg true (2 ^ E - 1) 0 _ e1 z0 (by rw [tb, Nat.zero_add])])
  rw [if_neg c4] at hu
  by_cases c5 : c = 5
  · rw [if_pos c5] at hu
    injection hu with hu
    have hu2 : u = 2 ^ (P - 2) + (if ex = true ∧ true = true then 2 ^ (P - 1) else 0) + (2 ^ E - 1) * 2 ^ fracN P ex := by
      rw [← hu, tb]
      cases hex : ex with
      | true =>
        have hf : fracN P true = P := rfl
        rw [if_pos ⟨rfl, rfl⟩, hf]
        have e5 : 2 ^ (P - 1) + (2 ^ E - 1) * 2 ^ P = (1 + (2 ^ E - 1) * 2) * 2 ^ (P - 1) := by rw [hP, Nat.add_mul, Nat.one_mul, Nat.mul_comm (2 ^ (P - 1)) 2, Nat.mul_assoc]
        rw [Nat.add_assoc, e5, lor_add' r2, Nat.add_comm]
      | false =>
        rw [if_neg (fun z => absurd z.1 (by decide)), Nat.zero_add, Nat.add_zero, lor_add' (by have : fracN P false = P - 1 := rfl; rw [this]; exact r2), Nat.add_comm]
    have hm : (if neg = true then u ||| 2 ^ (W - 1) else u) = makeN P W ex neg true (2 ^ E - 1) (2 ^ (P - 2)) := sign_make h1 neg true _ _ _ e1 r2 hu2
    rw [hm]
    have hpk : packN P emax W E ex c neg S q = some (makeN P W ex false true (2 ^ E - 1) (2 ^ (P - 2))) := by unfold packN; rw [if_neg c1, if_neg c4, if_pos c5]
    have hE := h1.e0
    have hE2 : (2 : Nat) ≤ 2 ^ E := by
      have := Nat.pow_le_pow_right (n := 2) (by decide) hE
      simpa using this
    have hun : ∀ n, unpN P emin emax W E ex (makeN P W ex n true (2 ^ E - 1) (2 ^ (P - 2))) = (5, false, 0, 0, 0) := by
      intro n
      have := unp_make h1 n (2 ^ E - 1) (2 ^ (P - 2)) e1 r2
      have hd : decide (2 ^ E - 1 ≠ 0) = true := by simp; omega
      rw [hd] at this
      rw [this]
      unfold partsOf
      rw [if_pos rfl, if_neg (Nat.ne_of_gt (Nat.pow_pos (by decide)))]
    cases neg with
    | false => exact .inl hpk
    | true =>
      refine .inr ⟨?_, ?_⟩
      · rw [packR_some hpk, hun false, if_neg]
        intro z
        simp at z
      · rw [hun true]
        intro z
        simp at z
  rw [if_neg c5] at hu
  cases hu
  refine .inr ⟨packR_none (by unfold packN; rw [if_neg c1, if_neg c4, if_neg c5, if_neg c2, if_neg c3]), ?_⟩
  rw [zero neg]
  intro z
  exact c1 (congrArg Prod.fst z).symm
end
end Go.Proofs.YtdbnmdchecacdaaDoor.M
end
section
namespace Go.Proofs.YtdbnmdchecacdaaDoor.M
open Go.RowKit Go.Proofs.YtdbnmdchecacdaaDoor.G Go.Proofs.YtdbnmdchecacdaaDoorV.PrintWords Go.Proofs.YtdbnmdchecacdaaDoorV.PrintLast Go.Proofs.YtdbnmdchecacdaaDoor.X
set_option linter.unusedVariables false
set_option linter.unusedSimpArgs false
def VP (P : Nat) (emin emax : Int) (c : Int) (S : Nat) (q : Int) : Prop :=
  (c = 1 ∧ S = 0 ∧ q = 0) ∨ (c = 4 ∧ S = 0 ∧ q = 0) ∨ (c = 2 ∧ 0 < S ∧ S < 2 ^ (P - 1) ∧ q = emin - P + 1) ∨ (c = 3 ∧ 2 ^ (P - 1) ≤ S ∧ S < 2 ^ P ∧ emin - P + 1 ≤ q ∧ q ≤ emax - P + 1)
section
variable {P : Nat} {emin emax : Int} {W E : Nat} {ex : Bool}
theorem two_P (h : Fmt P emin emax W E ex) : 2 ^ P = 2 * 2 ^ (P - 1) := by
  have := h.p0
  rw [Nat.mul_comm, ← Nat.pow_succ]
  congr 1
  omega
theorem hi0 : hiI 0 = 0 := rfl
theorem unp_form (h : Fmt2 P emin emax W E ex) (w : Nat) : unpN P emin emax W E ex w = badP ∨ unpN P emin emax W E ex w = (5, false, 0, 0, 0) ∨ ∃ c neg S q, unpN P emin emax W E ex w = (c, neg, hiI S, loI S, q) ∧ S < 2 ^ P ∧ VP P emin emax c S q := by
  have t2 := two_P h.toFmt
  have hp := Nat.pow_pos (n := P - 1) (show 0 < 2 by decide)
  have tp := h.top
  have mn := h.mn
  rcases unp_cases (P := P) (emin := emin) (emax := emax) (W := W) (E := E) (ex := ex) w with hb | ⟨e, neg, rest, he, hr, hu⟩
  · exact .inl hb
  · refine .inr ?_
    rw [hu]
    unfold partsOf
    by_cases h1 : e = 2 ^ E - 1
    · rw [if_pos h1]
      by_cases h2 : rest = 0
      · rw [if_pos h2]
        exact .inr ⟨4, neg, 0, 0, rfl, by omega, .inr (.inl ⟨rfl, rfl, rfl⟩)⟩
      · rw [if_neg h2]
        exact .inl rfl
    · rw [if_neg h1]
      refine .inr ?_
      by_cases h2 : e = 0
      · rw [if_pos h2]
        by_cases h3 : rest = 0
        · rw [if_pos h3]
          exact ⟨1, neg, 0, 0, rfl, by omega, .inl ⟨rfl, rfl, rfl⟩⟩
        · rw [if_neg h3]
          exact ⟨2, neg, rest, _, rfl, by omega, .inr (.inr (.inl ⟨rfl, by omega, hr, rfl⟩))⟩
      · rw [if_neg h2]
        exact ⟨3, neg, rest + 2 ^ (P - 1), _, rfl, by omega, .inr (.inr (.inr ⟨rfl, by omega, by omega, by omega, by omega⟩))⟩
theorem pack_ok (h : Fmt2 P emin emax W E ex) {c : Int} {neg : Bool} {S : Nat} {q : Int} (hv : VP P emin emax c S q) : (packR P emin emax W E ex c neg S q).2 = true := by
  have t2 := two_P h.toFmt
  have hp := Nat.pow_pos (n := P - 1) (show 0 < 2 by decide)
  have hE := Nat.pow_le_pow_right (n := 2) (by decide) h.e0
  have tp := h.top
  have mn := h.mn
  rcases hv with ⟨rfl, rfl, rfl⟩ | ⟨rfl, rfl, rfl⟩ | ⟨rfl, h1, h2, rfl⟩ | ⟨rfl, h1, h2, h3, h4⟩
  · rw [packR_some (w := makeN P W ex neg false 0 0) (by unfold packN; rw [if_pos rfl]), if_pos]
    have := unp_make h.toFmt neg 0 0 (by omega) hp
    rw [show decide ((0 : Nat) ≠ 0) = false from rfl] at this
    rw [this, partsOf, if_neg (by omega), if_pos rfl, if_pos rfl]
    rfl
  · rw [packR_some (w := makeN P W ex neg true (2 ^ E - 1) 0) (by unfold packN; rw [if_neg (by decide), if_pos rfl]), if_pos]
    have := unp_make h.toFmt neg (2 ^ E - 1) 0 (by omega) hp
    rw [decide_eq_true (show 2 ^ E - 1 ≠ 0 by omega)] at this
    rw [this, partsOf, if_pos rfl, if_pos rfl]
    rfl
  · rw [packR_some (w := makeN P W ex neg false 0 S) (by unfold packN; rw [if_neg (by decide), if_neg (by decide), if_neg (by decide), if_pos rfl, if_pos h2]), if_pos]
    have := unp_make h.toFmt neg 0 S (by omega) h2
    rw [show decide ((0 : Nat) ≠ 0) = false from rfl] at this
    rw [this, partsOf, if_neg (by omega), if_pos rfl, if_neg (by omega)]
  · have hS : S % 2 ^ (P - 1) = S - 2 ^ (P - 1) := by rw [Nat.mod_eq_sub_mod h1, Nat.mod_eq_of_lt (by omega)]
    obtain ⟨e, he⟩ : ∃ e : Nat, (e : Int) = q + emax + P - 1 := ⟨(q + emax + P - 1).toNat, by omega⟩
    have hen : (q + emax + P - 1).toNat = e := by omega
    rw [packR_some (w := makeN P W ex neg true e (S % 2 ^ (P - 1))) (by unfold packN; rw [if_neg (by decide), if_neg (by decide), if_neg (by decide), if_neg (by decide), if_pos rfl, if_pos ⟨⟨h1, h2⟩, by omega, by omega⟩, hen]), if_pos]
    have := unp_make h.toFmt neg e (S % 2 ^ (P - 1)) (by omega) (by omega)
    rw [decide_eq_true (show e ≠ 0 by omega)] at this
    rw [this, partsOf, if_neg (by omega), if_neg (by omega), hS, show S - 2 ^ (P - 1) + 2 ^ (P - 1) = S by omega, show (e : Int) - emax - P + 1 = q by omega]
def farS (P S : Nat) (q : Int) : Nat × Int := if 2 ^ P ≤ S + 1 then ((S + 1) / 2, q + 1) else (S + 1, q)
def nearS (P : Nat) (emin : Int) (S : Nat) (q : Int) : Nat × Int := if S - 1 < 2 ^ (P - 1) ∧ emin - P + 1 < q then (2 * (S - 1) + 1, q - 1) else (S - 1, q)
def clsN (P : Nat) (emax : Int) (S : Nat) (q : Int) : Int := if S = 0 then 1 else if emax < q + P - 1 then 4 else if S < 2 ^ (P - 1) then 2 else 3
def putN (P : Nat) (emin emax : Int) (W E : Nat) (ex : Bool) (neg : Bool) (u : Nat × Int) : Nat × Bool :=
  if clsN P emax u.1 u.2 = 1 ∨ clsN P emax u.1 u.2 = 4 then packR P emin emax W E ex (clsN P emax u.1 u.2) neg 0 0 else packR P emin emax W E ex (clsN P emax u.1 u.2) neg u.1 u.2
def stepN (P : Nat) (emin emax : Int) (W E : Nat) (ex : Bool) (c : Int) (neg : Bool) (S : Nat) (q : Int) (up : Bool) : Nat × Bool :=
  if c = 1 then packR P emin emax W E ex 2 (!up) 1 (emin - P + 1)
  else if c = 4 then (if (up != neg) = true then (0, false) else packR P emin emax W E ex 3 neg (2 ^ P - 1) (emax - P + 1))
  else putN P emin emax W E ex neg (if (up != neg) = true then farS P S q else nearS P emin S q)
theorem put_ok (h : Fmt2 P emin emax W E ex) (hx1 : 1 ≤ emax) {neg : Bool} {S : Nat} {q : Int} {c : Int} (hc : c = 2 ∨ c = 3) (hv : VP P emin emax c S q) (up : Bool) : (putN P emin emax W E ex neg (if up = true then farS P S q else nearS P emin S q)).2 = true := by
  have t2 := two_P h.toFmt
  have hp := Nat.pow_pos (n := P - 1) (show 0 < 2 by decide)
  have p3 := h.p3
  have hp4 : 4 ≤ 2 ^ (P - 1) := (show 2 ^ 2 ≤ 2 ^ (P - 1) from Nat.pow_le_pow_right (by decide) (by omega))
  have tp := h.top
  have mn := h.mn
  have hx : 0 ≤ emax := by omega
  have hb : (0 < S ∧ S < 2 ^ P) ∧ emin - P + 1 ≤ q ∧ q ≤ emax - P + 1 ∧ (S < 2 ^ (P - 1) → q = emin - P + 1) := by
    rcases hv with ⟨rfl, _⟩ | ⟨rfl, _⟩ | ⟨_, h1, h2, rfl⟩ | ⟨_, h1, h2, h3, h4⟩
    · omega
    · omega
    · omega
    · omega
  obtain ⟨⟨b1, b2⟩, b3, b4, b5⟩ := hb
  have key : ∀ u : Nat × Int, u.1 < 2 ^ P → emin - P + 1 ≤ u.2 → (u.1 < 2 ^ (P - 1) → u.2 = emin - P + 1) → (putN P emin emax W E ex neg u).2 = true := by
    rintro ⟨S', q'⟩ k1 k2 k3
    dsimp only at k1 k2 k3
    unfold putN clsN
    dsimp only
    by_cases c1 : S' = 0
    · rw [if_pos c1, if_pos (.inl rfl)]
      exact pack_ok h (.inl ⟨rfl, rfl, rfl⟩)
    · rw [if_neg c1]
      by_cases c2 : emax < q' + P - 1
      · rw [if_pos c2, if_pos (.inr rfl)]
        exact pack_ok h (.inr (.inl ⟨rfl, rfl, rfl⟩))
      · rw [if_neg c2]
        by_cases c3 : S' < 2 ^ (P - 1)
        · rw [if_pos c3, if_neg (by omega)]
          exact pack_ok h (.inr (.inr (.inl ⟨rfl, by omega, c3, k3 c3⟩)))
        · rw [if_neg c3, if_neg (by omega)]
          exact pack_ok h (.inr (.inr (.inr ⟨rfl, by omega, k1, k2, by omega⟩)))
  cases up with
  | true =>
    rw [if_pos rfl]
    unfold farS
    by_cases c1 : 2 ^ P ≤ S + 1
    · rw [if_pos c1]
      have : S + 1 = 2 * 2 ^ (P - 1) := by omega
      exact key _ (by dsimp only; omega) (by dsimp only; omega) (by dsimp only; omega)
    · rw [if_neg c1]
      exact key _ (by dsimp only; omega) (by dsimp only; omega) (by dsimp only; intro hh; exact b5 (by omega))
  | false =>
    rw [if_neg (by decide)]
    unfold nearS
    by_cases c1 : S - 1 < 2 ^ (P - 1) ∧ emin - P + 1 < q
    · rw [if_pos c1]
      have : 2 ^ (P - 1) ≤ S := Nat.le_of_not_lt (fun z => by have := b5 z; omega)
      exact key _ (by dsimp only; omega) (by dsimp only; omega) (by dsimp only; omega)
    · rw [if_neg c1]
      exact key _ (by dsimp only; omega) (by dsimp only; omega) (by dsimp only; omega)
theorem step_ok (h : Fmt2 P emin emax W E ex) (hx1 : 1 ≤ emax) {neg : Bool} {S : Nat} {q : Int} {c : Int} (hv : VP P emin emax c S q) (up : Bool) (hn : ¬ (c = 4 ∧ (up != neg) = true)) : (stepN P emin emax W E ex c neg S q up).2 = true := by
  have t2 := two_P h.toFmt
  have hp := Nat.pow_pos (n := P - 1) (show 0 < 2 by decide)
  have p3 := h.p3
  have hp4 : 4 ≤ 2 ^ (P - 1) := (show 2 ^ 2 ≤ 2 ^ (P - 1) from Nat.pow_le_pow_right (by decide) (by omega))
  have tp := h.top
  have mn := h.mn
  unfold stepN
  by_cases c1 : c = 1
  · rw [if_pos c1]
    exact pack_ok h (.inr (.inr (.inl ⟨rfl, by omega, by omega, rfl⟩)))
  · rw [if_neg c1]
    by_cases c4 : c = 4
    · rw [if_pos c4, if_neg (fun z => hn ⟨c4, z⟩)]
      have hE := Nat.pow_le_pow_right (n := 2) (by decide) h.e0
      exact pack_ok h (.inr (.inr (.inr ⟨rfl, by omega, by omega, by omega, by omega⟩)))
    · rw [if_neg c4]
      have hc : c = 2 ∨ c = 3 := by
        rcases hv with ⟨rfl, _⟩ | ⟨rfl, _⟩ | ⟨rfl, _⟩ | ⟨rfl, _⟩
        · exact absurd rfl c1
        · exact absurd rfl c4
        · exact .inl rfl
        · exact .inr rfl
      exact put_ok h hx1 hc hv _
end
end Go.Proofs.YtdbnmdchecacdaaDoor.M
end
section
namespace Go.Proofs.YtdbnmdchecacdaaDoor.M
open Go.RowKit Go.Proofs.YtdbnmdchecacdaaDoor.G Go.Proofs.YtdbnmdchecacdaaDoorV.PrintWords Go.Proofs.YtdbnmdchecacdaaDoorV.PrintLast Go.Proofs.YtdbnmdchecacdaaDoor.X
set_option linter.unusedVariables false
set_option linter.unusedSimpArgs false
theorem field_up (x s n E : Nat) (h : n + 1 ≤ E) : x / 2 ^ (s + (n + 1)) % 2 ^ (E - (n + 1)) * 2 + x / 2 ^ (s + n) % 2 = x / 2 ^ (s + n) % 2 ^ (E - n) := by
 have e1 : x / 2 ^ (s + (n + 1)) = x / 2 ^ (s + n) / 2 := by rw [Nat.div_div_eq_div_mul, ← Nat.pow_succ]; rfl
 have e2 : (2 : Nat) ^ (E - n) = 2 * 2 ^ (E - (n + 1)) := by rw [Nat.mul_comm, ← Nat.pow_succ]; congr 1; omega
 rw [e1, e2, Nat.mod_mul, Nat.add_comm, Nat.mul_comm]
theorem ct_spec_Unpack {P : Nat} {emin emax : Int} {W E : Nat} {ex : Bool} (h : Fmt P emin emax W E ex) (f : Int) (hf : spec_Describe.f f = some ((P : Int), emin, emax, (W : Int), (E : Int), ex)) (x : Nat) (hx : x < B128) : CtV Tryd.prog 15 [.int .i64 f, .agg #[.int .u64 (hiI x), .int .u64 (loI x)]] [] (prtV (unpN P emin emax W E ex x)) := by
 refine ct_of Tryd.func15 rfl (by kernel_rfl) (fun B w0 => ?_)
 have p0 := h.p0
 have p1 := h.p1
 have w1 := h.w1
 have w2 := h.w2
 have e1 := h.e1
 obtain ⟨m, hm⟩ := bits_ex x
 have hb := bits_lt (k := W) hm
 have sm : Sm x := sm128 (Nat.lt_of_lt_of_le hx (by decide))
 have fN : fracN P ex ≤ P := by unfold fracN; split <;> omega
 have sf : Sm (x % 2 ^ fracN P ex) := sm.mono (Nat.mod_le _ _)
 refine xg ?_
 refine xb 3 [.int .u64 (hiI x), .int .u64 (loI x)] 25 (fun g0 => ?_)
 refine xb 4 [.int .i64 0, .bool false, .int .u64 0, .int .u64 0, .int .i64 0] 27 (fun g1 => ?_)
 refine xz [] [] ?_
 refine xg ?_
 refine xn 1 [] [(16, .int .i64 f)] ?_
 refine xcv 17 (ct_spec_Describe (f) hf) zs0 ?_
 refine xb 5 [.int .i64 0, .int .i64 0, .int .i64 0, .int .i64 0, .int .i64 0, .bool false] 83 (fun g2 => ?_)
 refine xy [(3, [2])] [] [(2, [.int .i64 (P : Int), .int .i64 emin, .int .i64 emax, .int .i64 (W : Int), .int .i64 (E : Int), .bool ex])] ?_
 refine SW_seq ?_
 refine xr [(1, [2])] [(20, .bool ((P : Int) == 0))] ?_
 refine xs ((P : Int) == 0) (fun q0 => ?_) (fun q0 => ?_)
 ·exfalso
  have := beq_iff_eq.1 q0
  omega
 ·refine SW_skip ?_
  refine xg ?_
  refine xn 1 [(0, [0])] [(22, .agg #[.int .u64 (hiI x), .int .u64 (loI x)])] ?_
  refine xcr 23 (ct_spec_l2Of (x) hx) zs0 (fun A0 k0 => ?_)
  refine xz [] [(6, .slice A0 (List.length (ofN B32 x)) k0)] ?_
  refine SW_seq ?_
  refine xd (fun hB => ?_)
  refine xdk [(0, []), (2, []), (3, [2])] [(27, .int .i64 (W : Int)), (24, .slice A0 (List.length (ofN B32 x)) k0)] hB ?_
  refine xdv 1 25 (ct_spec_l1Bits (x) (A0) (k0) sm (m) hm) (zsS zi0 zs0) ?_
  refine xdk [(4, [])] [(28, .bool (decide ((m : Int) > (W : Int))))] hB ?_
  refine xdz ?_
  refine xs (decide ((m : Int) > (W : Int))) (fun q1 => ?_) (fun q1 => ?_)
  ·refine xq [(1, [1])] [] [] ?_
   refine SW_ret ?_
   refine xe () (.agg #[.int .i64 0, .bool false, .int .u64 0, .int .u64 0, .int .i64 0]) [1] ?_ trivial
   rw [unpN, if_pos]
   ·rfl
   ·have := of_decide_eq_true q1
    exact Nat.le_of_not_lt (fun z => by have := hb.2 z; omega)
  ·have hW : x < 2 ^ W := hb.1 (by have := of_decide_eq_false q1; omega)
   refine SW_skip ?_
   refine xr [(1, [2])] [(7, .int .i64 (IntKind.wrap IntKind.i64 ((P : Int) - 1)))] ?_
   refine SW_cut (fun s' => ∃ a, Nn a (fracN P ex) ∧ Weak s' ⟨[(0, .int .i64 f), (4, .pointer (some ⟨g1, 0, none⟩)), (5, .pointer (some ⟨g2, 0, none⟩)), (6, .slice A0 (ofN B32 x).length k0), (7, .int .i64 a)], [⟨g0, [.int .u64 (hiI x), .int .u64 (loI x)], 25⟩, ⟨g1, [.int .i64 0, .bool false, .int .u64 0, .int .u64 0, .int .i64 0], 27⟩, ⟨g2, [.int .i64 P, .int .i64 emin, .int .i64 emax, .int .i64 W, .int .i64 E, .bool ex], 83⟩], [Row .u64 A0 k0 (ofN B32 x)]⟩) ?_ ?_
   ·refine xr [(1, [2])] [(34, .bool ex)] ?_
    refine xs (ex) (fun q2 => ?_) (fun q2 => ?_)
    ·refine xrl [(1, [2])] [(7, .int .i64 (P : Int))] ?_
     exact ⟨(P : Int), ⟨by unfold fracN; rw [if_pos q2]⟩, Weak.mk' (by kernel_rfl) rfl (zsS zi0 zs0)⟩
    ·refine SW_skip ?_
     exact ⟨IntKind.i64.wrap ((P : Int) - 1), Nn.wrap (by unfold fracN; rw [q2, if_neg (by decide)]; omega) (by omega), Weak.mk' (by kernel_rfl) rfl (zsS zi0 zs0)⟩
   ·rintro s' ⟨a, na, hw⟩
    refine SW_weak hw ?_
    refine xg ?_
    refine xn 2 [] [(38, .int .i64 a), (37, .slice A0 (List.length (ofN B32 x)) k0)] ?_
    refine xcr 39 (ct_spec_l2Low (x) (A0) (k0) (a) (fracN P ex) na (by omega) sm) (zsS zi0 zs0) (fun A1 k1 => ?_)
    refine xz [] [(8, .slice A1 (List.length (ofN B32 (x % 2 ^ fracN P ex))) k1)] ?_
    refine xr [] [(9, .int .i64 0)] ?_
    refine SW_seq ?_
    refine xr [(1, [2])] [(10, .int .i64 (IntKind.wrap IntKind.i64 ((E : Int) - 1)))] ?_
    refine SW_block ?_
    refine SW_loopn (fun n s' => n ≤ E ∧ ∃ e i, e = ((x / 2 ^ (fracN P ex + n) % 2 ^ (E - n) : Nat) : Int) ∧ i = (n : Int) - 1 ∧ Weak s' ⟨[(4, .pointer (some ⟨g1, 0, none⟩)), (5, .pointer (some ⟨g2, 0, none⟩)), (6, .slice A0 (ofN B32 x).length k0), (7, .int .i64 a), (8, .slice A1 (ofN B32 (x % 2 ^ fracN P ex)).length k1), (9, .int .i64 e), (10, .int .i64 i)], [⟨g0, [.int .u64 (hiI x), .int .u64 (loI x)], 25⟩, ⟨g1, [.int .i64 0, .bool false, .int .u64 0, .int .u64 0, .int .i64 0], 27⟩, ⟨g2, [.int .i64 P, .int .i64 emin, .int .i64 emax, .int .i64 W, .int .i64 E, .bool ex], 83⟩], [Row .u64 A0 k0 (ofN B32 x), Row .u64 A1 k1 (ofN B32 (x % 2 ^ fracN P ex))]⟩) E ?_ ?_
    ·exact ⟨Nat.le_refl _, _, _, by rw [Nat.sub_self, Nat.pow_zero, Nat.mod_one], wsi (by omega), Weak.mk' (by kernel_rfl) rfl (zsS (ziS zi0) (zsS zi0 zs0))⟩
    ·rintro n s' ⟨hn, e, i, he, hi, hw⟩
     refine SW_weak hw ?_
     refine SW_seq ?_
     refine xr [] [(44, .bool (decide (i ≥ 0)))] ?_
     refine xs (decide (i ≥ 0)) (fun q2 => ?_) (fun q2 => ?_)
     ·have hi0 : 0 ≤ i := of_decide_eq_true q2
      obtain ⟨j, rfl⟩ : ∃ j, n = j + 1 := ⟨n - 1, by omega⟩
      have nb : Nn (IntKind.i64.wrap (a + i)) (fracN P ex + j) := Nn.wrap (by rw [na.out]; omega) (by omega)
      refine SW_skip ?_
      refine SW_seq ?_
      refine SW_block ?_
      refine SW_region ?_
      refine xn 6 [] [(52, .int .i64 (IntKind.wrap IntKind.i64 (a + i))), (49, .slice A0 (List.length (ofN B32 x)) k0), (48, .int .i64 (IntKind.wrap IntKind.i64 (e * 2)))] ?_
      refine xcv 53 (ct_spec_l1Bit (x) (A0) (k0) (IntKind.wrap IntKind.i64 (a + i)) (fracN P ex + j) nb (by omega) sm) (zsS zi0 zs0) ?_
      refine xz [] [(9, .int .i64 (IntKind.wrap IntKind.i64 (IntKind.wrap IntKind.i64 (e * 2) + IntKind.wrap IntKind.i64 (((x / 2 ^ (fracN P ex + j) % 2) : Nat) : Int))))] ?_
      refine xrl [] [(10, .int .i64 (IntKind.wrap IntKind.i64 (i - 1)))] ?_
      refine ⟨j, Nat.lt_succ_self j, by omega, ?_⟩
      refine ⟨(IntKind.wrap IntKind.i64 (IntKind.wrap IntKind.i64 (e * 2) + IntKind.wrap IntKind.i64 (((x / 2 ^ (fracN P ex + j) % 2) : Nat) : Int)) : Int), (IntKind.wrap IntKind.i64 (i - 1) : Int), ?_, ?_, xw (zsS zi0 (zsS (ziS zi0) zs0))⟩
      ·have hp : x / 2 ^ (fracN P ex + (j + 1)) % 2 ^ (E - (j + 1)) < 2 ^ (E - (j + 1)) := Nat.mod_lt _ (Nat.pow_pos (by decide))
       have hp2 : 2 ^ (E - (j + 1)) ≤ 2 ^ 15 := Nat.pow_le_pow_right (by decide) (by omega)
       have hp3 : x / 2 ^ (fracN P ex + j) % 2 < 2 := Nat.mod_lt _ (by decide)
       rw [← field_up x _ _ _ hn, he, wsi (x := _ * 2) (by omega), wsi (x := ((_ % 2 : Nat) : Int)) (by omega), wsi (by omega)]
       omega
      ·rw [wsi (by omega)]
       omega
     ·have hi0 : ¬ 0 ≤ i := of_decide_eq_false q2
      obtain rfl : n = 0 := by omega
      have nW : Nn (IntKind.i64.wrap ((W : Int) - 1)) (W - 1) := Nn.wrap (by omega) (by omega)
      obtain ⟨F, hF⟩ : ∃ F, F = x / 2 ^ fracN P ex % 2 ^ E := ⟨_, rfl⟩
      obtain ⟨ng, hng⟩ : ∃ ng : Bool, ng = (((x / 2 ^ (W - 1) % 2 : Nat) : Int) == 1) := ⟨_, rfl⟩
      have heF : e = (F : Int) := by rw [he, hF]; rfl
      refine SW_exit ?_
      refine xg ?_
      refine xn 4 [(2, [2])] [(59, .int .i64 (IntKind.wrap IntKind.i64 ((W : Int) - 1))), (56, .slice A0 (List.length (ofN B32 x)) k0)] ?_
      refine xcv 60 (ct_spec_l1Bit (x) (A0) (k0) (IntKind.wrap IntKind.i64 ((W : Int) - 1)) (W - 1) nW (by omega) sm) (zsS zi0 zs0) ?_
      refine xn 7 [] [(62, .agg #[.int .i64 0, .bool ((((x / 2 ^ (W - 1) % 2) : Nat) : Int) == 1), .int .u64 0, .int .u64 0, .int .i64 0])] ?_
      refine xb 11 [.int .i64 0, .bool false, .int .u64 0, .int .u64 0, .int .i64 0] 27 (fun g3 => ?_)
      refine xy [(8, [3])] [] [(3, [.int .i64 0, .bool ((((x / 2 ^ (W - 1) % 2) : Nat) : Int) == 1), .int .u64 0, .int .u64 0, .int .i64 0])] ?_
      refine xr [] [(12, .int .i64 1)] ?_
      refine SW_seq ?_
      refine xr [] [(13, .int .i64 0)] ?_
      refine SW_block ?_
      refine SW_loopn (fun n s' => n ≤ E ∧ ∃ t i, t = ((2 ^ (E - n) : Nat) : Int) ∧ i = ((E - n : Nat) : Int) ∧ Weak s' ⟨[(4, .pointer (some ⟨g1, 0, none⟩)), (5, .pointer (some ⟨g2, 0, none⟩)), (8, .slice A1 (ofN B32 (x % 2 ^ fracN P ex)).length k1), (9, .int .i64 e), (11, .pointer (some ⟨g3, 0, none⟩)), (12, .int .i64 t), (13, .int .i64 i)], [⟨g0, [.int .u64 (hiI x), .int .u64 (loI x)], 25⟩, ⟨g1, [.int .i64 0, .bool false, .int .u64 0, .int .u64 0, .int .i64 0], 27⟩, ⟨g2, [.int .i64 P, .int .i64 emin, .int .i64 emax, .int .i64 W, .int .i64 E, .bool ex], 83⟩, ⟨g3, [.int .i64 0, .bool ng, .int .u64 0, .int .u64 0, .int .i64 0], 27⟩], [Row .u64 A1 k1 (ofN B32 (x % 2 ^ fracN P ex))]⟩) E ?_ ?_
      ·refine ⟨Nat.le_refl _, ?_⟩
       rw [hng]
       refine ⟨(1 : Int), (0 : Int), ?_, ?_, xw (zsS (ziS zi0) zs0)⟩
       ·rw [Nat.sub_self]; rfl
       ·rw [Nat.sub_self]; rfl
      ·rintro n s' ⟨hn, t, i, ht, hi, hw⟩
       refine SW_weak hw ?_
       have h2 : 2 ^ (E - n) ≤ 2 ^ 15 := Nat.pow_le_pow_right (by decide) (by omega)
       refine SW_seq ?_
       refine xr [(2, [2])] [(66, .bool (decide (i < (E : Int))))] ?_
       refine xs (decide (i < (E : Int))) (fun q3 => ?_) (fun q3 => ?_)
       ·have hlt : i < E := of_decide_eq_true q3
        refine SW_skip ?_
        refine SW_seq ?_
        refine SW_block ?_
        refine xrl [] [(12, .int .i64 (IntKind.wrap IntKind.i64 (t * 2)))] ?_
        refine xrl [] [(13, .int .i64 (IntKind.wrap IntKind.i64 (i + 1)))] ?_
        refine ⟨n - 1, by omega, by omega, ?_⟩
        refine ⟨(IntKind.wrap IntKind.i64 (t * 2) : Int), (IntKind.wrap IntKind.i64 (i + 1) : Int), ?_, ?_, xw (zsS zi0 zs0)⟩
        ·have h3 : 2 ^ (E - (n - 1)) = 2 ^ (E - n) * 2 := by rw [show E - (n - 1) = (E - n) + 1 by omega, Nat.pow_succ]
         rw [ht, h3]
         generalize 2 ^ (E - n) = v at h2 ⊢
         have h4 : (2 : Nat) ^ 15 = 32768 := rfl
         rw [wsi (by omega)]
         omega
        ·rw [wsi (by omega)]; omega
       ·have hge : ¬ i < E := of_decide_eq_false q3
        obtain rfl : n = 0 := by omega
        rw [Nat.sub_zero] at ht h2
        have hT0 : 2 ≤ 2 ^ E := Nat.pow_le_pow_right (n := 2) (by decide) h.e0
        have htop : IntKind.i64.wrap (t - 1) = ((2 ^ E - 1 : Nat) : Int) := by
         rw [ht]
         have h4 : (2 : Nat) ^ 15 = 32768 := rfl
         generalize 2 ^ E = v at h2 hT0
         rw [wsi (by omega)]
         omega
        have nP : Nn (IntKind.i64.wrap ((P : Int) - 1)) (P - 1) := Nn.wrap (by omega) (by omega)
        have hng2 : ng = decide (x / 2 ^ (W - 1) % 2 = 1) := by
         rw [hng, Bool.eq_iff_iff, beq_iff_eq, decide_eq_true_iff]
         omega
        refine SW_exit ?_
        refine xr [] [(12, .int .i64 (IntKind.wrap IntKind.i64 (t - 1)))] ?_
        refine xr [] [(14, .bool true)] ?_
        refine xr [] [(15, .slice A1 (List.length (ofN B32 (x % 2 ^ fracN P ex))) k1)] ?_
        refine SW_cut (fun s' => ∃ A c, unpN P emin emax W E ex x = partsOf P emin emax E F ng (x % 2 ^ (P - 1)) ∧ Weak s' ⟨[(4, .pointer (some ⟨g1, 0, none⟩)), (5, .pointer (some ⟨g2, 0, none⟩)), (9, .int .i64 e), (11, .pointer (some ⟨g3, 0, none⟩)), (12, .int .i64 (IntKind.i64.wrap (t - 1))), (15, .slice A (ofN B32 (x % 2 ^ (P - 1))).length c)], [⟨g0, [.int .u64 (hiI x), .int .u64 (loI x)], 25⟩, ⟨g1, [.int .i64 0, .bool false, .int .u64 0, .int .u64 0, .int .i64 0], 27⟩, ⟨g2, [.int .i64 P, .int .i64 emin, .int .i64 emax, .int .i64 W, .int .i64 E, .bool ex], 83⟩, ⟨g3, [.int .i64 0, .bool ng, .int .u64 0, .int .u64 0, .int .i64 0], 27⟩], [Row .u64 A c (ofN B32 (x % 2 ^ (P - 1)))]⟩) ?_ ?_
        ·refine xr [(1, [2])] [(75, .bool ex)] ?_
         refine xs (ex) (fun q4 => ?_) (fun q4 => ?_)
         ·have hf2 : fracN P ex = P := by unfold fracN; rw [if_pos q4]
          have hmm : x % 2 ^ P % 2 ^ (P - 1) = x % 2 ^ (P - 1) := Nat.mod_mod_of_dvd _ (Nat.pow_dvd_pow 2 (by omega))
          rw [hf2] at sf hF
          rw [hf2]
          have hbit : (((x % 2 ^ P / 2 ^ (P - 1) % 2 : Nat) : Int) == 1) = decide (2 ^ (P - 1) ≤ x % 2 ^ P) := by
           rw [bit_top (v := x % 2 ^ P) (m := P - 1) (by rw [show P - 1 + 1 = P by omega]; exact Nat.mod_lt _ (Nat.pow_pos (by decide)))]
           by_cases hL : 2 ^ (P - 1) ≤ x % 2 ^ P
           ·rw [if_pos hL, decide_eq_true hL]; rfl
           ·rw [if_neg hL, decide_eq_false hL]; rfl
          have hbad : ¬ (2 ^ (P - 1) ≤ x % 2 ^ P ↔ F ≠ 0) → unpN P emin emax W E ex x = badP := by
           intro hn
           rw [unpN, if_neg (by omega), if_pos q4, ← hF, if_neg hn]
          have hgood : (2 ^ (P - 1) ≤ x % 2 ^ P ↔ F ≠ 0) → unpN P emin emax W E ex x = partsOf P emin emax E F ng (x % 2 ^ P % 2 ^ (P - 1)) := by
           intro hn
           rw [unpN, if_neg (by omega), if_pos q4, ← hF, if_pos hn, hng2]
          by_cases hF0 : F = 0
          ·have z1 : (e == 0) = true := by rw [heF, hF0]; rfl
           have z2 : decide (e > 0) = false := decide_eq_false (by omega)
           by_cases hL : 2 ^ (P - 1) ≤ x % 2 ^ P
           ·have z3 := hbit.trans (decide_eq_true hL)
            refine xg ?_
            refine xn 4 [(2, [2])] [(79, .int .i64 (IntKind.wrap IntKind.i64 ((P : Int) - 1))), (76, .slice A1 (List.length (ofN B32 (x % 2 ^ P))) k1)] ?_
            refine xcv 80 (ct_spec_l1Bit (x % 2 ^ P) (A1) (k1) (IntKind.wrap IntKind.i64 ((P : Int) - 1)) (P - 1) nP (by omega) sf) (zsS zi0 zs0) ?_
            refine xz [] [(14, .bool ((((x % 2 ^ P / 2 ^ (P - 1) % 2) : Nat) : Int) == 1))] ?_
            refine xg ?_
            refine xn 4 [(2, [2])] [(85, .int .i64 (IntKind.wrap IntKind.i64 ((P : Int) - 1))), (82, .slice A1 (List.length (ofN B32 (x % 2 ^ P))) k1)] ?_
            refine xcr 86 (ct_spec_l2Low (x % 2 ^ P) (A1) (k1) (IntKind.wrap IntKind.i64 ((P : Int) - 1)) (P - 1) nP (by omega) sf) (zsS zi0 zs0) (fun A2 k2 => ?_)
            refine xz [] [(15, .slice A2 (List.length (ofN B32 (x % 2 ^ P % 2 ^ (P - 1)))) k2)] ?_
            refine xg ?_
            refine xn 3 [] [(89, .bool (e == 0))] ?_
            refine xkt 89 z1 ?_
            refine xn 6 [] [(92, .bool ((((x % 2 ^ P / 2 ^ (P - 1) % 2) : Nat) : Int) == 1))] ?_
            refine xkt 92 z3 ?_
            refine xz [] [(99, .bool true)] ?_
            refine xs1 ?_
            refine xq [(1, [1])] [] [] ?_
            refine SW_ret ?_
            refine xe () (.agg #[.int .i64 0, .bool false, .int .u64 0, .int .u64 0, .int .i64 0]) [1] ?_ trivial
            rw [hbad (fun z => z.1 hL hF0)]
            rfl
           ·have z3 := hbit.trans (decide_eq_false hL)
            refine xg ?_
            refine xn 4 [(2, [2])] [(79, .int .i64 (IntKind.wrap IntKind.i64 ((P : Int) - 1))), (76, .slice A1 (List.length (ofN B32 (x % 2 ^ P))) k1)] ?_
            refine xcv 80 (ct_spec_l1Bit (x % 2 ^ P) (A1) (k1) (IntKind.wrap IntKind.i64 ((P : Int) - 1)) (P - 1) nP (by omega) sf) (zsS zi0 zs0) ?_
            refine xz [] [(14, .bool ((((x % 2 ^ P / 2 ^ (P - 1) % 2) : Nat) : Int) == 1))] ?_
            refine xg ?_
            refine xn 4 [(2, [2])] [(85, .int .i64 (IntKind.wrap IntKind.i64 ((P : Int) - 1))), (82, .slice A1 (List.length (ofN B32 (x % 2 ^ P))) k1)] ?_
            refine xcr 86 (ct_spec_l2Low (x % 2 ^ P) (A1) (k1) (IntKind.wrap IntKind.i64 ((P : Int) - 1)) (P - 1) nP (by omega) sf) (zsS zi0 zs0) (fun A2 k2 => ?_)
            refine xz [] [(15, .slice A2 (List.length (ofN B32 (x % 2 ^ P % 2 ^ (P - 1)))) k2)] ?_
            refine xg ?_
            refine xn 3 [] [(89, .bool (e == 0))] ?_
            refine xkt 89 z1 ?_
            refine xn 6 [] [(92, .bool ((((x % 2 ^ P / 2 ^ (P - 1) % 2) : Nat) : Int) == 1))] ?_
            refine xkf 92 z3 ?_
            refine xn 9 [] [(95, .bool (decide (e > 0)))] ?_
            refine xkf 95 z2 ?_
            refine xz [] [(99, .bool false)] ?_
            refine xs0 ?_
            refine SW_skip ?_
            rw [← hmm]
            refine ⟨(A2), (k2), ?_, xw (zsS zi0 zs0)⟩
            exact hgood ⟨fun z => absurd z hL, fun z => absurd hF0 z⟩
          ·have z1 : (e == 0) = false := by rw [heF, beq_eq_false_iff_ne]; omega
           have z2 : decide (e > 0) = true := decide_eq_true (by omega)
           by_cases hL : 2 ^ (P - 1) ≤ x % 2 ^ P
           ·have z3 := hbit.trans (decide_eq_true hL)
            have z4 : (!(((x % 2 ^ P / 2 ^ (P - 1) % 2 : Nat) : Int) == 1)) = false := by rw [z3]; rfl
            refine xg ?_
            refine xn 4 [(2, [2])] [(79, .int .i64 (IntKind.wrap IntKind.i64 ((P : Int) - 1))), (76, .slice A1 (List.length (ofN B32 (x % 2 ^ P))) k1)] ?_
            refine xcv 80 (ct_spec_l1Bit (x % 2 ^ P) (A1) (k1) (IntKind.wrap IntKind.i64 ((P : Int) - 1)) (P - 1) nP (by omega) sf) (zsS zi0 zs0) ?_
            refine xz [] [(14, .bool ((((x % 2 ^ P / 2 ^ (P - 1) % 2) : Nat) : Int) == 1))] ?_
            refine xg ?_
            refine xn 4 [(2, [2])] [(85, .int .i64 (IntKind.wrap IntKind.i64 ((P : Int) - 1))), (82, .slice A1 (List.length (ofN B32 (x % 2 ^ P))) k1)] ?_
            refine xcr 86 (ct_spec_l2Low (x % 2 ^ P) (A1) (k1) (IntKind.wrap IntKind.i64 ((P : Int) - 1)) (P - 1) nP (by omega) sf) (zsS zi0 zs0) (fun A2 k2 => ?_)
            refine xz [] [(15, .slice A2 (List.length (ofN B32 (x % 2 ^ P % 2 ^ (P - 1)))) k2)] ?_
            refine xg ?_
            refine xn 3 [] [(89, .bool (e == 0))] ?_
            refine xkf 89 z1 ?_
            refine xn 9 [] [(95, .bool (decide (e > 0))), (92, .bool false)] ?_
            refine xkt 95 z2 ?_
            refine xz [] [(99, .bool !(((x % 2 ^ P / 2 ^ (P - 1) % 2) : Nat) : Int) == 1)] ?_
            refine xsf z4 ?_
            refine SW_skip ?_
            rw [← hmm]
            refine ⟨(A2), (k2), ?_, xw (zsS zi0 zs0)⟩
            exact hgood ⟨fun _ => hF0, fun _ => hL⟩
           ·have z3 := hbit.trans (decide_eq_false hL)
            have z4 : (!(((x % 2 ^ P / 2 ^ (P - 1) % 2 : Nat) : Int) == 1)) = true := by rw [z3]; rfl
            refine xg ?_
            refine xn 4 [(2, [2])] [(79, .int .i64 (IntKind.wrap IntKind.i64 ((P : Int) - 1))), (76, .slice A1 (List.length (ofN B32 (x % 2 ^ P))) k1)] ?_
            refine xcv 80 (ct_spec_l1Bit (x % 2 ^ P) (A1) (k1) (IntKind.wrap IntKind.i64 ((P : Int) - 1)) (P - 1) nP (by omega) sf) (zsS zi0 zs0) ?_
            refine xz [] [(14, .bool ((((x % 2 ^ P / 2 ^ (P - 1) % 2) : Nat) : Int) == 1))] ?_
            refine xg ?_
            refine xn 4 [(2, [2])] [(85, .int .i64 (IntKind.wrap IntKind.i64 ((P : Int) - 1))), (82, .slice A1 (List.length (ofN B32 (x % 2 ^ P))) k1)] ?_
            refine xcr 86 (ct_spec_l2Low (x % 2 ^ P) (A1) (k1) (IntKind.wrap IntKind.i64 ((P : Int) - 1)) (P - 1) nP (by omega) sf) (zsS zi0 zs0) (fun A2 k2 => ?_)
            refine xz [] [(15, .slice A2 (List.length (ofN B32 (x % 2 ^ P % 2 ^ (P - 1)))) k2)] ?_
            refine xg ?_
            refine xn 3 [] [(89, .bool (e == 0))] ?_
            refine xkf 89 z1 ?_
            refine xn 9 [] [(95, .bool (decide (e > 0))), (92, .bool false)] ?_
            refine xkt 95 z2 ?_
            refine xz [] [(99, .bool !(((x % 2 ^ P / 2 ^ (P - 1) % 2) : Nat) : Int) == 1)] ?_
            refine xst z4 ?_
            refine xq [(1, [1])] [] [] ?_
            refine SW_ret ?_
            refine xe () (.agg #[.int .i64 0, .bool false, .int .u64 0, .int .u64 0, .int .i64 0]) [1] ?_ trivial
            rw [hbad (fun z => hL (z.2 hF0))]
            rfl
         ·have hf2 : fracN P ex = P - 1 := by unfold fracN; rw [q4]; rfl
          refine SW_skip ?_
          rw [← hf2]
          refine ⟨(A1), (k1), ?_, xw (zsS zi0 zs0)⟩
          rw [unpN, if_neg (by omega), if_neg (by rw [q4]; decide), ← hf2, hng2, hF]
        ·rintro s' ⟨A, c, hU, hw⟩
         refine SW_weak hw ?_
         rw [hU]
         have bR : x % 2 ^ (P - 1) < B128 := Nat.lt_of_le_of_lt (Nat.mod_le _ _) hx
         have sR : Sm (x % 2 ^ (P - 1)) := sm.mono (Nat.mod_le _ _)
         have sT : Sm (2 ^ (P - 1)) := Sm.of (k := P) (Nat.pow_lt_pow_right (by decide) (by omega)) (by omega)
         have bS : x % 2 ^ (P - 1) + 2 ^ (P - 1) < B128 := by
          have y1 := Nat.mod_lt x (Nat.pow_pos (n := P - 1) (show 0 < 2 by decide))
          have y2 : 2 ^ P = 2 * 2 ^ (P - 1) := by rw [Nat.mul_comm, ← Nat.pow_succ]; congr 1; omega
          have y3 : 2 ^ P ≤ 2 ^ 127 := Nat.pow_le_pow_right (by decide) (by omega)
          have y4 : (2 : Nat) ^ 127 < B128 := by decide
          omega
         have hz : ((((ofN B32 (x % 2 ^ (P - 1))).length : Nat) : Int) == 0) = decide (x % 2 ^ (P - 1) = 0) := by
          have y := ofN_zero B32_2 (x % 2 ^ (P - 1))
          rw [Bool.eq_iff_iff, beq_iff_eq, decide_eq_true_iff, ← y]
          omega
         have hm0 := h.m0
         have hm1 := h.m1
         have hFl : F < 2 ^ E := by rw [hF]; exact Nat.mod_lt _ (Nat.pow_pos (by decide))
         have hE2 : (2 : Nat) ^ 15 = 32768 := rfl
         by_cases c1 : F = 2 ^ E - 1
         ·have z1 : (e == IntKind.i64.wrap (t - 1)) = true := by rw [htop, heF, c1]; exact beq_self_eq_true _
          by_cases c2 : x % 2 ^ (P - 1) = 0
          ·have z2 := hz.trans (decide_eq_true c2)
           refine SW_seq ?_
           refine SW_block ?_
           refine xg ?_
           refine xn 4 [] [(123, .bool (e == IntKind.wrap IntKind.i64 (t - 1)))] ?_
           refine xkt 123 z1 ?_
           refine xz [] [(119, .bool ((((List.length (ofN B32 (x % 2 ^ (P - 1)))) : Nat) : Int) == 0))] ?_
           refine xst z2 ?_
           refine xql [(1, [3])] [] [(3, [.int .i64 4, .bool ng, .int .u64 0, .int .u64 0, .int .i64 0])] ?_
           refine xq [(0, [3]), (1, [1])] [] [(1, [.int .i64 4, .bool ng, .int .u64 0, .int .u64 0, .int .i64 0])] ?_
           refine SW_ret ?_
           refine xe () (.agg #[.int .i64 4, .bool ng, .int .u64 0, .int .u64 0, .int .i64 0]) [1] ?_ trivial
           rw [partsOf, if_pos c1, if_pos c2]
           rfl
          ·have z2 := hz.trans (decide_eq_false c2)
           refine SW_seq ?_
           refine SW_block ?_
           refine xg ?_
           refine xn 4 [] [(123, .bool (e == IntKind.wrap IntKind.i64 (t - 1)))] ?_
           refine xkt 123 z1 ?_
           refine xz [] [(119, .bool ((((List.length (ofN B32 (x % 2 ^ (P - 1)))) : Nat) : Int) == 0))] ?_
           refine xsf z2 ?_
           refine xr [] [(129, .bool (e == IntKind.wrap IntKind.i64 (t - 1)))] ?_
           refine xst z1 ?_
           refine xq [(1, [1])] [] [(1, [.int .i64 5, .bool false, .int .u64 0, .int .u64 0, .int .i64 0])] ?_
           refine SW_ret ?_
           refine xe () (.agg #[.int .i64 5, .bool false, .int .u64 0, .int .u64 0, .int .i64 0]) [1] ?_ trivial
           rw [partsOf, if_pos c1, if_neg c2]
           rfl
         ·have z1 : (e == IntKind.i64.wrap (t - 1)) = false := by rw [htop, heF, beq_eq_false_iff_ne]; omega
          by_cases c3 : F = 0
          ·have z3 : (e == 0) = true := by rw [heF, c3]; rfl
           by_cases c2 : x % 2 ^ (P - 1) = 0
           ·have z2 := hz.trans (decide_eq_true c2)
            refine SW_seq ?_
            refine SW_block ?_
            refine xg ?_
            refine xn 4 [] [(123, .bool (e == IntKind.wrap IntKind.i64 (t - 1)))] ?_
            refine xkf 123 z1 ?_
            refine xz [] [(119, .bool false)] ?_
            refine xs0 ?_
            refine xr [] [(129, .bool (e == IntKind.wrap IntKind.i64 (t - 1)))] ?_
            refine xsf z1 ?_
            refine xg ?_
            refine xn 3 [] [(137, .bool (e == 0))] ?_
            refine xkt 137 z3 ?_
            refine xz [] [(134, .bool ((((List.length (ofN B32 (x % 2 ^ (P - 1)))) : Nat) : Int) == 0))] ?_
            refine xst z2 ?_
            refine xql [(1, [3])] [] [(3, [.int .i64 1, .bool ng, .int .u64 0, .int .u64 0, .int .i64 0])] ?_
            refine xq [(0, [3]), (1, [1])] [] [(1, [.int .i64 1, .bool ng, .int .u64 0, .int .u64 0, .int .i64 0])] ?_
            refine SW_ret ?_
            refine xe () (.agg #[.int .i64 1, .bool ng, .int .u64 0, .int .u64 0, .int .i64 0]) [1] ?_ trivial
            rw [partsOf, if_neg c1, if_pos c3, if_pos c2]
            rfl
           ·have z2 := hz.trans (decide_eq_false c2)
            refine SW_seq ?_
            refine SW_block ?_
            refine xg ?_
            refine xn 4 [] [(123, .bool (e == IntKind.wrap IntKind.i64 (t - 1)))] ?_
            refine xkf 123 z1 ?_
            refine xz [] [(119, .bool false)] ?_
            refine xs0 ?_
            refine xr [] [(129, .bool (e == IntKind.wrap IntKind.i64 (t - 1)))] ?_
            refine xsf z1 ?_
            refine xg ?_
            refine xn 3 [] [(137, .bool (e == 0))] ?_
            refine xkt 137 z3 ?_
            refine xz [] [(134, .bool ((((List.length (ofN B32 (x % 2 ^ (P - 1)))) : Nat) : Int) == 0))] ?_
            refine xsf z2 ?_
            refine xr [] [(143, .bool (e == 0))] ?_
            refine xst z3 ?_
            refine xq [(1, [3])] [] [(3, [.int .i64 2, .bool ng, .int .u64 0, .int .u64 0, .int .i64 0])] ?_
            refine xg ?_
            refine xn 1 [] [(147, .slice A (List.length (ofN B32 (x % 2 ^ (P - 1)))) c)] ?_
            refine xcv 148 (ct_spec_l2Word (x % 2 ^ (P - 1)) (A) (c) bR) (zsS zi0 zs0) ?_
            refine xy [(3, [3])] [] [(3, [.int .i64 2, .bool ng, .int .u64 (hiI (x % 2 ^ (P - 1))), .int .u64 (loI (x % 2 ^ (P - 1))), .int .i64 0])] ?_
            refine xql [(1, [2]), (3, [2]), (7, [3])] [] [(3, [.int .i64 2, .bool ng, .int .u64 (hiI (x % 2 ^ (P - 1))), .int .u64 (loI (x % 2 ^ (P - 1))), .int .i64 (IntKind.wrap IntKind.i64 (IntKind.wrap IntKind.i64 (emin - (P : Int)) + 1))])] ?_
            refine xq [(0, [3]), (1, [1])] [] [(1, [.int .i64 2, .bool ng, .int .u64 (hiI (x % 2 ^ (P - 1))), .int .u64 (loI (x % 2 ^ (P - 1))), .int .i64 (IntKind.wrap IntKind.i64 (IntKind.wrap IntKind.i64 (emin - (P : Int)) + 1))])] ?_
            refine SW_ret ?_
            refine xe () (.agg #[.int .i64 2, .bool ng, .int .u64 (hiI (x % 2 ^ (P - 1))), .int .u64 (loI (x % 2 ^ (P - 1))), .int .i64 (IntKind.wrap IntKind.i64 (IntKind.wrap IntKind.i64 (emin - (P : Int)) + 1))]) [1] ?_ trivial
            rw [partsOf, if_neg c1, if_pos c3, if_neg c2, wsi (x := emin - _) (by omega), wsi (by omega)]
            rfl
          ·have z3 : (e == 0) = false := by rw [heF, beq_eq_false_iff_ne]; omega
           refine SW_seq ?_
           refine SW_block ?_
           refine xg ?_
           refine xn 4 [] [(123, .bool (e == IntKind.wrap IntKind.i64 (t - 1)))] ?_
           refine xkf 123 z1 ?_
           refine xz [] [(119, .bool false)] ?_
           refine xs0 ?_
           refine xr [] [(129, .bool (e == IntKind.wrap IntKind.i64 (t - 1)))] ?_
           refine xsf z1 ?_
           refine xg ?_
           refine xn 3 [] [(137, .bool (e == 0))] ?_
           refine xkf 137 z3 ?_
           refine xz [] [(134, .bool false)] ?_
           refine xs0 ?_
           refine xr [] [(143, .bool (e == 0))] ?_
           refine xsf z3 ?_
           refine xq [(1, [3])] [] [(3, [.int .i64 3, .bool ng, .int .u64 0, .int .u64 0, .int .i64 0])] ?_
           refine xg ?_
           refine xn 4 [(2, [2])] [(105, .int .i64 (IntKind.wrap IntKind.i64 ((P : Int) - 1))), (102, .slice A (List.length (ofN B32 (x % 2 ^ (P - 1)))) c)] ?_
           refine xcr 106 (ct_spec_l2Two (IntKind.wrap IntKind.i64 ((P : Int) - 1)) (P - 1) nP (by omega)) zs0 (fun A2 k2 => ?_)
           refine xcr 107 (ct_spec_l1Add (x % 2 ^ (P - 1)) (2 ^ (P - 1)) (A) (A2) (c) (k2) sR sT) (zsS (ziS zi0) (zsS zi0 zs0)) (fun A3 k3 => ?_)
           refine xcv 108 (ct_spec_l2Word (x % 2 ^ (P - 1) + 2 ^ (P - 1)) (A3) (k3) bS) (zsS zi0 zs0) ?_
           refine xy [(8, [3])] [] [(3, [.int .i64 3, .bool ng, .int .u64 (hiI (x % 2 ^ (P - 1) + 2 ^ (P - 1))), .int .u64 (loI (x % 2 ^ (P - 1) + 2 ^ (P - 1))), .int .i64 0])] ?_
           refine xql [(2, [2]), (5, [2]), (9, [3])] [] [(3, [.int .i64 3, .bool ng, .int .u64 (hiI (x % 2 ^ (P - 1) + 2 ^ (P - 1))), .int .u64 (loI (x % 2 ^ (P - 1) + 2 ^ (P - 1))), .int .i64 (IntKind.wrap IntKind.i64 (IntKind.wrap IntKind.i64 (IntKind.wrap IntKind.i64 (e - emax) - (P : Int)) + 1))])] ?_
           refine xq [(0, [3]), (1, [1])] [] [(1, [.int .i64 3, .bool ng, .int .u64 (hiI (x % 2 ^ (P - 1) + 2 ^ (P - 1))), .int .u64 (loI (x % 2 ^ (P - 1) + 2 ^ (P - 1))), .int .i64 (IntKind.wrap IntKind.i64 (IntKind.wrap IntKind.i64 (IntKind.wrap IntKind.i64 (e - emax) - (P : Int)) + 1))])] ?_
           refine SW_ret ?_
           refine xe () (.agg #[.int .i64 3, .bool ng, .int .u64 (hiI (x % 2 ^ (P - 1) + 2 ^ (P - 1))), .int .u64 (loI (x % 2 ^ (P - 1) + 2 ^ (P - 1))), .int .i64 (IntKind.wrap IntKind.i64 (IntKind.wrap IntKind.i64 (IntKind.wrap IntKind.i64 (e - emax) - (P : Int)) + 1))]) [1] ?_ trivial
           have hF15 : F < 32768 := Nat.lt_of_lt_of_le hFl h2
           rw [partsOf, if_neg c1, if_neg c3, heF, wsi (x := (F : Int) - _) (by omega), wsi (x := (F : Int) - _ - _) (by omega), wsi (by omega)]
           rfl
end Go.Proofs.YtdbnmdchecacdaaDoor.M
end
section
namespace Go.Proofs.YtdbnmdchecacdaaDoor.M
open Go.RowKit Go.Proofs.YtdbnmdchecacdaaDoor.G Go.Proofs.YtdbnmdchecacdaaDoorV.PrintWords Go.Proofs.YtdbnmdchecacdaaDoorV.PrintLast Go.Proofs.YtdbnmdchecacdaaDoor.X
set_option linter.unusedVariables false
set_option linter.unusedSimpArgs false
theorem ct_spec_l2Top {P : Nat} {emin emax : Int} {W E : Nat} {ex : Bool} (h : Fmt2 P emin emax W E ex) : CtV Tryd.prog 79 [dscV P emin emax W E ex] [] (.int .i64 ((2 ^ E - 1 : Nat) : Int)) := by
 have m1 := h.m1
 refine ct_of Tryd.func79 rfl (by kernel_rfl) (fun B w0 => ?_)
 refine xg ?_
 refine xb 1 [.int .i64 (P : Int), .int .i64 emin, .int .i64 emax, .int .i64 (W : Int), .int .i64 (E : Int), .bool ex] 83 (fun g0 => ?_)
 refine xz [] [(2, .int .i64 0)] ?_
 refine xr [(1, [0])] [(2, .int .i64 (IntKind.wrap IntKind.i64 (IntKind.wrap IntKind.i64 (2 * emax) + 1)))] ?_
 refine SW_ret ?_
 refine xe () (.int .i64 (IntKind.wrap IntKind.i64 (IntKind.wrap IntKind.i64 (2 * emax) + 1))) [] ?_ trivial
 rw [wsi (x := 2 * emax) (by omega), wsi (by omega), h.top]
theorem ct_spec_Pack {P : Nat} {emin emax : Int} {W E : Nat} {ex : Bool} (h : Fmt2 P emin emax W E ex) (f : Int) (hf : spec_Describe.f f = some ((P : Int), emin, emax, (W : Int), (E : Int), ex)) (c : Int) (neg : Bool) (S : Nat) (hS : S < B128) (q : Int) (hq : -9223372036854775808 ≤ q ∧ q ≤ 9223372036854775807) :
  CtV Tryd.prog 21 [.int .i64 f, .agg #[.int .i64 c, .bool neg, .int .u64 (hiI S), .int .u64 (loI S), .int .i64 q]] [] (.tuple #[.agg #[.int .u64 (hiI (packR P emin emax W E ex c neg S q).1), .int .u64 (loI (packR P emin emax W E ex c neg S q).1)], .bool (packR P emin emax W E ex c neg S q).2]) := by
 have h1 := h.toFmt
 refine ct_of Tryd.func21 rfl (by kernel_rfl) (fun B w0 => ?_)
 have p3 := h.p3
 have p1 := h.p1
 refine xg ?_
 refine xb 3 [.int .i64 c, .bool neg, .int .u64 (hiI S), .int .u64 (loI S), .int .i64 q] 27 (fun g0 => ?_)
 refine xb 4 [.int .u64 0, .int .u64 0] 25 (fun g1 => ?_)
 refine xz [] [(5, .bool false)] ?_
 refine xg ?_
 refine xn 1 [] [(10, .int .i64 f)] ?_
 refine xcv 11 (ct_spec_Describe (f) hf) zs0 ?_
 refine xb 6 [.int .i64 0, .int .i64 0, .int .i64 0, .int .i64 0, .int .i64 0, .bool false] 83 (fun g2 => ?_)
 refine xy [(3, [2])] [] [(2, [.int .i64 (P : Int), .int .i64 emin, .int .i64 emax, .int .i64 (W : Int), .int .i64 (E : Int), .bool ex])] ?_
 refine SW_seq ?_
 refine xr [(1, [2])] [(14, .bool ((P : Int) == 0))] ?_
 refine xs ((P : Int) == 0) (fun q0 => ?_) (fun q0 => ?_)
 ·exfalso
  have := beq_iff_eq.1 q0
  omega
 ·refine SW_skip ?_
  refine xg ?_
  refine xn 1 [] [(16, .agg #[.int .u64 0, .int .u64 0])] ?_
  refine xb 7 [.int .u64 0, .int .u64 0] 25 (fun g3 => ?_)
  refine xy [(2, [3])] [] [] ?_
  refine xg ?_
  refine xn 2 [(1, [0])] [(18, .agg #[.int .u64 (hiI S), .int .u64 (loI S)])] ?_
  refine xcr 19 (ct_spec_l2Of (S) hS) zs0 (fun A0 k0 => ?_)
  refine xz [] [(8, .slice A0 (List.length (ofN B32 S)) k0)] ?_
  have e0 : 0 < 2 ^ E := Nat.pow_pos (by decide)
  have e1 : 2 ^ E - 1 < 2 ^ E := by omega
  have nP2 : Nn (IntKind.i64.wrap ((P : Int) - 2)) (P - 2) := Nn.wrap (by omega) (by omega)
  have r2 : 2 ^ (P - 2) < 2 ^ (P - 1) := Nat.pow_lt_pow_right (by decide) (by omega)
  have nP1 : Nn (IntKind.i64.wrap ((P : Int) - 1)) (P - 1) := Nn.wrap (by omega) (by omega)
  have hlow : S % 2 ^ (P - 1) < 2 ^ (P - 1) := Nat.mod_lt _ (Nat.pow_pos (by decide))
  have h128 : 2 ^ W ≤ B128 := Nat.pow_le_pow_right (n := 2) (by decide) h1.w2
  have mk : ∀ n l e r, e < 2 ^ E → r < 2 ^ (P - 1) → makeN P W ex n l e r < B128 := fun n l e r he hr => Nat.lt_of_lt_of_le (makeN_lt h1 n l e r he hr) h128
  have z0 : 0 < 2 ^ (P - 1) := Nat.pow_pos (by decide)
  obtain ⟨m, hm⟩ := bits_ex S
  have sS : Sm S := sm128 (Nat.lt_of_lt_of_le hS (by decide))
  refine SW_cut (fun s' => ∃ x, x < B128 ∧ packN P emax W E ex c neg S q = some x ∧ Weak s' ⟨[(0, .int .i64 f), (3, .pointer (some ⟨g0, 0, none⟩)), (4, .pointer (some ⟨g1, 0, none⟩)), (7, .pointer (some ⟨g3, 0, none⟩))], [⟨g0, [.int .i64 c, .bool neg, .int .u64 (hiI S), .int .u64 (loI S), .int .i64 q], 27⟩, ⟨g1, [.int .u64 0, .int .u64 0], 25⟩, ⟨g2, [.int .i64 (P : Int), .int .i64 emin, .int .i64 emax, .int .i64 (W : Int), .int .i64 (E : Int), .bool ex], 83⟩, ⟨g3, [.int .u64 (hiI x), .int .u64 (loI x)], 25⟩], []⟩) ?_ ?_
  ·refine xr [(1, [0])] [(21, .int .i64 c)] ?_
   refine SW_block ?_
   refine xr [] [(23, .bool (c == 1))] ?_
   refine xs (c == 1) (fun q1 => ?_) (fun q1 => ?_)
   ·refine SW_region ?_
    refine xn 3 [(0, [2]), (2, [0])] [(27, .bool neg), (25, .agg #[.int .i64 (P : Int), .int .i64 emin, .int .i64 emax, .int .i64 (W : Int), .int .i64 (E : Int), .bool ex])] ?_
    refine xcv 28 (ct_spec_l2Make' h1 (neg) (false) (0) e0 (0) ⟨rfl⟩) zs0 ?_
    refine xy [(4, [3])] [] [(3, [.int .u64 (hiI (makeN P W ex neg false 0 0)), .int .u64 (loI (makeN P W ex neg false 0 0))])] ?_
    have hc : c = 1 := by simpa using q1
    exact ⟨_, mk neg false 0 0 e0 z0, by unfold packN; rw [if_pos hc], Weak.mk' (by kernel_rfl) rfl zs0⟩
   have hc1 : c ≠ 1 := by simpa using q1
   refine xr [] [(29, .bool (c == 4))] ?_
   refine xs (c == 4) (fun q2 => ?_) (fun q2 => ?_)
   ·refine xdl (fun hB => ?_)
    refine xdk [(0, [2]), (1, []), (2, [0]), (3, [2])] [(34, .agg #[.int .i64 (P : Int), .int .i64 emin, .int .i64 emax, .int .i64 (W : Int), .int .i64 (E : Int), .bool ex]), (33, .bool neg), (31, .agg #[.int .i64 (P : Int), .int .i64 emin, .int .i64 emax, .int .i64 (W : Int), .int .i64 (E : Int), .bool ex])] hB ?_
    refine xdv 4 35 (ct_spec_l2Top h) zs0 ?_
    refine xdv 5 36 (ct_spec_l2Make' h1 (neg) (true) (2 ^ E - 1) e1 ((((2 ^ E - 1) : Nat) : Int)) ⟨rfl⟩) zs0 ?_
    refine xds 6 [3] [(3, [.int .u64 (hiI (makeN P W ex neg true (2 ^ E - 1) 0)), .int .u64 (loI (makeN P W ex neg true (2 ^ E - 1) 0))])] ?_
    refine xdz ?_
    have hc : c = 4 := by simpa using q2
    exact ⟨_, mk neg true _ 0 e1 z0, by unfold packN; rw [if_neg hc1, if_pos hc], Weak.mk' (by kernel_rfl) rfl zs0⟩
   have hc4 : c ≠ 4 := by simpa using q2
   refine xr [] [(37, .bool (c == 5))] ?_
   refine xs (c == 5) (fun q3 => ?_) (fun q3 => ?_)
   ·refine xdl (fun hB => ?_)
    refine xdk [(0, [2]), (1, [2]), (3, []), (4, [2]), (5, [])] [(44, .int .i64 (IntKind.wrap IntKind.i64 ((P : Int) - 2))), (40, .agg #[.int .i64 (P : Int), .int .i64 emin, .int .i64 emax, .int .i64 (W : Int), .int .i64 (E : Int), .bool ex]), (39, .agg #[.int .i64 (P : Int), .int .i64 emin, .int .i64 emax, .int .i64 (W : Int), .int .i64 (E : Int), .bool ex])] hB ?_
    refine xdv 2 41 (ct_spec_l2Top h) zs0 ?_
    refine xdr 6 45 (ct_spec_l2Two (IntKind.wrap IntKind.i64 ((P : Int) - 2)) (P - 2) nP2 (by omega)) zs0 (fun A1 k1 => ?_)
    refine xdv 7 46 (ct_spec_l2Make h1 (false) (true) (2 ^ E - 1) (2 ^ (P - 2)) e1 r2 ((((2 ^ E - 1) : Nat) : Int)) ⟨rfl⟩ (A1) (k1)) (zsS zi0 zs0) ?_
    refine xds 8 [3] [(3, [.int .u64 (hiI (makeN P W ex false true (2 ^ E - 1) (2 ^ (P - 2)))), .int .u64 (loI (makeN P W ex false true (2 ^ E - 1) (2 ^ (P - 2))))])] ?_
    refine xdz ?_
    have hc : c = 5 := by simpa using q3
    exact ⟨_, mk false true _ _ e1 r2, by unfold packN; rw [if_neg hc1, if_neg hc4, if_pos hc], Weak.mk' (by kernel_rfl) rfl zs0⟩
   have hc5 : c ≠ 5 := by simpa using q3
   refine xr [] [(47, .bool (c == 2))] ?_
   refine xs (c == 2) (fun q4 => ?_) (fun q4 => ?_)
   ·have hc : c = 2 := by simpa using q4
    have hpk : packN P emax W E ex c neg S q = if S < 2 ^ (P - 1) then some (makeN P W ex neg false 0 S) else none := by unfold packN; rw [if_neg hc1, if_neg hc4, if_neg hc5, if_pos hc]
    have hb := bits_lt (k := P - 1) hm
    refine SW_seq ?_
    refine xd (fun hB => ?_)
    refine xdk [(0, []), (2, []), (3, [2])] [(52, .int .i64 (P : Int)), (49, .slice A0 (List.length (ofN B32 S)) k0)] hB ?_
    refine xdv 1 50 (ct_spec_l1Bits (S) (A0) (k0) sS (m) hm) (zsS zi0 zs0) ?_
    refine xdk [(4, [])] [(53, .bool (decide ((m : Int) ≥ (P : Int))))] hB ?_
    refine xdz ?_
    refine xs (decide ((m : Int) ≥ (P : Int))) (fun q5 => ?_) (fun q5 => ?_)
    ·refine xq [(1, [1])] [(5, .bool false)] [] ?_
     refine SW_ret ?_
     refine xe () (.tuple #[.agg #[.int .u64 0, .int .u64 0], .bool false]) [1] ?_ trivial
     have hge : P ≤ m := by simpa using q5
     rw [packR_none (by rw [hpk, if_neg (by rw [← hb]; omega)])]
     rfl
    have hlt : m < P := by simpa using q5
    have hS2 : S < 2 ^ (P - 1) := hb.1 (by omega)
    refine SW_skip ?_
    refine SW_region ?_
    refine xn 4 [(0, [2]), (2, [0])] [(58, .slice A0 (List.length (ofN B32 S)) k0), (57, .bool neg), (55, .agg #[.int .i64 (P : Int), .int .i64 emin, .int .i64 emax, .int .i64 (W : Int), .int .i64 (E : Int), .bool ex])] ?_
    refine xcv 59 (ct_spec_l2Make h1 (neg) (false) (0) (S) e0 hS2 (0) ⟨rfl⟩ (A0) (k0)) (zsS zi0 zs0) ?_
    refine xy [(5, [3])] [] [(3, [.int .u64 (hiI (makeN P W ex neg false 0 S)), .int .u64 (loI (makeN P W ex neg false 0 S))])] ?_
    exact ⟨_, mk neg false 0 S e0 hS2, by rw [hpk, if_pos hS2], Weak.mk' (by kernel_rfl) rfl zs0⟩
   have hc2 : c ≠ 2 := by simpa using q4
   refine xr [] [(60, .bool (c == 3))] ?_
   refine xs (c == 3) (fun q5 => ?_) (fun q5 => ?_)
   ·have hc : c = 3 := by simpa using q5
    have hpk : packN P emax W E ex c neg S q = if (2 ^ (P - 1) ≤ S ∧ S < 2 ^ P) ∧ 1 ≤ q + emax + P - 1 ∧ q + emax + P - 1 < ((2 ^ E - 1 : Nat) : Int) then some (makeN P W ex neg true (q + emax + P - 1).toNat (S % 2 ^ (P - 1))) else none := by unfold packN; rw [if_neg hc1, if_neg hc4, if_neg hc5, if_neg hc2, if_pos hc]
    have m1 := h.m1
    have tp := h.top
    have wE := wrapE q emax P hq (by omega) m1.2 p1 (by omega)
    have hbP : m = P ↔ 2 ^ (P - 1) ≤ S ∧ S < 2 ^ P := ⟨fun e => by subst e; exact ⟨hm.2.resolve_left (by omega), hm.1⟩, fun e => hm.uniq ⟨e.2, .inr e.1⟩⟩
    have nope : ∀ x : Int, x = IntKind.i64.wrap (IntKind.i64.wrap (IntKind.i64.wrap (q + emax) + (P : Int)) - 1) → ¬ (m = P ∧ 1 ≤ x ∧ x < ((2 ^ E - 1 : Nat) : Int)) → packR P emin emax W E ex c neg S q = (0, false) := by
     intro x hx hn
     refine packR_none ?_
     rw [hpk, if_neg]
     intro hh
     rw [← hx] at wE
     refine hn ⟨hbP.2 hh.1, ?_⟩
     omega
    refine xr [(1, [0]), (3, [2]), (6, [2])] [(9, .int .i64 (IntKind.wrap IntKind.i64 (IntKind.wrap IntKind.i64 (IntKind.wrap IntKind.i64 (q + emax) + (P : Int)) - 1)))] ?_
    refine SW_seq ?_
    refine xd (fun hB => ?_)
    refine xdk [(0, []), (2, []), (3, [2])] [(74, .int .i64 (P : Int)), (71, .slice A0 (List.length (ofN B32 S)) k0)] hB ?_
    refine xdv 1 72 (ct_spec_l1Bits (S) (A0) (k0) sS (m) hm) (zsS zi0 zs0) ?_
    refine xdk [(4, []), (5, [])] [(76, .bool ((m : Int) != (P : Int)))] hB ?_
    refine xdn 76 ((m : Int) != (P : Int)) (fun q6 => ?_) (fun q6 => ?_)
    ·refine xdk [(6, []), (7, []), (8, []), (9, []), (10, []), (11, [2]), (12, []), (13, []), (14, [])] [(85, .bool true)] hB ?_
     refine xdz ?_
     refine xs1 ?_
     refine xq [(1, [1])] [(5, .bool false)] [] ?_
     refine SW_ret ?_
     refine xe () (.tuple #[.agg #[.int .u64 0, .int .u64 0], .bool false]) [1] ?_ trivial
     rw [nope _ rfl (fun z => by rw [z.1] at q6; simp at q6)]
     rfl
    ·have hmP : m = P := by
      have z : (m : Int) = P := by simpa using q6
      omega
     refine xdk [(6, []), (7, []), (8, []), (9, [])] [(80, .bool (decide (IntKind.wrap IntKind.i64 (IntKind.wrap IntKind.i64 (IntKind.wrap IntKind.i64 (q + emax) + (P : Int)) - 1) < 1)))] hB ?_
     refine xdn 80 (decide (IntKind.wrap IntKind.i64 (IntKind.wrap IntKind.i64 (IntKind.wrap IntKind.i64 (q + emax) + (P : Int)) - 1) < 1)) (fun q7 => ?_) (fun q7 => ?_)
     ·refine xdk [(10, []), (11, [2]), (12, []), (13, []), (14, [])] [(85, .bool true)] hB ?_
      refine xdz ?_
      refine xs1 ?_
      refine xq [(1, [1])] [(5, .bool false)] [] ?_
      refine SW_ret ?_
      refine xe () (.tuple #[.agg #[.int .u64 0, .int .u64 0], .bool false]) [1] ?_ trivial
      rw [nope _ rfl (fun z => by have := of_decide_eq_true q7; omega)]
      rfl
     ·refine xdk [(10, []), (11, [2])] [(82, .agg #[.int .i64 (P : Int), .int .i64 emin, .int .i64 emax, .int .i64 (W : Int), .int .i64 (E : Int), .bool ex]), (81, .int .i64 (IntKind.wrap IntKind.i64 (IntKind.wrap IntKind.i64 (IntKind.wrap IntKind.i64 (q + emax) + (P : Int)) - 1)))] hB ?_
      refine xdv 12 83 (ct_spec_l2Top h) zs0 ?_
      refine xdk [(13, []), (14, [])] [(85, .bool (decide (IntKind.wrap IntKind.i64 (IntKind.wrap IntKind.i64 (IntKind.wrap IntKind.i64 (q + emax) + (P : Int)) - 1) ≥ (((2 ^ E - 1) : Nat) : Int))))] hB ?_
      refine xdz ?_
      refine xs (decide (IntKind.wrap IntKind.i64 (IntKind.wrap IntKind.i64 (IntKind.wrap IntKind.i64 (q + emax) + (P : Int)) - 1) ≥ (((2 ^ E - 1) : Nat) : Int))) (fun q8 => ?_) (fun q8 => ?_)
      ·refine xq [(1, [1])] [(5, .bool false)] [] ?_
       refine SW_ret ?_
       refine xe () (.tuple #[.agg #[.int .u64 0, .int .u64 0], .bool false]) [1] ?_ trivial
       rw [nope _ rfl (fun z => by have := of_decide_eq_true q8; omega)]
       rfl
      ·have a1 := of_decide_eq_false q7
       have a2 := of_decide_eq_false q8
       have wE2 : IntKind.i64.wrap (IntKind.i64.wrap (IntKind.i64.wrap (q + emax) + (P : Int)) - 1) = q + emax + P - 1 := by
        rcases wE with e | e
        ·exact e
        ·exact absurd e.1 a1
       rw [wE2] at a1 a2
       have nE : Nn (IntKind.i64.wrap (IntKind.i64.wrap (IntKind.i64.wrap (q + emax) + (P : Int)) - 1)) (q + emax + P - 1).toNat := ⟨by rw [wE2]; omega⟩
       have e3 : (q + emax + P - 1).toNat < 2 ^ E := by omega
       clear wE2 wE nope
       refine SW_skip ?_
       refine xdl (fun hB => ?_)
       refine xdk [(0, [2]), (1, []), (2, [0]), (3, []), (4, []), (5, []), (6, [2]), (7, [])] [(94, .int .i64 (IntKind.wrap IntKind.i64 ((P : Int) - 1))), (91, .slice A0 (List.length (ofN B32 S)) k0), (90, .int .i64 (IntKind.wrap IntKind.i64 (IntKind.wrap IntKind.i64 (IntKind.wrap IntKind.i64 (q + emax) + (P : Int)) - 1))), (89, .bool neg), (87, .agg #[.int .i64 (P : Int), .int .i64 emin, .int .i64 emax, .int .i64 (W : Int), .int .i64 (E : Int), .bool ex])] hB ?_
       refine xdr 8 95 (ct_spec_l2Low (S) (A0) (k0) (IntKind.wrap IntKind.i64 ((P : Int) - 1)) (P - 1) nP1 (by omega) sS) (zsS zi0 zs0) (fun A1 k1 => ?_)
       refine xdv 9 96 (ct_spec_l2Make h1 (neg) (true) (Int.toNat (q + emax + (P : Int) - 1)) (S % 2 ^ (P - 1)) e3 hlow (IntKind.wrap IntKind.i64 (IntKind.wrap IntKind.i64 (IntKind.wrap IntKind.i64 (q + emax) + (P : Int)) - 1)) nE (A1) (k1)) (zsS zi0 zs0) ?_
       refine xds 10 [3] [(3, [.int .u64 (hiI (makeN P W ex neg true (Int.toNat (q + emax + (P : Int) - 1)) (S % 2 ^ (P - 1)))), .int .u64 (loI (makeN P W ex neg true (Int.toNat (q + emax + (P : Int) - 1)) (S % 2 ^ (P - 1))))])] ?_
       refine xdz ?_
       exact ⟨_, mk neg true _ _ e3 hlow, by rw [hpk, if_pos ⟨hbP.1 hmP, by omega, by omega⟩], Weak.mk' (by kernel_rfl) rfl zs0⟩
   ·have hc3 : c ≠ 3 := by simpa using q5
    refine xq [(1, [1])] [(5, .bool false)] [] ?_
    refine SW_ret ?_
    refine xe () (.tuple #[.agg #[.int .u64 0, .int .u64 0], .bool false]) [1] ?_ trivial
    rw [packR_none (by unfold packN; rw [if_neg hc1, if_neg hc4, if_neg hc5, if_neg hc2, if_neg hc3])]
    rfl
  ·rintro s' ⟨x, hx, hpk, hw⟩
   refine SW_weak hw ?_
   rw [packR_some hpk]
   refine SW_seq ?_
   refine xd (fun hB => ?_)
   refine xdk [(0, []), (1, [3]), (3, [0])] [(100, .agg #[.int .i64 c, .bool neg, .int .u64 (hiI S), .int .u64 (loI S), .int .i64 q]), (98, .agg #[.int .u64 (hiI x), .int .u64 (loI x)]), (97, .int .i64 f)] hB ?_
   refine xdv 2 99 (ct_spec_Unpack h1 (f) hf (x) hx) zs0 ?_
   refine xdw 4 101 (.bool (!(((fun α β self => self.1) Int (Bool × Int × Int × Int) (unpN P emin emax W E ex x) == c) && (((fun α β self => self.1) Bool (Int × Int × Int) ((fun α β self => self.2) Int (Bool × Int × Int × Int) (unpN P emin emax W E ex x)) == neg) && ((((fun α β self => self.1) Int (Int × Int) ((fun α β self => self.2) Bool (Int × Int × Int) ((fun α β self => self.2) Int (Bool × Int × Int × Int) (unpN P emin emax W E ex x))) == hiI S) && ((fun α β self => self.1) Int Int ((fun α β self => self.2) Int (Int × Int) ((fun α β self => self.2) Bool (Int × Int × Int) ((fun α β self => self.2) Int (Bool × Int × Int × Int) (unpN P emin emax W E ex x)))) == loI S)) && ((fun α β self => self.2) Int Int ((fun α β self => self.2) Int (Int × Int) ((fun α β self => self.2) Bool (Int × Int × Int) ((fun α β self => self.2) Int (Bool × Int × Int × Int) (unpN P emin emax W E ex x)))) == q)))))) hB (fun w _ _ => run_neq rfl (by kernel_rfl) (by kernel_rfl) (by kernel_rfl) w (eq_parts _ _ _ _ _ _ _ _ _ _ _ w)) ?_
   refine xdz ?_
   refine xs (!((fun α β self => self.1) Int (Bool × Int × Int × Int) (unpN P emin emax W E ex x) == c && ((fun α β self => self.1) Bool (Int × Int × Int) ((fun α β self => self.2) Int (Bool × Int × Int × Int) (unpN P emin emax W E ex x)) == neg && ((fun α β self => self.1) Int (Int × Int) ((fun α β self => self.2) Bool (Int × Int × Int) ((fun α β self => self.2) Int (Bool × Int × Int × Int) (unpN P emin emax W E ex x))) == hiI S && (fun α β self => self.1) Int Int ((fun α β self => self.2) Int (Int × Int) ((fun α β self => self.2) Bool (Int × Int × Int) ((fun α β self => self.2) Int (Bool × Int × Int × Int) (unpN P emin emax W E ex x)))) == loI S && (fun α β self => self.2) Int Int ((fun α β self => self.2) Int (Int × Int) ((fun α β self => self.2) Bool (Int × Int × Int) ((fun α β self => self.2) Int (Bool × Int × Int × Int) (unpN P emin emax W E ex x)))) == q)))) (fun q1 => ?_) (fun q1 => ?_)
   ·refine xq [(1, [1])] [(5, .bool false)] [] ?_
    refine SW_ret ?_
    refine xe () (.tuple #[.agg #[.int .u64 0, .int .u64 0], .bool false]) [1] ?_ trivial
    rw [if_neg]
    ·rfl
    ·intro hu
     rw [hu] at q1
     simp at q1
   ·refine SW_skip ?_
    refine xq [(0, [3]), (1, [1])] [(5, .bool true)] [(1, [.int .u64 (hiI x), .int .u64 (loI x)])] ?_
    refine SW_ret ?_
    refine xe () (.tuple #[.agg #[.int .u64 (hiI x), .int .u64 (loI x)], .bool true]) [1] ?_ trivial
    rw [if_pos]
    have hq : (!eqb (unpN P emin emax W E ex x) (c, neg, hiI S, loI S, q)) = false := q1
    exact (eqb_iff _ _).1 (by simpa using hq)
end Go.Proofs.YtdbnmdchecacdaaDoor.M
end
section
namespace Go.Proofs.YtdbnmdchecacdaaDoor.M
open Go.RowKit Go.Proofs.YtdbnmdchecacdaaDoor.G Go.Proofs.YtdbnmdchecacdaaDoorV.PrintWords Go.Proofs.YtdbnmdchecacdaaDoorV.PrintLast Go.Proofs.YtdbnmdchecacdaaDoor.X
set_option linter.unusedVariables false
set_option linter.unusedSimpArgs false
structure Zn (a q : Int) : Prop where
 out : a = q
 lo : -9223372036854775808 ≤ q
 hi : q ≤ 9223372036854775807
theorem Zn.wrap {x q : Int} (h : x = q) (hq : -9223372036854775808 ≤ q ∧ q ≤ 9223372036854775807) : Zn (IntKind.i64.wrap x) q := ⟨by rw [wsi (by omega)]; exact h, hq.1, hq.2⟩
theorem ct_spec_Pack' {P : Nat} {emin emax : Int} {W E : Nat} {ex : Bool} (h : Fmt2 P emin emax W E ex) (f : Int) (hf : spec_Describe.f f = some ((P : Int), emin, emax, (W : Int), (E : Int), ex)) (c : Int) (neg : Bool) (hi lo : Int) (S : Nat) (hw : Wd hi lo S) (hS : S < B128) (a q : Int) (hq : Zn a q) :
  CtV Tryd.prog 21 [.int .i64 f, .agg #[.int .i64 c, .bool neg, .int .u64 hi, .int .u64 lo, .int .i64 a]] [] (.tuple #[.agg #[.int .u64 (hiI (packR P emin emax W E ex c neg S q).1), .int .u64 (loI (packR P emin emax W E ex c neg S q).1)], .bool (packR P emin emax W E ex c neg S q).2]) := by
 obtain ⟨rfl, rfl⟩ := hw
 obtain ⟨rfl, h1, h2⟩ := hq
 exact ct_spec_Pack h f hf c neg S hS _ ⟨h1, h2⟩
theorem ct_spec_Step {P : Nat} {emin emax : Int} {W E : Nat} {ex : Bool} (h : Fmt2 P emin emax W E ex) (hx1 : 1 ≤ emax) (f : Int) (hf : spec_Describe.f f = some ((P : Int), emin, emax, (W : Int), (E : Int), ex)) (x : Nat) (hx : x < B128) (up : Bool) (R : Nat × Bool)
  (hb : unpN P emin emax W E ex x = badP ∨ unpN P emin emax W E ex x = (5, false, 0, 0, 0) → R = (0, false)) (hS : ∀ c neg S q, unpN P emin emax W E ex x = (c, neg, hiI S, loI S, q) → VP P emin emax c S q → R = stepN P emin emax W E ex c neg S q up) :
  CtV Tryd.prog 30 [.int .i64 f, .agg #[.int .u64 (hiI x), .int .u64 (loI x)], .bool up] [] (.tuple #[.agg #[.int .u64 (hiI R.1), .int .u64 (loI R.1)], .bool R.2]) := by
 have cu := ct_spec_Unpack h.toFmt f hf x hx
 have hm0 := h.m0
 have hm1 := h.m1
 have p3 := h.p3
 have p1 := h.p1
 refine ct_of Tryd.func30 rfl (by kernel_rfl) (fun B w0 => ?_)
 rcases unp_form h x with hu | hu | ⟨c, neg, S, q, hu, hl, hv⟩
 ·rw [hb (.inl hu)]
  rw [hu, badP, prtV] at cu
  dsimp only at cu
  refine xg ?_
  refine xb 4 [.int .u64 (hiI x), .int .u64 (loI x)] 25 (fun g0 => ?_)
  refine xb 6 [.int .u64 0, .int .u64 0] 25 (fun g1 => ?_)
  refine xz [] [(7, .bool false)] ?_
  refine xg ?_
  refine xn 2 [(1, [0])] [(17, .agg #[.int .u64 (hiI x), .int .u64 (loI x)]), (16, .int .i64 f)] ?_
  refine xcv 18 cu zs0 ?_
  refine xb 8 [.int .i64 0, .bool false, .int .u64 0, .int .u64 0, .int .i64 0] 27 (fun g2 => ?_)
  refine xy [(4, [2])] [] [] ?_
  refine xg ?_
  refine xn 1 [] [(19, .int .i64 f)] ?_
  refine xcv 20 (ct_spec_Describe (f) hf) zs0 ?_
  refine xb 9 [.int .i64 0, .int .i64 0, .int .i64 0, .int .i64 0, .int .i64 0, .bool false] 83 (fun g3 => ?_)
  refine xy [(3, [3])] [] [(3, [.int .i64 (P : Int), .int .i64 emin, .int .i64 emax, .int .i64 (W : Int), .int .i64 (E : Int), .bool ex])] ?_
  refine SW_seq ?_
  refine xr [(1, [2])] [(28, .bool true)] ?_
  refine xs1 ?_
  refine xq [(1, [1])] [(7, .bool false)] [] ?_
  refine SW_ret ?_
  refine xe () (.tuple #[.agg #[.int .u64 0, .int .u64 0], .bool false]) [1] ?_ trivial
  rfl
 ·rw [hb (.inr hu)]
  rw [hu, prtV] at cu
  dsimp only at cu
  refine xg ?_
  refine xb 4 [.int .u64 (hiI x), .int .u64 (loI x)] 25 (fun g0 => ?_)
  refine xb 6 [.int .u64 0, .int .u64 0] 25 (fun g1 => ?_)
  refine xz [] [(7, .bool false)] ?_
  refine xg ?_
  refine xn 2 [(1, [0])] [(17, .agg #[.int .u64 (hiI x), .int .u64 (loI x)]), (16, .int .i64 f)] ?_
  refine xcv 18 cu zs0 ?_
  refine xb 8 [.int .i64 0, .bool false, .int .u64 0, .int .u64 0, .int .i64 0] 27 (fun g2 => ?_)
  refine xy [(4, [2])] [] [(2, [.int .i64 5, .bool false, .int .u64 0, .int .u64 0, .int .i64 0])] ?_
  refine xg ?_
  refine xn 1 [] [(19, .int .i64 f)] ?_
  refine xcv 20 (ct_spec_Describe (f) hf) zs0 ?_
  refine xb 9 [.int .i64 0, .int .i64 0, .int .i64 0, .int .i64 0, .int .i64 0, .bool false] 83 (fun g3 => ?_)
  refine xy [(3, [3])] [] [(3, [.int .i64 (P : Int), .int .i64 emin, .int .i64 emax, .int .i64 (W : Int), .int .i64 (E : Int), .bool ex])] ?_
  refine SW_seq ?_
  refine xr [(1, [2]), (5, [2])] [(28, .bool true)] ?_
  refine xs1 ?_
  refine xq [(1, [1])] [(7, .bool false)] [] ?_
  refine SW_ret ?_
  refine xe () (.tuple #[.agg #[.int .u64 0, .int .u64 0], .bool false]) [1] ?_ trivial
  rfl
 ·rw [hS c neg S q hu hv]
  rw [hu, prtV] at cu
  dsimp only at cu
  have b128 : 2 ^ P < B128 := Nat.pow_lt_pow_right (a := 2) (n := 128) (by decide) (by omega)
  have t2 := two_P h.toFmt
  have zq : Zn (IntKind.i64.wrap (IntKind.i64.wrap (emin - P) + 1)) (emin - P + 1) := by rw [wsi (x := emin - P) (by omega)]; exact Zn.wrap rfl (by omega)
  have z0 : Zn 0 0 := ⟨rfl, by decide, by decide⟩
  have b1 : 1 < B128 := by decide
  have b0 : 0 < B128 := by decide
  have s1 : Sm 1 := sm128 (by decide)
  have bl : 2 ^ P - 1 < B128 := by omega
  have sP : Sm (2 ^ P) := sm128 (Nat.lt_of_lt_of_le b128 (by decide))
  have h1P : 1 ≤ 2 ^ P := Nat.pow_pos (by decide)
  rcases hv with ⟨rfl, rfl, rfl⟩ | ⟨rfl, rfl, rfl⟩ | hv
  ·refine xg ?_
   refine xb 4 [.int .u64 (hiI x), .int .u64 (loI x)] 25 (fun g0 => ?_)
   refine xb 6 [.int .u64 0, .int .u64 0] 25 (fun g1 => ?_)
   refine xz [] [(7, .bool false)] ?_
   refine xg ?_
   refine xn 2 [(1, [0])] [(17, .agg #[.int .u64 (hiI x), .int .u64 (loI x)]), (16, .int .i64 f)] ?_
   refine xcv 18 cu zs0 ?_
   refine xb 8 [.int .i64 0, .bool false, .int .u64 0, .int .u64 0, .int .i64 0] 27 (fun g2 => ?_)
   refine xy [(4, [2])] [] [(2, [.int .i64 1, .bool neg, .int .u64 (hiI 0), .int .u64 (loI 0), .int .i64 0])] ?_
   refine xg ?_
   refine xn 1 [] [(19, .int .i64 f)] ?_
   refine xcv 20 (ct_spec_Describe (f) hf) zs0 ?_
   refine xb 9 [.int .i64 0, .int .i64 0, .int .i64 0, .int .i64 0, .int .i64 0, .bool false] 83 (fun g3 => ?_)
   refine xy [(3, [3])] [] [(3, [.int .i64 (P : Int), .int .i64 emin, .int .i64 emax, .int .i64 (W : Int), .int .i64 (E : Int), .bool ex])] ?_
   refine SW_seq ?_
   refine xr [(1, [2]), (5, [2])] [(28, .bool false)] ?_
   refine xs0 ?_
   refine SW_skip ?_
   refine xr [(1, [3]), (3, [3])] [(10, .int .i64 (IntKind.wrap IntKind.i64 (IntKind.wrap IntKind.i64 (emin - (P : Int)) + 1)))] ?_
   refine SW_seq ?_
   refine xr [(1, [2])] [(38, .bool true)] ?_
   refine xs1 ?_
   refine xg ?_
   refine xn 6 [] [(44, .agg #[.int .i64 2, .bool !up, .int .u64 0, .int .u64 1, .int .i64 (IntKind.wrap IntKind.i64 (IntKind.wrap IntKind.i64 (emin - (P : Int)) + 1))]), (39, .int .i64 f)] ?_
   refine xcv 45 (ct_spec_Pack' h (f) hf (2) (!up) (0) (1) (1) ⟨rfl, rfl⟩ b1 (IntKind.wrap IntKind.i64 (IntKind.wrap IntKind.i64 (emin - (P : Int)) + 1)) (emin - (P : Int) + 1) zq) zs0 ?_
   refine xy [(9, [1])] [(7, .bool (Prod.snd (packR P emin emax W E ex 2 (!up) 1 (emin - (P : Int) + 1))))] [(1, [.int .u64 (hiI (Prod.fst (packR P emin emax W E ex 2 (!up) 1 (emin - (P : Int) + 1)))), .int .u64 (loI (Prod.fst (packR P emin emax W E ex 2 (!up) 1 (emin - (P : Int) + 1))))])] ?_
   refine SW_ret ?_
   refine xe () (.tuple #[.agg #[.int .u64 (hiI (Prod.fst (packR P emin emax W E ex 2 (!up) 1 (emin - (P : Int) + 1)))), .int .u64 (loI (Prod.fst (packR P emin emax W E ex 2 (!up) 1 (emin - (P : Int) + 1))))], .bool (Prod.snd (packR P emin emax W E ex 2 (!up) 1 (emin - (P : Int) + 1)))]) [1] ?_ trivial
   rfl
  ·by_cases hg : (up != neg) = true
   ·have z1 : (!(up == neg)) = true := hg
    refine xg ?_
    refine xb 4 [.int .u64 (hiI x), .int .u64 (loI x)] 25 (fun g0 => ?_)
    refine xb 6 [.int .u64 0, .int .u64 0] 25 (fun g1 => ?_)
    refine xz [] [(7, .bool false)] ?_
    refine xg ?_
    refine xn 2 [(1, [0])] [(17, .agg #[.int .u64 (hiI x), .int .u64 (loI x)]), (16, .int .i64 f)] ?_
    refine xcv 18 cu zs0 ?_
    refine xb 8 [.int .i64 0, .bool false, .int .u64 0, .int .u64 0, .int .i64 0] 27 (fun g2 => ?_)
    refine xy [(4, [2])] [] [(2, [.int .i64 4, .bool neg, .int .u64 (hiI 0), .int .u64 (loI 0), .int .i64 0])] ?_
    refine xg ?_
    refine xn 1 [] [(19, .int .i64 f)] ?_
    refine xcv 20 (ct_spec_Describe (f) hf) zs0 ?_
    refine xb 9 [.int .i64 0, .int .i64 0, .int .i64 0, .int .i64 0, .int .i64 0, .bool false] 83 (fun g3 => ?_)
    refine xy [(3, [3])] [] [(3, [.int .i64 (P : Int), .int .i64 emin, .int .i64 emax, .int .i64 (W : Int), .int .i64 (E : Int), .bool ex])] ?_
    refine SW_seq ?_
    refine xr [(1, [2]), (5, [2])] [(28, .bool false)] ?_
    refine xs0 ?_
    refine SW_skip ?_
    refine xr [(1, [3]), (3, [3])] [(10, .int .i64 (IntKind.wrap IntKind.i64 (IntKind.wrap IntKind.i64 (emin - (P : Int)) + 1)))] ?_
    refine SW_seq ?_
    refine xr [(1, [2])] [(38, .bool false)] ?_
    refine xs0 ?_
    refine SW_skip ?_
    refine xr [(2, [2])] [(11, .bool !up == neg)] ?_
    refine SW_seq ?_
    refine xr [(1, [2])] [(54, .bool true)] ?_
    refine xs1 ?_
    refine SW_seq ?_
    refine xr [] [(55, .bool !up == neg)] ?_
    refine xst z1 ?_
    refine xq [(1, [1])] [(7, .bool false)] [] ?_
    refine SW_ret ?_
    refine xe () (.tuple #[.agg #[.int .u64 0, .int .u64 0], .bool false]) [1] ?_ trivial
    rw [stepN, if_neg (by decide), if_pos rfl, if_pos hg]
    rfl
   ·have z1 : (!(up == neg)) = false := by simpa using hg
    have zp : Zn (IntKind.i64.wrap (IntKind.i64.wrap (emax - P) + 1)) (emax - P + 1) := by rw [wsi (x := emax - P) (by omega)]; exact Zn.wrap rfl (by omega)
    refine xg ?_
    refine xb 4 [.int .u64 (hiI x), .int .u64 (loI x)] 25 (fun g0 => ?_)
    refine xb 6 [.int .u64 0, .int .u64 0] 25 (fun g1 => ?_)
    refine xz [] [(7, .bool false)] ?_
    refine xg ?_
    refine xn 2 [(1, [0])] [(17, .agg #[.int .u64 (hiI x), .int .u64 (loI x)]), (16, .int .i64 f)] ?_
    refine xcv 18 cu zs0 ?_
    refine xb 8 [.int .i64 0, .bool false, .int .u64 0, .int .u64 0, .int .i64 0] 27 (fun g2 => ?_)
    refine xy [(4, [2])] [] [(2, [.int .i64 4, .bool neg, .int .u64 (hiI 0), .int .u64 (loI 0), .int .i64 0])] ?_
    refine xg ?_
    refine xn 1 [] [(19, .int .i64 f)] ?_
    refine xcv 20 (ct_spec_Describe (f) hf) zs0 ?_
    refine xb 9 [.int .i64 0, .int .i64 0, .int .i64 0, .int .i64 0, .int .i64 0, .bool false] 83 (fun g3 => ?_)
    refine xy [(3, [3])] [] [(3, [.int .i64 (P : Int), .int .i64 emin, .int .i64 emax, .int .i64 (W : Int), .int .i64 (E : Int), .bool ex])] ?_
    refine SW_seq ?_
    refine xr [(1, [2]), (5, [2])] [(28, .bool false)] ?_
    refine xs0 ?_
    refine SW_skip ?_
    refine xr [(1, [3]), (3, [3])] [(10, .int .i64 (IntKind.wrap IntKind.i64 (IntKind.wrap IntKind.i64 (emin - (P : Int)) + 1)))] ?_
    refine SW_seq ?_
    refine xr [(1, [2])] [(38, .bool false)] ?_
    refine xs0 ?_
    refine SW_skip ?_
    refine xr [(2, [2])] [(11, .bool !up == neg)] ?_
    refine SW_seq ?_
    refine xr [(1, [2])] [(54, .bool true)] ?_
    refine xs1 ?_
    refine SW_seq ?_
    refine xr [] [(55, .bool !up == neg)] ?_
    refine xsf z1 ?_
    refine SW_skip ?_
    refine xg ?_
    refine xn 2 [(1, [3])] [(58, .int .i64 (P : Int))] ?_
    refine xcr 59 (ct_spec_l2Two ((P : Int)) (P) ⟨rfl⟩ (by omega)) zs0 (fun A0 k0 => ?_)
    refine xcr 60 (ct_spec_l1Of (1) (1) ⟨rfl⟩ (by omega)) zs0 (fun A1 k1 => ?_)
    refine xcr 61 (ct_spec_l1Sub (2 ^ P) (1) (A0) (A1) (k0) (k1) sP h1P) (zsS (ziS zi0) (zsS zi0 zs0)) (fun A2 k2 => ?_)
    refine xcv 62 (ct_spec_l2Word (2 ^ P - 1) (A2) (k2) bl) (zsS zi0 zs0) ?_
    refine xb 12 [.int .u64 0, .int .u64 0] 25 (fun g4 => ?_)
    refine xy [(7, [4])] [] [(4, [.int .u64 (hiI (2 ^ P - 1)), .int .u64 (loI (2 ^ P - 1))])] ?_
    refine xg ?_
    refine xn 11 [(2, [2]), (3, [4]), (5, [3]), (7, [3])] [(73, .agg #[.int .i64 3, .bool neg, .int .u64 (hiI (2 ^ P - 1)), .int .u64 (loI (2 ^ P - 1)), .int .i64 (IntKind.wrap IntKind.i64 (IntKind.wrap IntKind.i64 (emax - (P : Int)) + 1))]), (63, .int .i64 f)] ?_
    refine xcv 74 (ct_spec_Pack' h (f) hf (3) (neg) (hiI (2 ^ P - 1)) (loI (2 ^ P - 1)) (2 ^ P - 1) ⟨rfl, rfl⟩ bl (IntKind.wrap IntKind.i64 (IntKind.wrap IntKind.i64 (emax - (P : Int)) + 1)) (emax - (P : Int) + 1) zp) zs0 ?_
    refine xy [(14, [1])] [(7, .bool (Prod.snd (packR P emin emax W E ex 3 neg (2 ^ P - 1) (emax - (P : Int) + 1))))] [(1, [.int .u64 (hiI (Prod.fst (packR P emin emax W E ex 3 neg (2 ^ P - 1) (emax - (P : Int) + 1)))), .int .u64 (loI (Prod.fst (packR P emin emax W E ex 3 neg (2 ^ P - 1) (emax - (P : Int) + 1))))])] ?_
    refine SW_ret ?_
    refine xe () (.tuple #[.agg #[.int .u64 (hiI (Prod.fst (packR P emin emax W E ex 3 neg (2 ^ P - 1) (emax - (P : Int) + 1)))), .int .u64 (loI (Prod.fst (packR P emin emax W E ex 3 neg (2 ^ P - 1) (emax - (P : Int) + 1))))], .bool (Prod.snd (packR P emin emax W E ex 3 neg (2 ^ P - 1) (emax - (P : Int) + 1)))]) [1] ?_ trivial
    rw [stepN, if_neg (by decide), if_pos rfl, if_neg hg]
  ·have hc : c = 2 ∨ c = 3 := by
    rcases hv with ⟨rfl, _⟩ | ⟨rfl, _⟩
    ·exact .inl rfl
    ·exact .inr rfl
   have c0 : (c == 0) = false := by rw [beq_eq_false_iff_ne]; omega
   have c5 : (c == 5) = false := by rw [beq_eq_false_iff_ne]; omega
   have c1 : (c == 1) = false := by rw [beq_eq_false_iff_ne]; omega
   have c4 : (c == 4) = false := by rw [beq_eq_false_iff_ne]; omega
   have bS : S < B128 := by omega
   refine xg ?_
   refine xb 4 [.int .u64 (hiI x), .int .u64 (loI x)] 25 (fun g0 => ?_)
   refine xb 6 [.int .u64 0, .int .u64 0] 25 (fun g1 => ?_)
   refine xz [] [(7, .bool false)] ?_
   refine xg ?_
   refine xn 2 [(1, [0])] [(17, .agg #[.int .u64 (hiI x), .int .u64 (loI x)]), (16, .int .i64 f)] ?_
   refine xcv 18 cu zs0 ?_
   refine xb 8 [.int .i64 0, .bool false, .int .u64 0, .int .u64 0, .int .i64 0] 27 (fun g2 => ?_)
   refine xy [(4, [2])] [] [(2, [.int .i64 c, .bool neg, .int .u64 (hiI S), .int .u64 (loI S), .int .i64 q])] ?_
   refine xg ?_
   refine xn 1 [] [(19, .int .i64 f)] ?_
   refine xcv 20 (ct_spec_Describe (f) hf) zs0 ?_
   refine xb 9 [.int .i64 0, .int .i64 0, .int .i64 0, .int .i64 0, .int .i64 0, .bool false] 83 (fun g3 => ?_)
   refine xy [(3, [3])] [] [(3, [.int .i64 (P : Int), .int .i64 emin, .int .i64 emax, .int .i64 (W : Int), .int .i64 (E : Int), .bool ex])] ?_
   refine SW_seq ?_
   refine xg ?_
   refine xn 4 [(1, [2])] [(24, .bool (c == 0))] ?_
   refine xkf 24 c0 ?_
   refine xz [(5, [2])] [(28, .bool (c == 5))] ?_
   refine xsf c5 ?_
   refine SW_skip ?_
   refine xr [(1, [3]), (3, [3])] [(10, .int .i64 (IntKind.wrap IntKind.i64 (IntKind.wrap IntKind.i64 (emin - (P : Int)) + 1)))] ?_
   refine SW_seq ?_
   refine xr [(1, [2])] [(38, .bool (c == 1))] ?_
   refine xsf c1 ?_
   refine SW_skip ?_
   refine xr [(2, [2])] [(11, .bool !up == neg)] ?_
   refine SW_seq ?_
   refine xr [(1, [2])] [(54, .bool (c == 4))] ?_
   refine xsf c4 ?_
   refine SW_skip ?_
   refine xg ?_
   refine xn 2 [(1, [2])] [(78, .agg #[.int .u64 (hiI S), .int .u64 (loI S)])] ?_
   refine xcr 79 (ct_spec_l2Of (S) bS) zs0 (fun A0 k0 => ?_)
   refine xz [] [(13, .slice A0 (List.length (ofN B32 S)) k0)] ?_
   refine xr [(1, [2])] [(14, .int .i64 q)] ?_
   have hb : (0 < S ∧ S < 2 ^ P) ∧ emin - P + 1 ≤ q ∧ q ≤ emax - P + 1 ∧ (S < 2 ^ (P - 1) → q = emin - P + 1) := by
    have hx2 := h.mn
    rcases hv with ⟨_, h1, h2, rfl⟩ | ⟨_, h1, h2, h3, h4⟩
    ·omega
    ·omega
   obtain ⟨⟨bS0, _⟩, bq0, bq1, bq2⟩ := hb
   obtain ⟨m1, hm1⟩ := bits_ex (S + 1)
   obtain ⟨m2, hm2⟩ := bits_ex (S - 1)
   have e1 := bits_lt (k := P) hm1
   have e2 := bits_lt (k := P - 1) hm2
   have sS : Sm S := sP.mono (by omega)
   have sS1 : Sm (S + 1) := sP.mono (by omega)
   have sS2 : Sm (S - 1) := sP.mono (by omega)
   have sS3 : Sm ((S - 1) * 2 ^ 1) := sm128 (Nat.lt_trans (show (S - 1) * 2 ^ 1 < 2 ^ 114 by have : (2 : Nat) ^ P ≤ 2 ^ 113 := Nat.pow_le_pow_right (by decide) p1; omega) (by decide))
   refine SW_cut (fun s' => ∃ A k u r, (u, r) = (if (up != neg) = true then farS P S q else nearS P emin S q) ∧ Weak s' ⟨[(0, .int .i64 f), (4, .pointer (some ⟨g0, 0, none⟩)), (6, .pointer (some ⟨g1, 0, none⟩)), (8, .pointer (some ⟨g2, 0, none⟩)), (9, .pointer (some ⟨g3, 0, none⟩)), (13, .slice A (ofN B32 u).length k), (14, .int .i64 r)], [⟨g0, [.int .u64 (hiI x), .int .u64 (loI x)], 25⟩, ⟨g1, [.int .u64 0, .int .u64 0], 25⟩, ⟨g2, [.int .i64 c, .bool neg, .int .u64 (hiI S), .int .u64 (loI S), .int .i64 q], 27⟩, ⟨g3, [.int .i64 P, .int .i64 emin, .int .i64 emax, .int .i64 W, .int .i64 E, .bool ex], 83⟩], [Row .u64 A k (ofN B32 u)]⟩) ?_ ?_
   ·by_cases hg : (up != neg) = true
    ·have z1 : (!(up == neg)) = true := hg
     rw [if_pos hg]
     unfold farS
     by_cases hp : 2 ^ P ≤ S + 1
     ·have z2 : decide ((m1 : Int) > (P : Int)) = true := decide_eq_true (by omega)
      refine xr [] [(82, .bool !up == neg)] ?_
      refine xst z1 ?_
      refine xg ?_
      refine xn 1 [] [(83, .slice A0 (List.length (ofN B32 S)) k0)] ?_
      refine xcr 84 (ct_spec_l1Of (1) (1) ⟨rfl⟩ (by omega)) zs0 (fun A1 k1 => ?_)
      refine xcr 85 (ct_spec_l1Add (S) (1) (A0) (A1) (k0) (k1) sS s1) (zsS (ziS zi0) (zsS zi0 zs0)) (fun A2 k2 => ?_)
      refine xz [] [(13, .slice A2 (List.length (ofN B32 (S + 1))) k2)] ?_
      refine xd (fun hB => ?_)
      refine xdk [(0, []), (2, []), (3, [3])] [(89, .int .i64 (P : Int)), (86, .slice A2 (List.length (ofN B32 (S + 1))) k2)] hB ?_
      refine xdv 1 87 (ct_spec_l1Bits (S + 1) (A2) (k2) sS1 (m1) hm1) (zsS zi0 zs0) ?_
      refine xdk [(4, [])] [(90, .bool (decide ((m1 : Int) > (P : Int))))] hB ?_
      refine xdz ?_
      refine xst z2 ?_
      refine xg ?_
      refine xn 1 [] [(91, .slice A2 (List.length (ofN B32 (S + 1))) k2)] ?_
      refine xcr 92 (ct_spec_l1Right (S + 1) (A2) (k2) (1) (1) ⟨rfl⟩ (by omega) sS1) (zsS zi0 zs0) (fun A3 k3 => ?_)
      refine xz [] [(13, .slice A3 (List.length (ofN B32 ((S + 1) / 2 ^ 1))) k3)] ?_
      refine xrl [] [(14, .int .i64 (IntKind.wrap IntKind.i64 (q + 1)))] ?_
      rw [if_pos hp]
      refine ⟨(A3), (k3), ((S + 1) / 2 ^ 1), (IntKind.wrap IntKind.i64 (q + 1) : Int), ?_, xw (zsS zi0 zs0)⟩
      rw [wsi (by omega)]
     ·have z2 : decide ((m1 : Int) > (P : Int)) = false := decide_eq_false (by omega)
      refine xr [] [(82, .bool !up == neg)] ?_
      refine xst z1 ?_
      refine xg ?_
      refine xn 1 [] [(83, .slice A0 (List.length (ofN B32 S)) k0)] ?_
      refine xcr 84 (ct_spec_l1Of (1) (1) ⟨rfl⟩ (by omega)) zs0 (fun A1 k1 => ?_)
      refine xcr 85 (ct_spec_l1Add (S) (1) (A0) (A1) (k0) (k1) sS s1) (zsS (ziS zi0) (zsS zi0 zs0)) (fun A2 k2 => ?_)
      refine xz [] [(13, .slice A2 (List.length (ofN B32 (S + 1))) k2)] ?_
      refine xd (fun hB => ?_)
      refine xdk [(0, []), (2, []), (3, [3])] [(89, .int .i64 (P : Int)), (86, .slice A2 (List.length (ofN B32 (S + 1))) k2)] hB ?_
      refine xdv 1 87 (ct_spec_l1Bits (S + 1) (A2) (k2) sS1 (m1) hm1) (zsS zi0 zs0) ?_
      refine xdk [(4, [])] [(90, .bool (decide ((m1 : Int) > (P : Int))))] hB ?_
      refine xdz ?_
      refine xsf z2 ?_
      refine SW_skip ?_
      rw [if_neg hp]
      refine ⟨(A2), (k2), (S + 1), (q : Int), ?_, xw (zsS zi0 zs0)⟩
      rfl
    ·have z1 : (!(up == neg)) = false := by simpa using hg
     rw [if_neg hg]
     unfold nearS
     by_cases hp : S - 1 < 2 ^ (P - 1)
     ·have z2 : decide ((m2 : Int) < (P : Int)) = true := decide_eq_true (by omega)
      by_cases hq : emin - P + 1 < q
      ·have z3 : decide (q > IntKind.i64.wrap (IntKind.i64.wrap (emin - P) + 1)) = true := decide_eq_true (by rw [zq.out]; omega)
       refine xr [] [(82, .bool !up == neg)] ?_
       refine xsf z1 ?_
       refine xg ?_
       refine xn 1 [] [(95, .slice A0 (List.length (ofN B32 S)) k0)] ?_
       refine xcr 96 (ct_spec_l1Of (1) (1) ⟨rfl⟩ (by omega)) zs0 (fun A1 k1 => ?_)
       refine xcr 97 (ct_spec_l1Sub (S) (1) (A0) (A1) (k0) (k1) sS (by omega)) (zsS (ziS zi0) (zsS zi0 zs0)) (fun A2 k2 => ?_)
       refine xz [] [(13, .slice A2 (List.length (ofN B32 (S - 1))) k2)] ?_
       refine xd (fun hB => ?_)
       refine xdk [(0, []), (2, []), (3, [3])] [(101, .int .i64 (P : Int)), (98, .slice A2 (List.length (ofN B32 (S - 1))) k2)] hB ?_
       refine xdv 1 99 (ct_spec_l1Bits (S - 1) (A2) (k2) sS2 (m2) hm2) (zsS zi0 zs0) ?_
       refine xdk [(4, []), (5, [])] [(103, .bool (decide ((m2 : Int) < (P : Int))))] hB ?_
       refine xdnt 103 z2 ?_
       refine xdk [(6, []), (7, []), (8, []), (9, [])] [(107, .bool (decide (q > IntKind.wrap IntKind.i64 (IntKind.wrap IntKind.i64 (emin - (P : Int)) + 1))))] hB ?_
       refine xdz ?_
       refine xst z3 ?_
       refine xg ?_
       refine xn 1 [] [(108, .slice A2 (List.length (ofN B32 (S - 1))) k2)] ?_
       refine xcr 109 (ct_spec_l1Left (S - 1) (A2) (k2) (1) (1) ⟨rfl⟩ (by omega) sS2) (zsS zi0 zs0) (fun A3 k3 => ?_)
       refine xcr 110 (ct_spec_l1Of (1) (1) ⟨rfl⟩ (by omega)) zs0 (fun A4 k4 => ?_)
       refine xcr 111 (ct_spec_l1Add ((S - 1) * 2 ^ 1) (1) (A3) (A4) (k3) (k4) sS3 s1) (zsS (ziS zi0) (zsS zi0 zs0)) (fun A5 k5 => ?_)
       refine xz [] [(13, .slice A5 (List.length (ofN B32 ((S - 1) * 2 ^ 1 + 1))) k5)] ?_
       refine xrl [] [(14, .int .i64 (IntKind.wrap IntKind.i64 (q - 1)))] ?_
       rw [if_pos ⟨hp, hq⟩]
       refine ⟨(A5), (k5), ((S - 1) * 2 ^ 1 + 1), (IntKind.wrap IntKind.i64 (q - 1) : Int), ?_, xw (zsS zi0 zs0)⟩
       rw [wsi (by omega), Nat.pow_one, Nat.mul_comm]
      ·have z3 : decide (q > IntKind.i64.wrap (IntKind.i64.wrap (emin - P) + 1)) = false := decide_eq_false (by rw [zq.out]; omega)
       refine xr [] [(82, .bool !up == neg)] ?_
       refine xsf z1 ?_
       refine xg ?_
       refine xn 1 [] [(95, .slice A0 (List.length (ofN B32 S)) k0)] ?_
       refine xcr 96 (ct_spec_l1Of (1) (1) ⟨rfl⟩ (by omega)) zs0 (fun A1 k1 => ?_)
       refine xcr 97 (ct_spec_l1Sub (S) (1) (A0) (A1) (k0) (k1) sS (by omega)) (zsS (ziS zi0) (zsS zi0 zs0)) (fun A2 k2 => ?_)
       refine xz [] [(13, .slice A2 (List.length (ofN B32 (S - 1))) k2)] ?_
       refine xd (fun hB => ?_)
       refine xdk [(0, []), (2, []), (3, [3])] [(101, .int .i64 (P : Int)), (98, .slice A2 (List.length (ofN B32 (S - 1))) k2)] hB ?_
       refine xdv 1 99 (ct_spec_l1Bits (S - 1) (A2) (k2) sS2 (m2) hm2) (zsS zi0 zs0) ?_
       refine xdk [(4, []), (5, [])] [(103, .bool (decide ((m2 : Int) < (P : Int))))] hB ?_
       refine xdnt 103 z2 ?_
       refine xdk [(6, []), (7, []), (8, []), (9, [])] [(107, .bool (decide (q > IntKind.wrap IntKind.i64 (IntKind.wrap IntKind.i64 (emin - (P : Int)) + 1))))] hB ?_
       refine xdz ?_
       refine xsf z3 ?_
       refine SW_skip ?_
       rw [if_neg (fun z => hq z.2)]
       refine ⟨(A2), (k2), (S - 1), (q : Int), ?_, xw (zsS zi0 zs0)⟩
       rfl
     ·have z2 : decide ((m2 : Int) < (P : Int)) = false := decide_eq_false (by omega)
      refine xr [] [(82, .bool !up == neg)] ?_
      refine xsf z1 ?_
      refine xg ?_
      refine xn 1 [] [(95, .slice A0 (List.length (ofN B32 S)) k0)] ?_
      refine xcr 96 (ct_spec_l1Of (1) (1) ⟨rfl⟩ (by omega)) zs0 (fun A1 k1 => ?_)
      refine xcr 97 (ct_spec_l1Sub (S) (1) (A0) (A1) (k0) (k1) sS (by omega)) (zsS (ziS zi0) (zsS zi0 zs0)) (fun A2 k2 => ?_)
      refine xz [] [(13, .slice A2 (List.length (ofN B32 (S - 1))) k2)] ?_
      refine xd (fun hB => ?_)
      refine xdk [(0, []), (2, []), (3, [3])] [(101, .int .i64 (P : Int)), (98, .slice A2 (List.length (ofN B32 (S - 1))) k2)] hB ?_
      refine xdv 1 99 (ct_spec_l1Bits (S - 1) (A2) (k2) sS2 (m2) hm2) (zsS zi0 zs0) ?_
      refine xdk [(4, []), (5, [])] [(103, .bool (decide ((m2 : Int) < (P : Int))))] hB ?_
      refine xdnf 103 z2 ?_
      refine xdk [(6, []), (7, []), (8, []), (9, [])] [(107, .bool false)] hB ?_
      refine xdz ?_
      refine xs0 ?_
      refine SW_skip ?_
      rw [if_neg (fun z => hp z.1)]
      refine ⟨(A2), (k2), (S - 1), (q : Int), ?_, xw (zsS zi0 zs0)⟩
      rfl
   ·rintro s' ⟨A, k, u, r, hu2, hw⟩
    refine SW_weak hw ?_
    clear hw
    have hur : u < 2 ^ P ∧ emin - P + 1 ≤ r ∧ r ≤ emax - P + 2 := by
     have hx2 := h.mn
     unfold farS nearS at hu2
     have hP4 : 4 ≤ 2 ^ (P - 1) := (show 2 ^ 2 ≤ 2 ^ (P - 1) from Nat.pow_le_pow_right (by decide) (by omega))
     split at hu2
     ·split at hu2
      ·injection hu2 with k1 k2
       omega
      ·injection hu2 with k1 k2
       omega
     ·split at hu2
      ·injection hu2 with k1 k2
       omega
      ·injection hu2 with k1 k2
       omega
    obtain ⟨hu, hr0, hr1⟩ := hur
    have huB : u < B128 := by omega
    have hst : stepN P emin emax W E ex c neg S q up = putN P emin emax W E ex neg (u, r) := by rw [stepN, if_neg (by omega), if_neg (by omega), hu2]
    rw [hst]
    refine SW_cut (fun s' => ∃ g4, Weak s' ⟨[(0, .int .i64 f), (4, .pointer (some ⟨g0, 0, none⟩)), (6, .pointer (some ⟨g1, 0, none⟩)), (8, .pointer (some ⟨g2, 0, none⟩)), (9, .pointer (some ⟨g3, 0, none⟩)), (13, .slice A (ofN B32 u).length k), (14, .int .i64 r), (15, .pointer (some ⟨g4, 0, none⟩))], [⟨g0, [.int .u64 (hiI x), .int .u64 (loI x)], 25⟩, ⟨g1, [.int .u64 0, .int .u64 0], 25⟩, ⟨g2, [.int .i64 c, .bool neg, .int .u64 (hiI S), .int .u64 (loI S), .int .i64 q], 27⟩, ⟨g3, [.int .i64 P, .int .i64 emin, .int .i64 emax, .int .i64 W, .int .i64 E, .bool ex], 83⟩, ⟨g4, [.int .i64 0, .bool neg, .int .u64 (hiI u), .int .u64 (loI u), .int .i64 r], 27⟩], [Row .u64 A k (ofN B32 u)]⟩) ?_ ?_
    ·refine xdl (fun hB => ?_)
     refine xdk [(0, []), (1, [2]), (2, []), (4, [])] [(118, .int .i64 r), (116, .slice A (List.length (ofN B32 u)) k), (115, .bool neg)] hB ?_
     refine xd2 3 6 ?_ ?_
     ·refine xev 117 (ct_spec_l2Word (u) (A) (k) huB) (zsS zi0 zs0) ?_
      refine xdk [(5, [])] [(119, .agg #[.int .i64 0, .bool neg, .int .u64 (hiI u), .int .u64 (loI u), .int .i64 r])] hB ?_
      refine xdb 6 15 [.int .i64 0, .bool false, .int .u64 0, .int .u64 0, .int .i64 0] 27 (fun g4 => ?_)
      refine xds 7 [4] [(4, [.int .i64 0, .bool neg, .int .u64 (hiI u), .int .u64 (loI u), .int .i64 r])] ?_
      refine xdz ?_
      refine ⟨(g4), xw (zsS zi0 zs0)⟩
     ·refine xen 15 [.int .i64 0, .bool false, .int .u64 0, .int .u64 0, .int .i64 0] 27 (fun g4 => ?_)
      refine xdv 3 117 (ct_spec_l2Word (u) (A) (k) huB) (zsS zi0 zs0) ?_
      refine xdk [(5, [])] [(119, .agg #[.int .i64 0, .bool neg, .int .u64 (hiI u), .int .u64 (loI u), .int .i64 r])] hB ?_
      refine xds 7 [4] [(4, [.int .i64 0, .bool neg, .int .u64 (hiI u), .int .u64 (loI u), .int .i64 r])] ?_
      refine xdz ?_
      refine ⟨(g4), xw (zsS zi0 zs0)⟩
    ·rintro s' ⟨g4, hw⟩
     refine SW_weak hw ?_
     clear hw
     obtain ⟨m3, hm3⟩ := bits_ex u
     have e3 := bits_lt (k := P - 1) hm3
     have su : Sm u := sP.mono (by omega)
     have zr : Zn r r := ⟨rfl, by omega, by omega⟩
     have wr : IntKind.i64.wrap (IntKind.i64.wrap (r + P) - 1) = r + P - 1 := by rw [wsi (x := r + P) (by omega), wsi (by omega)]
     have hz : ((((ofN B32 u).length : Nat) : Int) == 0) = decide (u = 0) := by
      have y := ofN_zero B32_2 u
      rw [Bool.eq_iff_iff, beq_iff_eq, decide_eq_true_iff, ← y]
      omega
     rw [putN]
     dsimp only
     by_cases k1 : u = 0
     ·have z1 := hz.trans (decide_eq_true k1)
      rw [show clsN P emax u r = 1 by rw [clsN, if_pos k1], if_pos (.inl rfl)]
      refine SW_seq ?_
      refine SW_block ?_
      refine xr [] [(121, .bool ((((List.length (ofN B32 u)) : Nat) : Int) == 0))] ?_
      refine xst z1 ?_
      refine xql [(1, [2]), (3, [4])] [] [(4, [.int .i64 1, .bool neg, .int .u64 0, .int .u64 0, .int .i64 0])] ?_
      refine xg ?_
      refine xn 2 [(1, [4])] [(148, .agg #[.int .i64 1, .bool neg, .int .u64 0, .int .u64 0, .int .i64 0]), (147, .int .i64 f)] ?_
      refine xcv 149 (ct_spec_Pack' h (f) hf (1) (neg) (0) (0) (0) ⟨rfl, rfl⟩ b0 (0) (0) z0) zs0 ?_
      refine xy [(5, [1])] [(7, .bool (Prod.snd (packR P emin emax W E ex 1 neg 0 0)))] [(1, [.int .u64 (hiI (Prod.fst (packR P emin emax W E ex 1 neg 0 0))), .int .u64 (loI (Prod.fst (packR P emin emax W E ex 1 neg 0 0)))])] ?_
      refine SW_ret ?_
      refine xe () (.tuple #[.agg #[.int .u64 (hiI (Prod.fst (packR P emin emax W E ex 1 neg 0 0))), .int .u64 (loI (Prod.fst (packR P emin emax W E ex 1 neg 0 0)))], .bool (Prod.snd (packR P emin emax W E ex 1 neg 0 0))]) [1] ?_ trivial
      rfl
     ·have z1 := hz.trans (decide_eq_false k1)
      by_cases k2 : emax < r + P - 1
      ·have z2 : decide (IntKind.i64.wrap (IntKind.i64.wrap (r + P) - 1) > emax) = true := decide_eq_true (by rw [wr]; omega)
       rw [show clsN P emax u r = 4 by rw [clsN, if_neg k1, if_pos k2], if_pos (.inr rfl)]
       refine SW_seq ?_
       refine SW_block ?_
       refine xr [] [(121, .bool ((((List.length (ofN B32 u)) : Nat) : Int) == 0))] ?_
       refine xsf z1 ?_
       refine xr [(2, [3]), (6, [3])] [(128, .bool (decide (IntKind.wrap IntKind.i64 (IntKind.wrap IntKind.i64 (r + (P : Int)) - 1) > emax)))] ?_
       refine xst z2 ?_
       refine xql [(1, [2]), (3, [4])] [] [(4, [.int .i64 4, .bool neg, .int .u64 0, .int .u64 0, .int .i64 0])] ?_
       refine xg ?_
       refine xn 2 [(1, [4])] [(148, .agg #[.int .i64 4, .bool neg, .int .u64 0, .int .u64 0, .int .i64 0]), (147, .int .i64 f)] ?_
       refine xcv 149 (ct_spec_Pack' h (f) hf (4) (neg) (0) (0) (0) ⟨rfl, rfl⟩ b0 (0) (0) z0) zs0 ?_
       refine xy [(5, [1])] [(7, .bool (Prod.snd (packR P emin emax W E ex 4 neg 0 0)))] [(1, [.int .u64 (hiI (Prod.fst (packR P emin emax W E ex 4 neg 0 0))), .int .u64 (loI (Prod.fst (packR P emin emax W E ex 4 neg 0 0)))])] ?_
       refine SW_ret ?_
       refine xe () (.tuple #[.agg #[.int .u64 (hiI (Prod.fst (packR P emin emax W E ex 4 neg 0 0))), .int .u64 (loI (Prod.fst (packR P emin emax W E ex 4 neg 0 0)))], .bool (Prod.snd (packR P emin emax W E ex 4 neg 0 0))]) [1] ?_ trivial
       rfl
      ·have z2 : decide (IntKind.i64.wrap (IntKind.i64.wrap (r + P) - 1) > emax) = false := decide_eq_false (by rw [wr]; omega)
       by_cases k3 : u < 2 ^ (P - 1)
       ·have z3 : decide ((m3 : Int) < (P : Int)) = true := decide_eq_true (by omega)
        rw [show clsN P emax u r = 2 by rw [clsN, if_neg k1, if_neg k2, if_pos k3], if_neg (by decide)]
        refine SW_seq ?_
        refine SW_block ?_
        refine xr [] [(121, .bool ((((List.length (ofN B32 u)) : Nat) : Int) == 0))] ?_
        refine xsf z1 ?_
        refine xr [(2, [3]), (6, [3])] [(128, .bool (decide (IntKind.wrap IntKind.i64 (IntKind.wrap IntKind.i64 (r + (P : Int)) - 1) > emax)))] ?_
        refine xsf z2 ?_
        refine xd (fun hB => ?_)
        refine xdk [(0, []), (2, []), (3, [3])] [(144, .int .i64 (P : Int)), (141, .slice A (List.length (ofN B32 u)) k)] hB ?_
        refine xdv 1 142 (ct_spec_l1Bits (u) (A) (k) su (m3) hm3) (zsS zi0 zs0) ?_
        refine xdk [(4, []), (5, [])] [(140, .bool (decide ((m3 : Int) < (P : Int))))] hB ?_
        refine xdz ?_
        refine xst z3 ?_
        refine xql [(1, [4])] [] [(4, [.int .i64 2, .bool neg, .int .u64 (hiI u), .int .u64 (loI u), .int .i64 r])] ?_
        refine xg ?_
        refine xn 2 [(1, [4])] [(148, .agg #[.int .i64 2, .bool neg, .int .u64 (hiI u), .int .u64 (loI u), .int .i64 r]), (147, .int .i64 f)] ?_
        refine xcv 149 (ct_spec_Pack h (f) hf (2) (neg) (u) huB (r) (by omega)) zs0 ?_
        refine xy [(5, [1])] [(7, .bool (Prod.snd (packR P emin emax W E ex 2 neg u r)))] [(1, [.int .u64 (hiI (Prod.fst (packR P emin emax W E ex 2 neg u r))), .int .u64 (loI (Prod.fst (packR P emin emax W E ex 2 neg u r)))])] ?_
        refine SW_ret ?_
        refine xe () (.tuple #[.agg #[.int .u64 (hiI (Prod.fst (packR P emin emax W E ex 2 neg u r))), .int .u64 (loI (Prod.fst (packR P emin emax W E ex 2 neg u r)))], .bool (Prod.snd (packR P emin emax W E ex 2 neg u r))]) [1] ?_ trivial
        rfl
       ·have z3 : decide ((m3 : Int) < (P : Int)) = false := decide_eq_false (by omega)
        rw [show clsN P emax u r = 3 by rw [clsN, if_neg k1, if_neg k2, if_neg k3], if_neg (by decide)]
        refine SW_seq ?_
        refine SW_block ?_
        refine xr [] [(121, .bool ((((List.length (ofN B32 u)) : Nat) : Int) == 0))] ?_
        refine xsf z1 ?_
        refine xr [(2, [3]), (6, [3])] [(128, .bool (decide (IntKind.wrap IntKind.i64 (IntKind.wrap IntKind.i64 (r + (P : Int)) - 1) > emax)))] ?_
        refine xsf z2 ?_
        refine xd (fun hB => ?_)
        refine xdk [(0, []), (2, []), (3, [3])] [(144, .int .i64 (P : Int)), (141, .slice A (List.length (ofN B32 u)) k)] hB ?_
        refine xdv 1 142 (ct_spec_l1Bits (u) (A) (k) su (m3) hm3) (zsS zi0 zs0) ?_
        refine xdk [(4, []), (5, [])] [(140, .bool (decide ((m3 : Int) < (P : Int))))] hB ?_
        refine xdz ?_
        refine xsf z3 ?_
        refine xql [(1, [4])] [] [(4, [.int .i64 3, .bool neg, .int .u64 (hiI u), .int .u64 (loI u), .int .i64 r])] ?_
        refine xg ?_
        refine xn 2 [(1, [4])] [(148, .agg #[.int .i64 3, .bool neg, .int .u64 (hiI u), .int .u64 (loI u), .int .i64 r]), (147, .int .i64 f)] ?_
        refine xcv 149 (ct_spec_Pack h (f) hf (3) (neg) (u) huB (r) (by omega)) zs0 ?_
        refine xy [(5, [1])] [(7, .bool (Prod.snd (packR P emin emax W E ex 3 neg u r)))] [(1, [.int .u64 (hiI (Prod.fst (packR P emin emax W E ex 3 neg u r))), .int .u64 (loI (Prod.fst (packR P emin emax W E ex 3 neg u r)))])] ?_
        refine SW_ret ?_
        refine xe () (.tuple #[.agg #[.int .u64 (hiI (Prod.fst (packR P emin emax W E ex 3 neg u r))), .int .u64 (loI (Prod.fst (packR P emin emax W E ex 3 neg u r)))], .bool (Prod.snd (packR P emin emax W E ex 3 neg u r))]) [1] ?_ trivial
        rfl
end Go.Proofs.YtdbnmdchecacdaaDoor.M
end
section
namespace Go.Proofs.YtdbnmdchecacdaaDoor.M
open Go.RowKit Go.Proofs.YtdbnmdchecacdaaDoor.G Go.Proofs.YtdbnmdchecacdaaDoorV.PrintWords Go.Proofs.YtdbnmdchecacdaaDoorV.PrintLast Go.Proofs.YtdbnmdchecacdaaDoor.X
set_option linter.unusedVariables false
set_option linter.unusedSimpArgs false
theorem ct_impl_Unpack {P : Nat} {emin emax : Int} {W E : Nat} {ex : Bool} (h : Fmt P emin emax W E ex) (f : Int) (hf : impl_layoutOf.f f = some ((P : Int), emin, emax, (W : Int), (E : Int), ex, true)) (x : Nat) (hx : x < B128) : CtV Tryd.prog 17 [.int .i64 f, .agg #[.int .u64 (hiI x), .int .u64 (loI x)]] [Tabled] (prtV (unpN P emin emax W E ex x)) := by
 refine ct_of Tryd.func17 rfl (by kernel_rfl) (fun B w0 => ?_)
 have p0 := h.p0
 have p1 := h.p1
 have w1 := h.w1
 have w2 := h.w2
 have e1 := h.e1
 have fN : fracN P ex ≤ P := by unfold fracN; split <;> omega
 have nW : Nn (IntKind.i64.wrap ((W : Int) - 1)) (W - 1) := Nn.wrap (by omega) (by omega)
 have nP : Nn (IntKind.i64.wrap ((P : Int) - 1)) (P - 1) := Nn.wrap (by omega) (by omega)
 have bd : ∀ i, x / i < B128 := fun i => Nat.lt_of_le_of_lt (Nat.div_le_self _ _) hx
 have bm : ∀ i, x % i < B128 := fun i => Nat.lt_of_le_of_lt (Nat.mod_le _ _) hx
 have hq : (!(hiI (x / 2 ^ W) == 0 && (loI (x / 2 ^ W) == 0))) = decide (2 ^ W ≤ x) := by
  rw [word_eq0, Bool.eq_iff_iff, Bool.not_eq_true', decide_eq_false_iff_not, decide_eq_true_iff]
  have := Nat.pow_pos (n := W) (show 0 < 2 by decide)
  exact ⟨fun hn => Nat.le_of_not_lt (fun z => hn (Nat.div_eq_of_lt z)), fun hn z => by have := Nat.div_pos hn this; omega⟩
 refine xg ?_
 refine xb 3 [.int .u64 (hiI x), .int .u64 (loI x)] 25 (fun g0 => ?_)
 refine xb 4 [.int .i64 0, .bool false, .int .u64 0, .int .u64 0, .int .i64 0] 27 (fun g1 => ?_)
 refine xz [] [] ?_
 refine xg ?_
 refine xn 1 [] [(14, .int .i64 f)] ?_
 refine xcv 15 (ct_impl_layoutOf (f) hf) (zsS zi0 zs0) ?_
 refine xn 5 [] [(17, .bool true), (16, .agg #[.int .i64 (P : Int), .int .i64 emin, .int .i64 emax, .int .i64 (W : Int), .int .i64 (E : Int), .bool ex])] ?_
 refine xb 5 [.int .i64 0, .int .i64 0, .int .i64 0, .int .i64 0, .int .i64 0, .bool false] 91 (fun g2 => ?_)
 refine xy [(6, [2])] [(6, .bool true)] [(2, [.int .i64 (P : Int), .int .i64 emin, .int .i64 emax, .int .i64 (W : Int), .int .i64 (E : Int), .bool ex])] ?_
 refine SW_cut (fun s' => x < 2 ^ W ∧ Weak s' ⟨[(0, .int .i64 f), (3, .pointer (some ⟨g0, 0, none⟩)), (4, .pointer (some ⟨g1, 0, none⟩)), (5, .pointer (some ⟨g2, 0, none⟩))], [⟨g0, [.int .u64 (hiI x), .int .u64 (loI x)], 25⟩, ⟨g1, [.int .i64 0, .bool false, .int .u64 0, .int .u64 0, .int .i64 0], 27⟩, ⟨g2, [.int .i64 P, .int .i64 emin, .int .i64 emax, .int .i64 W, .int .i64 E, .bool ex], 91⟩], [Tabled]⟩) ?_ ?_
 ·by_cases hW : W < 128
  ·have z1 : decide ((W : Int) < 128) = true := decide_eq_true (by omega)
   by_cases hx2 : 2 ^ W ≤ x
   ·have z2 := hq.trans (decide_eq_true hx2)
    refine xg ?_
    refine xn 8 [(5, [2])] [(25, .bool (decide ((W : Int) < 128))), (20, .bool false)] ?_
    refine xkt 25 z1 ?_
    refine xn 12 [(8, [0]), (11, [2])] [(29, .int .i64 (W : Int)), (26, .agg #[.int .u64 (hiI x), .int .u64 (loI x)])] ?_
    refine xcv 30 (ct_impl_Word_right (x) ((W : Int)) (W) ⟨rfl⟩ (by omega) hx) zs0 ?_
    refine xn 14 [] [(31, .agg #[.int .u64 0, .int .u64 0])] ?_
    refine xv 32 (.bool (!((hiI (x / 2 ^ W) == 0) && (loI (x / 2 ^ W) == 0)))) (fun w _ _ => run_neq rfl (by kernel_rfl) (by kernel_rfl) (by kernel_rfl) w (eq_word _ _ _ _ _ w)) ?_
    refine xz [] [(34, .bool !(hiI (x / 2 ^ W) == 0 && loI (x / 2 ^ W) == 0))] ?_
    refine xst z2 ?_
    refine xq [(1, [1])] [] [] ?_
    refine SW_ret ?_
    refine xe () (.agg #[.int .i64 0, .bool false, .int .u64 0, .int .u64 0, .int .i64 0]) [1] ?_ trivial
    rw [unpN, if_pos hx2]
    rfl
   ·have z2 := hq.trans (decide_eq_false hx2)
    refine xg ?_
    refine xn 8 [(5, [2])] [(25, .bool (decide ((W : Int) < 128))), (20, .bool false)] ?_
    refine xkt 25 z1 ?_
    refine xn 12 [(8, [0]), (11, [2])] [(29, .int .i64 (W : Int)), (26, .agg #[.int .u64 (hiI x), .int .u64 (loI x)])] ?_
    refine xcv 30 (ct_impl_Word_right (x) ((W : Int)) (W) ⟨rfl⟩ (by omega) hx) zs0 ?_
    refine xn 14 [] [(31, .agg #[.int .u64 0, .int .u64 0])] ?_
    refine xv 32 (.bool (!((hiI (x / 2 ^ W) == 0) && (loI (x / 2 ^ W) == 0)))) (fun w _ _ => run_neq rfl (by kernel_rfl) (by kernel_rfl) (by kernel_rfl) w (eq_word _ _ _ _ _ w)) ?_
    refine xz [] [(34, .bool !(hiI (x / 2 ^ W) == 0 && loI (x / 2 ^ W) == 0))] ?_
    refine xsf z2 ?_
    refine SW_skip ?_
    refine ⟨?_, xw (zsS zi0 zs0)⟩
    omega
  ·have z1 : decide ((W : Int) < 128) = false := decide_eq_false (by omega)
   have hx2 : x < 2 ^ W := by rw [show W = 128 by omega]; exact hx
   refine xg ?_
   refine xn 8 [(5, [2])] [(25, .bool (decide ((W : Int) < 128))), (20, .bool false)] ?_
   refine xkf 25 z1 ?_
   refine xz [(8, [0])] [(34, .bool false)] ?_
   refine xs0 ?_
   refine SW_skip ?_
   refine ⟨?_, xw (zsS zi0 zs0)⟩
   exact hx2
 ·rintro s' ⟨hxW, hw⟩
  refine SW_weak hw ?_
  clear hw
  have sR : x / 2 ^ fracN P ex % 2 ^ E < 2 ^ 64 := Nat.lt_of_lt_of_le (Nat.mod_lt _ (Nat.pow_pos (by decide))) (Nat.pow_le_pow_right (by decide) (by omega))
  obtain ⟨e, he⟩ : ∃ e, e = x / 2 ^ fracN P ex % 2 ^ E := ⟨_, rfl⟩
  have hel : e < 2 ^ E := by rw [he]; exact Nat.mod_lt _ (Nat.pow_pos (by decide))
  have he9 : IntKind.i64.wrap (loI e) = (e : Int) := by
   have h4 : 2 ^ E ≤ 2 ^ 15 := Nat.pow_le_pow_right (by decide) e1
   have h5 : e < 32768 := Nat.lt_of_lt_of_le hel h4
   unfold loI
   rw [Nat.mod_eq_of_lt (by omega)]
   exact wsi (by omega)
  have be : e < B128 := by rw [he]; exact Nat.lt_of_le_of_lt (Nat.mod_le _ _) (bd _)
  have hng : (!(hiI (x / 2 ^ (W - 1)) == 0 && (loI (x / 2 ^ (W - 1)) == 0))) = decide (x / 2 ^ (W - 1) % 2 = 1) := by
   have h2 : x / 2 ^ (W - 1) < 2 := Nat.div_lt_of_lt_mul (by rw [← Nat.pow_succ, show (W - 1).succ = W by omega]; exact hxW)
   rw [word_eq0, Bool.eq_iff_iff, Bool.not_eq_true', decide_eq_false_iff_not, decide_eq_true_iff]
   exact small2 _ h2
  have lP : ∀ y, y % 2 ^ (P - 1) < 2 ^ (P - 1) := fun y => Nat.mod_lt _ (Nat.pow_pos (by decide))
  rw [show unpN P emin emax W E ex x = if ex = true then (if (2 ^ (P - 1) ≤ x % 2 ^ P ↔ e ≠ 0) then partsOf P emin emax E e (decide (x / 2 ^ (W - 1) % 2 = 1)) (x % 2 ^ P % 2 ^ (P - 1)) else badP) else partsOf P emin emax E e (decide (x / 2 ^ (W - 1) % 2 = 1)) (x % 2 ^ (P - 1)) by
   rw [unpN, if_neg (by omega), he]
   cases ex <;> rfl]
  rw [← hng]
  refine xg ?_
  refine xn 1 [(0, [2])] [(36, .agg #[.int .i64 (P : Int), .int .i64 emin, .int .i64 emax, .int .i64 (W : Int), .int .i64 (E : Int), .bool ex])] ?_
  refine xcv 37 (ct_impl_layout_fracBits h) zs0 ?_
  refine xz [] [(7, .int .i64 (((fracN P ex) : Nat) : Int))] ?_
  refine xg ?_
  refine xn 2 [(0, [0])] [(39, .int .i64 (((fracN P ex) : Nat) : Int)), (38, .agg #[.int .u64 (hiI x), .int .u64 (loI x)])] ?_
  refine xcv 40 (ct_impl_Word_low (x) ((((fracN P ex) : Nat) : Int)) (fracN P ex) ⟨rfl⟩ (by omega) hx) zs0 ?_
  refine xb 8 [.int .u64 0, .int .u64 0] 25 (fun g3 => ?_)
  refine xy [(4, [3])] [] [(3, [.int .u64 (hiI (x % 2 ^ fracN P ex)), .int .u64 (loI (x % 2 ^ fracN P ex))])] ?_
  refine xd (fun hB => ?_)
  refine xdk [(0, [0]), (1, []), (3, []), (4, []), (5, [2])] [(46, .int .i64 (E : Int)), (42, .int .i64 (((fracN P ex) : Nat) : Int)), (41, .agg #[.int .u64 (hiI x), .int .u64 (loI x)])] hB ?_
  refine xdv 2 43 (ct_impl_Word_right (x) ((((fracN P ex) : Nat) : Int)) (fracN P ex) ⟨rfl⟩ (by omega) hx) zs0 ?_
  refine xdv 6 47 (ct_impl_Word_low (x / 2 ^ fracN P ex) ((E : Int)) (E) ⟨rfl⟩ (by omega) (bd _)) zs0 ?_
  refine xdk [(7, []), (8, []), (9, [])] [(9, .int .i64 (IntKind.wrap IntKind.i64 (loI (x / 2 ^ fracN P ex % 2 ^ E))))] hB ?_
  refine xdz ?_
  refine xg ?_
  refine xn 5 [(0, [0]), (3, [2])] [(54, .int .i64 (IntKind.wrap IntKind.i64 ((W : Int) - 1))), (50, .agg #[.int .u64 (hiI x), .int .u64 (loI x)])] ?_
  refine xcv 55 (ct_impl_Word_right (x) (IntKind.wrap IntKind.i64 ((W : Int) - 1)) (W - 1) nW (by omega) hx) zs0 ?_
  refine xn 7 [] [(56, .agg #[.int .u64 0, .int .u64 0])] ?_
  refine xv 57 (.bool (!((hiI (x / 2 ^ (W - 1)) == 0) && (loI (x / 2 ^ (W - 1)) == 0)))) (fun w _ _ => run_neq rfl (by kernel_rfl) (by kernel_rfl) (by kernel_rfl) w (eq_word _ _ _ _ _ w)) ?_
  refine xz [] [(10, .bool !(hiI (x / 2 ^ (W - 1)) == 0 && loI (x / 2 ^ (W - 1)) == 0))] ?_
  refine xg ?_
  refine xn 1 [(0, [3])] [(58, .agg #[.int .u64 (hiI (x % 2 ^ fracN P ex)), .int .u64 (loI (x % 2 ^ fracN P ex))])] ?_
  refine xb 11 [.int .u64 0, .int .u64 0] 25 (fun g4 => ?_)
  refine xy [(2, [4])] [] [(4, [.int .u64 (hiI (x % 2 ^ fracN P ex)), .int .u64 (loI (x % 2 ^ fracN P ex))])] ?_
  rw [← he]
  refine SW_cut (fun s' => ∃ R F, (if ex = true then (if (2 ^ (P - 1) ≤ x % 2 ^ P ↔ e ≠ 0) then partsOf P emin emax E e (!(hiI (x / 2 ^ (W - 1)) == 0 && (loI (x / 2 ^ (W - 1)) == 0))) (x % 2 ^ P % 2 ^ (P - 1)) else badP) else partsOf P emin emax E e (!(hiI (x / 2 ^ (W - 1)) == 0 && (loI (x / 2 ^ (W - 1)) == 0))) (x % 2 ^ (P - 1))) = partsOf P emin emax E e (!(hiI (x / 2 ^ (W - 1)) == 0 && (loI (x / 2 ^ (W - 1)) == 0))) R ∧ R < 2 ^ (P - 1) ∧ F < B128 ∧ (e = 0 → F = R) ∧ (e ≠ 0 → F ||| 2 ^ (P - 1) = R + 2 ^ (P - 1)) ∧ Weak s' ⟨[(4, .pointer (some ⟨g1, 0, none⟩)), (5, .pointer (some ⟨g2, 0, none⟩)), (8, .pointer (some ⟨g3, 0, none⟩)), (9, .int .i64 (IntKind.i64.wrap (loI e))), (10, .bool (!(hiI (x / 2 ^ (W - 1)) == 0 && (loI (x / 2 ^ (W - 1)) == 0)))), (11, .pointer (some ⟨g4, 0, none⟩))], [⟨g0, [.int .u64 (hiI x), .int .u64 (loI x)], 25⟩, ⟨g1, [.int .i64 0, .bool false, .int .u64 0, .int .u64 0, .int .i64 0], 27⟩, ⟨g2, [.int .i64 P, .int .i64 emin, .int .i64 emax, .int .i64 W, .int .i64 E, .bool ex], 91⟩, ⟨g3, [.int .u64 (hiI F), .int .u64 (loI F)], 25⟩, ⟨g4, [.int .u64 (hiI R), .int .u64 (loI R)], 25⟩], [Tabled]⟩) ?_ ?_
  ·cases ex with
   | true =>
    have f2 : fracN P true = P := rfl
    rw [f2] at *
    have hj : (!(hiI (x % 2 ^ P / 2 ^ (P - 1)) == 0 && (loI (x % 2 ^ P / 2 ^ (P - 1)) == 0))) = decide (2 ^ (P - 1) ≤ x % 2 ^ P) := by
     rw [word_eq0, Bool.eq_iff_iff, Bool.not_eq_true', decide_eq_false_iff_not, decide_eq_true_iff]
     have := Nat.pow_pos (n := P - 1) (show 0 < 2 by decide)
     exact ⟨fun hn => Nat.le_of_not_lt (fun z => hn (Nat.div_eq_of_lt z)), fun hn z => by have := Nat.div_pos hn this; omega⟩
    have hz : (!((!(hiI (x % 2 ^ P / 2 ^ (P - 1)) == 0 && (loI (x % 2 ^ P / 2 ^ (P - 1)) == 0))) == (IntKind.i64.wrap (loI e) != 0))) = decide (¬ (2 ^ (P - 1) ≤ x % 2 ^ P ↔ e ≠ 0)) := by
     rw [hj, he9]
     have : ((e : Int) != 0) = decide (e ≠ 0) := by
      rw [Bool.eq_iff_iff, bne_iff_ne, decide_eq_true_iff]
      omega
     rw [this]
     by_cases a : 2 ^ (P - 1) ≤ x % 2 ^ P <;> by_cases b : e = 0 <;> simp [a, b]
    by_cases hg : (2 ^ (P - 1) ≤ x % 2 ^ P ↔ e ≠ 0)
    ·have z1 := hz.trans (decide_eq_false (not_not_intro hg))
     refine xr [(2, [2])] [(61, .bool true)] ?_
     refine xs1 ?_
     refine xg ?_
     refine xn 5 [(0, [3]), (3, [2])] [(66, .int .i64 (IntKind.wrap IntKind.i64 ((P : Int) - 1))), (62, .agg #[.int .u64 (hiI (x % 2 ^ P)), .int .u64 (loI (x % 2 ^ P))])] ?_
     refine xcv 67 (ct_impl_Word_right (x % 2 ^ P) (IntKind.wrap IntKind.i64 ((P : Int) - 1)) (P - 1) nP (by omega) (bm _)) zs0 ?_
     refine xn 7 [] [(68, .agg #[.int .u64 0, .int .u64 0])] ?_
     refine xv 69 (.bool (!((hiI (x % 2 ^ P / 2 ^ (P - 1)) == 0) && (loI (x % 2 ^ P / 2 ^ (P - 1)) == 0)))) (fun w _ _ => run_neq rfl (by kernel_rfl) (by kernel_rfl) (by kernel_rfl) w (eq_word _ _ _ _ _ w)) ?_
     refine xz [] [(12, .bool !(hiI (x % 2 ^ P / 2 ^ (P - 1)) == 0 && loI (x % 2 ^ P / 2 ^ (P - 1)) == 0))] ?_
     refine SW_seq ?_
     refine xr [] [(73, .bool !(!(hiI (x % 2 ^ P / 2 ^ (P - 1)) == 0 && loI (x % 2 ^ P / 2 ^ (P - 1)) == 0)) == (IntKind.wrap IntKind.i64 (loI e) != 0))] ?_
     refine xsf z1 ?_
     refine SW_skip ?_
     refine SW_region ?_
     refine xn 5 [(0, [3]), (3, [2])] [(79, .int .i64 (IntKind.wrap IntKind.i64 ((P : Int) - 1))), (75, .agg #[.int .u64 (hiI (x % 2 ^ P)), .int .u64 (loI (x % 2 ^ P))])] ?_
     refine xcv 80 (ct_impl_Word_low (x % 2 ^ P) (IntKind.wrap IntKind.i64 ((P : Int) - 1)) (P - 1) nP (by omega) (bm _)) zs0 ?_
     refine xy [(6, [4])] [] [(4, [.int .u64 (hiI (x % 2 ^ P % 2 ^ (P - 1))), .int .u64 (loI (x % 2 ^ P % 2 ^ (P - 1)))])] ?_
     refine ⟨(x % 2 ^ P % 2 ^ (P - 1)), (x % 2 ^ P), ?_, ?_, ?_, ?_, ?_, xw (zsS zi0 zs0)⟩
     ·rw [if_pos rfl, if_pos hg]
     ·exact lP _
     ·exact bm _
     ·intro h0
      exact (Nat.mod_eq_of_lt (Nat.lt_of_not_le (fun z => hg.1 z h0))).symm
     ·intro h0
      have hl := hg.2 h0
      have y1 := Nat.mod_lt x (Nat.pow_pos (n := P) (show 0 < 2 by decide))
      have y2 : 2 ^ P = 2 * 2 ^ (P - 1) := by rw [Nat.mul_comm, ← Nat.pow_succ]; congr 1; omega
      have y3 : x % 2 ^ P = x % 2 ^ P % 2 ^ (P - 1) + 2 ^ (P - 1) := by
       rw [Nat.mod_eq_sub_mod hl, Nat.mod_eq_of_lt (show x % 2 ^ P - 2 ^ (P - 1) < 2 ^ (P - 1) by omega)]
       omega
      have y4 := lor_top (lP (x % 2 ^ P))
      rw [← y3] at y4
      rw [← y4, Nat.or_assoc, Nat.or_self, y4, ← y3]
    ·have z1 := hz.trans (decide_eq_true hg)
     refine xr [(2, [2])] [(61, .bool true)] ?_
     refine xs1 ?_
     refine xg ?_
     refine xn 5 [(0, [3]), (3, [2])] [(66, .int .i64 (IntKind.wrap IntKind.i64 ((P : Int) - 1))), (62, .agg #[.int .u64 (hiI (x % 2 ^ P)), .int .u64 (loI (x % 2 ^ P))])] ?_
     refine xcv 67 (ct_impl_Word_right (x % 2 ^ P) (IntKind.wrap IntKind.i64 ((P : Int) - 1)) (P - 1) nP (by omega) (bm _)) zs0 ?_
     refine xn 7 [] [(68, .agg #[.int .u64 0, .int .u64 0])] ?_
     refine xv 69 (.bool (!((hiI (x % 2 ^ P / 2 ^ (P - 1)) == 0) && (loI (x % 2 ^ P / 2 ^ (P - 1)) == 0)))) (fun w _ _ => run_neq rfl (by kernel_rfl) (by kernel_rfl) (by kernel_rfl) w (eq_word _ _ _ _ _ w)) ?_
     refine xz [] [(12, .bool !(hiI (x % 2 ^ P / 2 ^ (P - 1)) == 0 && loI (x % 2 ^ P / 2 ^ (P - 1)) == 0))] ?_
     refine SW_seq ?_
     refine xr [] [(73, .bool !(!(hiI (x % 2 ^ P / 2 ^ (P - 1)) == 0 && loI (x % 2 ^ P / 2 ^ (P - 1)) == 0)) == (IntKind.wrap IntKind.i64 (loI e) != 0))] ?_
     refine xst z1 ?_
     refine xq [(1, [1])] [] [] ?_
     refine SW_ret ?_
     refine xe () (.agg #[.int .i64 0, .bool false, .int .u64 0, .int .u64 0, .int .i64 0]) [1] ?_ trivial
     rw [if_pos rfl, if_neg hg]
     rfl
   | false =>
    have f2 : fracN P false = P - 1 := rfl
    rw [f2] at *
    refine xr [(2, [2])] [(61, .bool false)] ?_
    refine xs0 ?_
    refine SW_skip ?_
    refine ⟨(x % 2 ^ (P - 1)), (x % 2 ^ (P - 1)), ?_, ?_, ?_, ?_, ?_, xw (zsS zi0 zs0)⟩
    ·rfl
    ·exact lP _
    ·exact bm _
    ·intro _; rfl
    ·intro _; exact lor_top (lP _)
  ·rintro s' ⟨R, F, hU, hR, hF, hF0, hF1, hw⟩
   refine SW_weak hw ?_
   rw [hU]
   have z2 := word_eq0 R
   have z4 := word_eq0 F
   have bP : 2 ^ (P - 1) < B128 := Nat.pow_lt_pow_right (a := 2) (n := 128) (by decide) (by omega)
   have hm0 := h.m0
   have hm1 := h.m1
   by_cases c1 : e = 2 ^ E - 1
   ·have z1 : (IntKind.i64.wrap (loI e) == ((2 ^ E - 1 : Nat) : Int)) = true := by rw [he9, c1]; exact beq_self_eq_true _
    by_cases c2 : R = 0
    ·rw [decide_eq_true c2] at z2
     refine SW_seq ?_
     refine SW_block ?_
     refine xg ?_
     refine xn 2 [(1, [2])] [(83, .agg #[.int .i64 (P : Int), .int .i64 emin, .int .i64 emax, .int .i64 (W : Int), .int .i64 (E : Int), .bool ex]), (82, .int .i64 (IntKind.wrap IntKind.i64 (loI e)))] ?_
     refine xcv 84 (ct_impl_layout_top h) zs0 ?_
     refine xn 5 [] [(86, .bool (IntKind.wrap IntKind.i64 (loI e) == (((2 ^ E - 1) : Nat) : Int)))] ?_
     refine xkt 86 z1 ?_
     refine xn 7 [(5, [4])] [(88, .agg #[.int .u64 0, .int .u64 0]), (87, .agg #[.int .u64 (hiI R), .int .u64 (loI R)])] ?_
     refine xv 89 (.bool ((hiI R == 0) && (loI R == 0))) (fun w _ _ => run_eql rfl (by kernel_rfl) (by kernel_rfl) (by kernel_rfl) w (eq_word _ _ _ _ _ w)) ?_
     refine xz [] [(81, .bool (hiI R == 0 && loI R == 0))] ?_
     refine xst z2 ?_
     refine xq [(2, [1])] [] [(1, [.int .i64 4, .bool !(hiI (x / 2 ^ (W - 1)) == 0 && loI (x / 2 ^ (W - 1)) == 0), .int .u64 0, .int .u64 0, .int .i64 0])] ?_
     refine SW_ret ?_
     refine xe () (.agg #[.int .i64 4, .bool !(hiI (x / 2 ^ (W - 1)) == 0 && loI (x / 2 ^ (W - 1)) == 0), .int .u64 0, .int .u64 0, .int .i64 0]) [1] ?_ trivial
     rw [partsOf, if_pos c1, if_pos c2]
     rfl
    ·rw [decide_eq_false c2] at z2
     refine SW_seq ?_
     refine SW_block ?_
     refine xg ?_
     refine xn 2 [(1, [2])] [(83, .agg #[.int .i64 (P : Int), .int .i64 emin, .int .i64 emax, .int .i64 (W : Int), .int .i64 (E : Int), .bool ex]), (82, .int .i64 (IntKind.wrap IntKind.i64 (loI e)))] ?_
     refine xcv 84 (ct_impl_layout_top h) zs0 ?_
     refine xn 5 [] [(86, .bool (IntKind.wrap IntKind.i64 (loI e) == (((2 ^ E - 1) : Nat) : Int)))] ?_
     refine xkt 86 z1 ?_
     refine xn 7 [(5, [4])] [(88, .agg #[.int .u64 0, .int .u64 0]), (87, .agg #[.int .u64 (hiI R), .int .u64 (loI R)])] ?_
     refine xv 89 (.bool ((hiI R == 0) && (loI R == 0))) (fun w _ _ => run_eql rfl (by kernel_rfl) (by kernel_rfl) (by kernel_rfl) w (eq_word _ _ _ _ _ w)) ?_
     refine xz [] [(81, .bool (hiI R == 0 && loI R == 0))] ?_
     refine xsf z2 ?_
     refine xg ?_
     refine xn 2 [(1, [2])] [(95, .agg #[.int .i64 (P : Int), .int .i64 emin, .int .i64 emax, .int .i64 (W : Int), .int .i64 (E : Int), .bool ex]), (94, .int .i64 (IntKind.wrap IntKind.i64 (loI e)))] ?_
     refine xcv 96 (ct_impl_layout_top h) zs0 ?_
     refine xz [] [(93, .bool (IntKind.wrap IntKind.i64 (loI e) == (((2 ^ E - 1) : Nat) : Int)))] ?_
     refine xst z1 ?_
     refine xq [(1, [1])] [] [(1, [.int .i64 5, .bool false, .int .u64 0, .int .u64 0, .int .i64 0])] ?_
     refine SW_ret ?_
     refine xe () (.agg #[.int .i64 5, .bool false, .int .u64 0, .int .u64 0, .int .i64 0]) [1] ?_ trivial
     rw [partsOf, if_pos c1, if_neg c2]
     rfl
   ·have z1 : (IntKind.i64.wrap (loI e) == ((2 ^ E - 1 : Nat) : Int)) = false := by rw [he9, beq_eq_false_iff_ne]; omega
    by_cases c3 : e = 0
    ·have z3 : (IntKind.i64.wrap (loI e) == 0) = true := by rw [he9, c3]; rfl
     have hFR := hF0 c3
     by_cases c2 : R = 0
     ·rw [decide_eq_true (hFR.trans c2)] at z4
      refine SW_seq ?_
      refine SW_block ?_
      refine xg ?_
      refine xn 2 [(1, [2])] [(83, .agg #[.int .i64 (P : Int), .int .i64 emin, .int .i64 emax, .int .i64 (W : Int), .int .i64 (E : Int), .bool ex]), (82, .int .i64 (IntKind.wrap IntKind.i64 (loI e)))] ?_
      refine xcv 84 (ct_impl_layout_top h) zs0 ?_
      refine xn 5 [] [(86, .bool (IntKind.wrap IntKind.i64 (loI e) == (((2 ^ E - 1) : Nat) : Int)))] ?_
      refine xkf 86 z1 ?_
      refine xz [(5, [4])] [(81, .bool false)] ?_
      refine xs0 ?_
      refine xg ?_
      refine xn 2 [(1, [2])] [(95, .agg #[.int .i64 (P : Int), .int .i64 emin, .int .i64 emax, .int .i64 (W : Int), .int .i64 (E : Int), .bool ex]), (94, .int .i64 (IntKind.wrap IntKind.i64 (loI e)))] ?_
      refine xcv 96 (ct_impl_layout_top h) zs0 ?_
      refine xz [] [(93, .bool (IntKind.wrap IntKind.i64 (loI e) == (((2 ^ E - 1) : Nat) : Int)))] ?_
      refine xsf z1 ?_
      refine xg ?_
      refine xn 3 [] [(102, .bool (IntKind.wrap IntKind.i64 (loI e) == 0))] ?_
      refine xkt 102 z3 ?_
      refine xn 5 [(3, [3])] [(104, .agg #[.int .u64 0, .int .u64 0]), (103, .agg #[.int .u64 (hiI F), .int .u64 (loI F)])] ?_
      refine xv 105 (.bool ((hiI F == 0) && (loI F == 0))) (fun w _ _ => run_eql rfl (by kernel_rfl) (by kernel_rfl) (by kernel_rfl) w (eq_word _ _ _ _ _ w)) ?_
      refine xz [] [(99, .bool (hiI F == 0 && loI F == 0))] ?_
      refine xst z4 ?_
      refine xq [(2, [1])] [] [(1, [.int .i64 1, .bool !(hiI (x / 2 ^ (W - 1)) == 0 && loI (x / 2 ^ (W - 1)) == 0), .int .u64 0, .int .u64 0, .int .i64 0])] ?_
      refine SW_ret ?_
      refine xe () (.agg #[.int .i64 1, .bool !(hiI (x / 2 ^ (W - 1)) == 0 && loI (x / 2 ^ (W - 1)) == 0), .int .u64 0, .int .u64 0, .int .i64 0]) [1] ?_ trivial
      rw [partsOf, if_neg c1, if_pos c3, if_pos c2]
      rfl
     ·rw [decide_eq_false (fun z => c2 (hFR.symm.trans z))] at z4
      refine SW_seq ?_
      refine SW_block ?_
      refine xg ?_
      refine xn 2 [(1, [2])] [(83, .agg #[.int .i64 (P : Int), .int .i64 emin, .int .i64 emax, .int .i64 (W : Int), .int .i64 (E : Int), .bool ex]), (82, .int .i64 (IntKind.wrap IntKind.i64 (loI e)))] ?_
      refine xcv 84 (ct_impl_layout_top h) zs0 ?_
      refine xn 5 [] [(86, .bool (IntKind.wrap IntKind.i64 (loI e) == (((2 ^ E - 1) : Nat) : Int)))] ?_
      refine xkf 86 z1 ?_
      refine xz [(5, [4])] [(81, .bool false)] ?_
      refine xs0 ?_
      refine xg ?_
      refine xn 2 [(1, [2])] [(95, .agg #[.int .i64 (P : Int), .int .i64 emin, .int .i64 emax, .int .i64 (W : Int), .int .i64 (E : Int), .bool ex]), (94, .int .i64 (IntKind.wrap IntKind.i64 (loI e)))] ?_
      refine xcv 96 (ct_impl_layout_top h) zs0 ?_
      refine xz [] [(93, .bool (IntKind.wrap IntKind.i64 (loI e) == (((2 ^ E - 1) : Nat) : Int)))] ?_
      refine xsf z1 ?_
      refine xg ?_
      refine xn 3 [] [(102, .bool (IntKind.wrap IntKind.i64 (loI e) == 0))] ?_
      refine xkt 102 z3 ?_
      refine xn 5 [(3, [3])] [(104, .agg #[.int .u64 0, .int .u64 0]), (103, .agg #[.int .u64 (hiI F), .int .u64 (loI F)])] ?_
      refine xv 105 (.bool ((hiI F == 0) && (loI F == 0))) (fun w _ _ => run_eql rfl (by kernel_rfl) (by kernel_rfl) (by kernel_rfl) w (eq_word _ _ _ _ _ w)) ?_
      refine xz [] [(99, .bool (hiI F == 0 && loI F == 0))] ?_
      refine xsf z4 ?_
      refine xr [] [(109, .bool (IntKind.wrap IntKind.i64 (loI e) == 0))] ?_
      refine xst z3 ?_
      refine xd (fun hB => ?_)
      refine xdk [(0, []), (1, [3]), (2, [2])] [(114, .agg #[.int .i64 (P : Int), .int .i64 emin, .int .i64 emax, .int .i64 (W : Int), .int .i64 (E : Int), .bool ex]), (113, .agg #[.int .u64 (hiI F), .int .u64 (loI F)]), (112, .bool !(hiI (x / 2 ^ (W - 1)) == 0 && loI (x / 2 ^ (W - 1)) == 0))] hB ?_
      refine xdv 3 115 (ct_impl_layout_qMin h) zs0 ?_
      refine xdk [(4, [])] [(116, .agg #[.int .i64 2, .bool !(hiI (x / 2 ^ (W - 1)) == 0 && loI (x / 2 ^ (W - 1)) == 0), .int .u64 (hiI F), .int .u64 (loI F), .int .i64 (emin - (P : Int) + 1)])] hB ?_
      refine xds 5 [1] [(1, [.int .i64 2, .bool !(hiI (x / 2 ^ (W - 1)) == 0 && loI (x / 2 ^ (W - 1)) == 0), .int .u64 (hiI F), .int .u64 (loI F), .int .i64 (emin - (P : Int) + 1)])] ?_
      refine xdz ?_
      refine SW_ret ?_
      refine xe () (.agg #[.int .i64 2, .bool !(hiI (x / 2 ^ (W - 1)) == 0 && loI (x / 2 ^ (W - 1)) == 0), .int .u64 (hiI F), .int .u64 (loI F), .int .i64 (emin - (P : Int) + 1)]) [1] ?_ trivial
      rw [partsOf, if_neg c1, if_pos c3, if_neg c2, hFR]
      kernel_rfl
    ·have z3 : (IntKind.i64.wrap (loI e) == 0) = false := by rw [he9, beq_eq_false_iff_ne]; omega
     refine SW_seq ?_
     refine SW_block ?_
     refine xg ?_
     refine xn 2 [(1, [2])] [(83, .agg #[.int .i64 (P : Int), .int .i64 emin, .int .i64 emax, .int .i64 (W : Int), .int .i64 (E : Int), .bool ex]), (82, .int .i64 (IntKind.wrap IntKind.i64 (loI e)))] ?_
     refine xcv 84 (ct_impl_layout_top h) zs0 ?_
     refine xn 5 [] [(86, .bool (IntKind.wrap IntKind.i64 (loI e) == (((2 ^ E - 1) : Nat) : Int)))] ?_
     refine xkf 86 z1 ?_
     refine xz [(5, [4])] [(81, .bool false)] ?_
     refine xs0 ?_
     refine xg ?_
     refine xn 2 [(1, [2])] [(95, .agg #[.int .i64 (P : Int), .int .i64 emin, .int .i64 emax, .int .i64 (W : Int), .int .i64 (E : Int), .bool ex]), (94, .int .i64 (IntKind.wrap IntKind.i64 (loI e)))] ?_
     refine xcv 96 (ct_impl_layout_top h) zs0 ?_
     refine xz [] [(93, .bool (IntKind.wrap IntKind.i64 (loI e) == (((2 ^ E - 1) : Nat) : Int)))] ?_
     refine xsf z1 ?_
     refine xg ?_
     refine xn 3 [] [(102, .bool (IntKind.wrap IntKind.i64 (loI e) == 0))] ?_
     refine xkf 102 z3 ?_
     refine xz [(3, [3])] [(99, .bool false)] ?_
     refine xs0 ?_
     refine xr [] [(109, .bool (IntKind.wrap IntKind.i64 (loI e) == 0))] ?_
     refine xsf z3 ?_
     refine SW_skip ?_
     refine xd (fun hB => ?_)
     refine xdk [(0, []), (1, [3]), (2, []), (3, []), (4, [2]), (5, []), (8, []), (9, []), (10, []), (11, [2]), (12, []), (13, []), (14, []), (15, [2]), (16, []), (17, [])] [(134, .int .i64 (IntKind.wrap IntKind.i64 (IntKind.wrap IntKind.i64 (IntKind.wrap IntKind.i64 (IntKind.wrap IntKind.i64 (loI e) - emax) - (P : Int)) + 1))), (122, .int .i64 (IntKind.wrap IntKind.i64 ((P : Int) - 1))), (118, .agg #[.int .u64 (hiI F), .int .u64 (loI F)]), (117, .bool !(hiI (x / 2 ^ (W - 1)) == 0 && loI (x / 2 ^ (W - 1)) == 0))] hB ?_
     refine xdv 6 123 (ct_impl_one (IntKind.wrap IntKind.i64 ((P : Int) - 1)) (P - 1) nP (by omega)) zs0 ?_
     refine xdv 7 124 (ct_impl_Word_or (hiI F) (loI F) (hiI (2 ^ (P - 1))) (loI (2 ^ (P - 1))) (F) (2 ^ (P - 1)) ⟨rfl, rfl⟩ ⟨rfl, rfl⟩ hF bP) zs0 ?_
     refine xdk [(18, [])] [(135, .agg #[.int .i64 3, .bool !(hiI (x / 2 ^ (W - 1)) == 0 && loI (x / 2 ^ (W - 1)) == 0), .int .u64 (hiI (F ||| 2 ^ (P - 1))), .int .u64 (loI (F ||| 2 ^ (P - 1))), .int .i64 (IntKind.wrap IntKind.i64 (IntKind.wrap IntKind.i64 (IntKind.wrap IntKind.i64 (IntKind.wrap IntKind.i64 (loI e) - emax) - (P : Int)) + 1))])] hB ?_
     refine xds 19 [1] [(1, [.int .i64 3, .bool !(hiI (x / 2 ^ (W - 1)) == 0 && loI (x / 2 ^ (W - 1)) == 0), .int .u64 (hiI (F ||| 2 ^ (P - 1))), .int .u64 (loI (F ||| 2 ^ (P - 1))), .int .i64 (IntKind.wrap IntKind.i64 (IntKind.wrap IntKind.i64 (IntKind.wrap IntKind.i64 (IntKind.wrap IntKind.i64 (loI e) - emax) - (P : Int)) + 1))])] ?_
     refine xdz ?_
     refine SW_ret ?_
     refine xe () (.agg #[.int .i64 3, .bool !(hiI (x / 2 ^ (W - 1)) == 0 && loI (x / 2 ^ (W - 1)) == 0), .int .u64 (hiI (F ||| 2 ^ (P - 1))), .int .u64 (loI (F ||| 2 ^ (P - 1))), .int .i64 (IntKind.wrap IntKind.i64 (IntKind.wrap IntKind.i64 (IntKind.wrap IntKind.i64 (IntKind.wrap IntKind.i64 (loI e) - emax) - (P : Int)) + 1))]) [1] ?_ trivial
     have hF15 : e < 32768 := Nat.lt_of_lt_of_le hel (show 2 ^ E ≤ 2 ^ 15 from Nat.pow_le_pow_right (by decide) e1)
     rw [partsOf, if_neg c1, if_neg c3, hF1 c3, he9, wsi (x := (e : Int) - _) (by omega), wsi (x := (e : Int) - _ - _) (by omega), wsi (by omega)]
     rfl
end Go.Proofs.YtdbnmdchecacdaaDoor.M
end
section
namespace Go.Proofs.YtdbnmdchecacdaaDoor.M
open Go.RowKit Go.Proofs.YtdbnmdchecacdaaDoor.G Go.Proofs.YtdbnmdchecacdaaDoorV.PrintWords Go.Proofs.YtdbnmdchecacdaaDoorV.PrintLast Go.Proofs.YtdbnmdchecacdaaDoor.X
set_option linter.unusedVariables false
set_option linter.unusedSimpArgs false
theorem ct_impl_Pack {P : Nat} {emin emax : Int} {W E : Nat} {ex : Bool} (h : Fmt2 P emin emax W E ex) (f : Int) (hf : impl_layoutOf.f f = some ((P : Int), emin, emax, (W : Int), (E : Int), ex, true)) (c : Int) (neg : Bool) (S : Nat) (hS : S < B128) (q : Int) (hq : -9223372036854775808 ≤ q ∧ q ≤ 9223372036854775807) :
  CtV Tryd.prog 23 [.int .i64 f, .agg #[.int .i64 c, .bool neg, .int .u64 (hiI S), .int .u64 (loI S), .int .i64 q]] [Tabled] (.tuple #[.agg #[.int .u64 (hiI (packR P emin emax W E ex c neg S q).1), .int .u64 (loI (packR P emin emax W E ex c neg S q).1)], .bool (packR P emin emax W E ex c neg S q).2]) := by
 have h1 := h.toFmt
 refine ct_of Tryd.func23 rfl (by kernel_rfl) (fun B w0 => ?_)
 have p3 := h.p3
 have p1 := h.p1
 have w1 := h1.w1
 have w2 := h1.w2
 have m1 := h.m1
 have tp := h.top
 have hF : fracN P ex ≤ P := by unfold fracN; split <;> omega
 have e0 : 0 < 2 ^ E := Nat.pow_pos (by decide)
 have hE15 : 2 ^ E ≤ 2 ^ 15 := Nat.pow_le_pow_right (by decide) h1.e1
 have nP1 : Nn (IntKind.i64.wrap ((P : Int) - 1)) (P - 1) := Nn.wrap (by omega) (by omega)
 have nP2 : Nn (IntKind.i64.wrap ((P : Int) - 2)) (P - 2) := Nn.wrap (by omega) (by omega)
 have nW1 : Nn (IntKind.i64.wrap ((W : Int) - 1)) (W - 1) := Nn.wrap (by omega) (by omega)
 have hp2 : ∀ i, i < 128 → 2 ^ i < B128 := fun i hi => Nat.pow_lt_pow_right (a := 2) (n := 128) (by decide) hi
 have b1 : 2 ^ (P - 1) < B128 := hp2 _ (by omega)
 have b2 : 2 ^ (P - 2) < B128 := hp2 _ (by omega)
 have b3 : 2 ^ (W - 1) < B128 := hp2 _ (by omega)
 have hlor : ∀ x y, x < B128 → y < B128 → x ||| y < B128 := fun x y hx hy => Nat.or_lt_two_pow (n := 128) hx hy
 have hsh : ∀ e, e < 2 ^ E → e * 2 ^ fracN P ex < B128 := by
  intro e he
  have e1 : 2 ^ (fracN P ex + E) = 2 ^ E * 2 ^ fracN P ex := by rw [← Nat.pow_add, Nat.add_comm]
  have e2 : e * 2 ^ fracN P ex < 2 ^ E * 2 ^ fracN P ex := Nat.mul_lt_mul_of_pos_right he (Nat.pow_pos (by decide))
  rw [← e1] at e2
  exact Nat.lt_trans e2 (hp2 _ (by omega))
 have hmod : ∀ e, e < 2 ^ E → e * 2 ^ fracN P ex % B128 = e * 2 ^ fracN P ex := fun e he => Nat.mod_eq_of_lt (hsh e he)
 have btop : (2 ^ E - 1) * 2 ^ fracN P ex < B128 := hsh _ (by omega)
 have wE := wrapE q emax P hq (by omega) m1.2 p1 (by omega)
 have wT : Wd 0 (IntKind.u64.wrap ((2 ^ E - 1 : Nat) : Int)) (2 ^ E - 1) := ⟨by unfold hiI; omega, by unfold loI; rw [wrap_u64_id (by omega)]; omega⟩
 have eT : 2 ^ E - 1 < B128 := Nat.lt_of_le_of_lt (by omega) (hp2 15 (by decide))
 refine xg ?_
 refine xb 3 [.int .i64 c, .bool neg, .int .u64 (hiI S), .int .u64 (loI S), .int .i64 q] 27 (fun g0 => ?_)
 refine xb 4 [.int .u64 0, .int .u64 0] 25 (fun g1 => ?_)
 refine xz [] [(5, .bool false)] ?_
 refine xg ?_
 refine xn 1 [] [(12, .int .i64 f)] ?_
 refine xcv 13 (ct_impl_layoutOf (f) hf) (zsS zi0 zs0) ?_
 refine xn 5 [] [(15, .bool true), (14, .agg #[.int .i64 (P : Int), .int .i64 emin, .int .i64 emax, .int .i64 (W : Int), .int .i64 (E : Int), .bool ex])] ?_
 refine xb 6 [.int .i64 0, .int .i64 0, .int .i64 0, .int .i64 0, .int .i64 0, .bool false] 91 (fun g2 => ?_)
 refine xy [(6, [2])] [(7, .bool true)] [(2, [.int .i64 (P : Int), .int .i64 emin, .int .i64 emax, .int .i64 (W : Int), .int .i64 (E : Int), .bool ex])] ?_
 refine SW_seq ?_
 refine xr [] [(17, .bool false)] ?_
 refine xs0 ?_
 refine SW_skip ?_
 refine xg ?_
 refine xn 1 [(0, [2])] [(19, .agg #[.int .i64 (P : Int), .int .i64 emin, .int .i64 emax, .int .i64 (W : Int), .int .i64 (E : Int), .bool ex])] ?_
 refine xcv 20 (ct_impl_layout_fracBits h1) zs0 ?_
 refine xz [] [(8, .int .i64 (((fracN P ex) : Nat) : Int))] ?_
 refine xg ?_
 refine xn 1 [] [(21, .agg #[.int .u64 0, .int .u64 0])] ?_
 refine xb 9 [.int .u64 0, .int .u64 0] 25 (fun g3 => ?_)
 refine xy [(2, [3])] [] [] ?_
 refine SW_cut (fun s' => ∃ x, x < B128 ∧ packU P emax E ex c S q = some x ∧ Weak s' ⟨[(0, .int .i64 f), (3, .pointer (some ⟨g0, 0, none⟩)), (4, .pointer (some ⟨g1, 0, none⟩)), (6, .pointer (some ⟨g2, 0, none⟩)), (9, .pointer (some ⟨g3, 0, none⟩))], [⟨g0, [.int .i64 c, .bool neg, .int .u64 (hiI S), .int .u64 (loI S), .int .i64 q], 27⟩, ⟨g1, [.int .u64 0, .int .u64 0], 25⟩, ⟨g2, [.int .i64 (P : Int), .int .i64 emin, .int .i64 emax, .int .i64 (W : Int), .int .i64 (E : Int), .bool ex], 91⟩, ⟨g3, [.int .u64 (hiI x), .int .u64 (loI x)], 25⟩], [Tabled]⟩) ?_ ?_
 ·have ltop : ∀ x, x < B128 → (if ex = true then ((2 ^ E - 1) * 2 ^ fracN P ex ||| 2 ^ (P - 1)) else (2 ^ E - 1) * 2 ^ fracN P ex) ||| x < B128 ∧ (if ex = true then ((2 ^ E - 1) * 2 ^ fracN P ex ||| 2 ^ (P - 1)) else (2 ^ E - 1) * 2 ^ fracN P ex) < B128 := by
   intro x hx
   have : (if ex = true then ((2 ^ E - 1) * 2 ^ fracN P ex ||| 2 ^ (P - 1)) else (2 ^ E - 1) * 2 ^ fracN P ex) < B128 := by
    split
    ·exact hlor _ _ btop b1
    ·exact btop
   exact ⟨hlor _ _ this hx, this⟩
  have mT : (2 ^ E - 1) * 2 ^ fracN P ex % B128 = (2 ^ E - 1) * 2 ^ fracN P ex := hmod _ (by omega)
  have bT : (2 ^ E - 1) * 2 ^ fracN P ex % B128 < B128 := Nat.mod_lt _ (by decide)
  have bT2 : (2 ^ E - 1) * 2 ^ fracN P ex % B128 ||| 2 ^ (P - 1) < B128 := hlor _ _ bT b1
  refine xr [(1, [0])] [(23, .int .i64 c)] ?_
  refine SW_block ?_
  refine xr [] [(24, .bool (c == 1))] ?_
  refine xs (c == 1) (fun q0 => ?_) (fun q0 => ?_)
  ·refine SW_skip ?_
   have hc : c = 1 := by simpa using q0
   exact ⟨0, by decide, by unfold packU; rw [if_pos hc], Weak.mk' (by kernel_rfl) rfl (zsS zi0 zs0)⟩
  have hc1 : c ≠ 1 := by simpa using q0
  refine xr [] [(26, .bool (c == 2))] ?_
  refine xs (c == 2) (fun q1 => ?_) (fun q1 => ?_)
  ·refine xql [(1, [0]), (2, [3])] [] [(3, [.int .u64 (hiI S), .int .u64 (loI S)])] ?_
   have hc : c = 2 := by simpa using q1
   exact ⟨S, hS, by unfold packU; rw [if_neg hc1, if_pos hc], Weak.mk' (by kernel_rfl) rfl (zsS zi0 zs0)⟩
  have hc2 : c ≠ 2 := by simpa using q1
  refine xr [] [(30, .bool (c == 3))] ?_
  refine xs (c == 3) (fun q2 => ?_) (fun q2 => ?_)
  ·have hc : c = 3 := by simpa using q2
   have hpk : packU P emax E ex c S q = if 1 ≤ q + emax + P - 1 ∧ q + emax + P - 1 < ((2 ^ E - 1 : Nat) : Int) then some (S % 2 ^ fracN P ex ||| (q + emax + P - 1).toNat * 2 ^ fracN P ex) else none := by unfold packU; rw [if_neg hc1, if_neg hc2, if_pos hc]
   have nope : ¬ (1 ≤ q + emax + P - 1 ∧ q + emax + P - 1 < ((2 ^ E - 1 : Nat) : Int)) → packR P emin emax W E ex c neg S q = (0, false) := fun hn => packU_none h (by rw [hpk, if_neg hn])
   have nope2 : ∀ x : Int, x = IntKind.i64.wrap (IntKind.i64.wrap (IntKind.i64.wrap (q + emax) + (P : Int)) - 1) → ¬ (1 ≤ x ∧ x < ((2 ^ E - 1 : Nat) : Int)) → packR P emin emax W E ex c neg S q = (0, false) := by
    intro x hx hn
    refine nope (fun z => ?_)
    rw [← hx] at wE
    omega
   refine xr [(1, [0]), (4, [2]), (8, [2])] [(10, .int .i64 (IntKind.wrap IntKind.i64 (IntKind.wrap IntKind.i64 (IntKind.wrap IntKind.i64 (q + emax) + (P : Int)) - 1)))] ?_
   refine SW_seq ?_
   refine xg ?_
   refine xn 4 [(1, [0])] [(46, .bool (decide (q < -1048576)))] ?_
   refine xk 46 (decide (q < -1048576)) (fun q3 => ?_) (fun q3 => ?_)
   ·refine xz [(14, [2])] [(60, .bool true)] ?_
    refine xs1 ?_
    refine xq [(1, [1])] [(5, .bool false)] [] ?_
    refine SW_ret ?_
    refine xe () (.tuple #[.agg #[.int .u64 0, .int .u64 0], .bool false]) [1] ?_ trivial
    have := of_decide_eq_true q3
    rw [nope (by omega)]
    rfl
   ·refine xn 9 [(5, [0])] [(51, .bool (decide (q > 1048576)))] ?_
    refine xk 51 (decide (q > 1048576)) (fun q4 => ?_) (fun q4 => ?_)
    ·refine xz [(14, [2])] [(60, .bool true)] ?_
     refine xs1 ?_
     refine xq [(1, [1])] [(5, .bool false)] [] ?_
     refine SW_ret ?_
     refine xe () (.tuple #[.agg #[.int .u64 0, .int .u64 0], .bool false]) [1] ?_ trivial
     have := of_decide_eq_true q4
     rw [nope (by omega)]
     rfl
    ·refine xn 13 [] [(55, .bool (decide (IntKind.wrap IntKind.i64 (IntKind.wrap IntKind.i64 (IntKind.wrap IntKind.i64 (q + emax) + (P : Int)) - 1) < 1)))] ?_
     refine xk 55 (decide (IntKind.wrap IntKind.i64 (IntKind.wrap IntKind.i64 (IntKind.wrap IntKind.i64 (q + emax) + (P : Int)) - 1) < 1)) (fun q5 => ?_) (fun q5 => ?_)
     ·refine xz [(14, [2])] [(60, .bool true)] ?_
      refine xs1 ?_
      refine xq [(1, [1])] [(5, .bool false)] [] ?_
      refine SW_ret ?_
      refine xe () (.tuple #[.agg #[.int .u64 0, .int .u64 0], .bool false]) [1] ?_ trivial
      rw [nope2 _ rfl (fun z => by have := of_decide_eq_true q5; omega)]
      rfl
     ·refine xn 15 [(14, [2])] [(57, .agg #[.int .i64 (P : Int), .int .i64 emin, .int .i64 emax, .int .i64 (W : Int), .int .i64 (E : Int), .bool ex]), (56, .int .i64 (IntKind.wrap IntKind.i64 (IntKind.wrap IntKind.i64 (IntKind.wrap IntKind.i64 (q + emax) + (P : Int)) - 1)))] ?_
      refine xcv 58 (ct_impl_layout_top h1) zs0 ?_
      refine xz [] [(60, .bool (decide (IntKind.wrap IntKind.i64 (IntKind.wrap IntKind.i64 (IntKind.wrap IntKind.i64 (q + emax) + (P : Int)) - 1) ≥ (((2 ^ E - 1) : Nat) : Int))))] ?_
      refine xs (decide (IntKind.wrap IntKind.i64 (IntKind.wrap IntKind.i64 (IntKind.wrap IntKind.i64 (q + emax) + (P : Int)) - 1) ≥ (((2 ^ E - 1) : Nat) : Int))) (fun q6 => ?_) (fun q6 => ?_)
      ·refine xq [(1, [1])] [(5, .bool false)] [] ?_
       refine SW_ret ?_
       refine xe () (.tuple #[.agg #[.int .u64 0, .int .u64 0], .bool false]) [1] ?_ trivial
       rw [nope2 _ rfl (fun z => by have := of_decide_eq_true q6; omega)]
       rfl
      ·have a1 := of_decide_eq_false q5
       have a2 := of_decide_eq_false q6
       have wE2 : IntKind.i64.wrap (IntKind.i64.wrap (IntKind.i64.wrap (q + emax) + (P : Int)) - 1) = q + emax + P - 1 := by
        rcases wE with e | e
        ·exact e
        ·exact absurd e.1 a1
       rw [wE2] at a1 a2
       have e3 : (q + emax + P - 1).toNat < 2 ^ E := by omega
       have nE : Wd 0 (IntKind.u64.wrap (IntKind.i64.wrap (IntKind.i64.wrap (IntKind.i64.wrap (q + emax) + (P : Int)) - 1))) (q + emax + P - 1).toNat := ⟨by unfold hiI; omega, by rw [wE2, wrap_u64_id (by omega)]; unfold loI; omega⟩
       have e4 : (q + emax + P - 1).toNat < B128 := Nat.lt_trans e3 (Nat.lt_of_le_of_lt hE15 (by decide))
       have mE : (q + emax + P - 1).toNat * 2 ^ fracN P ex % B128 = (q + emax + P - 1).toNat * 2 ^ fracN P ex := hmod _ e3
       have bE : (q + emax + P - 1).toNat * 2 ^ fracN P ex % B128 < B128 := Nat.mod_lt _ (by decide)
       have bS : S % 2 ^ fracN P ex < B128 := Nat.lt_of_le_of_lt (Nat.mod_le _ _) hS
       clear wE2 wE nope nope2
       refine SW_skip ?_
       refine SW_region ?_
       refine xn 3 [(1, [0])] [(64, .int .i64 (((fracN P ex) : Nat) : Int)), (63, .agg #[.int .u64 (hiI S), .int .u64 (loI S)])] ?_
       refine xcv 65 (ct_impl_Word_low (S) ((((fracN P ex) : Nat) : Int)) (fracN P ex) ⟨rfl⟩ (by omega) hS) zs0 ?_
       refine xn 8 [] [(69, .int .i64 (((fracN P ex) : Nat) : Int)), (68, .agg #[.int .u64 0, .int .u64 (IntKind.wrap IntKind.u64 (IntKind.wrap IntKind.i64 (IntKind.wrap IntKind.i64 (IntKind.wrap IntKind.i64 (q + emax) + (P : Int)) - 1)))])] ?_
       refine xcv 70 (ct_impl_Word_left (0) (IntKind.wrap IntKind.u64 (IntKind.wrap IntKind.i64 (IntKind.wrap IntKind.i64 (IntKind.wrap IntKind.i64 (q + emax) + (P : Int)) - 1))) (Int.toNat (q + emax + (P : Int) - 1)) nE ((((fracN P ex) : Nat) : Int)) (fracN P ex) ⟨rfl⟩ (by omega) e4) zs0 ?_
       refine xcv 71 (ct_impl_Word_or (hiI (S % 2 ^ fracN P ex)) (loI (S % 2 ^ fracN P ex)) (hiI (Int.toNat (q + emax + (P : Int) - 1) * 2 ^ fracN P ex % B128)) (loI (Int.toNat (q + emax + (P : Int) - 1) * 2 ^ fracN P ex % B128)) (S % 2 ^ fracN P ex) (Int.toNat (q + emax + (P : Int) - 1) * 2 ^ fracN P ex % B128) ⟨rfl, rfl⟩ ⟨rfl, rfl⟩ bS bE) zs0 ?_
       refine xy [(10, [3])] [] [(3, [.int .u64 (hiI (S % 2 ^ fracN P ex ||| Int.toNat (q + emax + (P : Int) - 1) * 2 ^ fracN P ex % B128)), .int .u64 (loI (S % 2 ^ fracN P ex ||| Int.toNat (q + emax + (P : Int) - 1) * 2 ^ fracN P ex % B128))])] ?_
       refine ⟨_, hlor _ _ bS bE, by rw [hpk, if_pos ⟨by omega, by omega⟩, mE], Weak.mk' (by kernel_rfl) rfl (zsS zi0 zs0)⟩
  have hc3 : c ≠ 3 := by simpa using q2
  refine SW_seq ?_
  refine xr [] [(72, .bool (c == 4))] ?_
  refine xs (c == 4) (fun q3 => ?_) (fun q3 => ?_)
  ·have hc : c = 4 := by simpa using q3
   have hpk : packU P emax E ex c S q = some (if ex = true then ((2 ^ E - 1) * 2 ^ fracN P ex ||| 2 ^ (P - 1)) else (2 ^ E - 1) * 2 ^ fracN P ex) := by unfold packU; rw [if_neg hc1, if_neg hc2, if_neg hc3, if_pos hc]
   have k5 : (c == 5) = false := by rw [hc]; rfl
   refine SW_skip ?_
   refine xst q3 ?_
   refine xg ?_
   refine xn 1 [(0, [2])] [(75, .agg #[.int .i64 (P : Int), .int .i64 emin, .int .i64 emax, .int .i64 (W : Int), .int .i64 (E : Int), .bool ex])] ?_
   refine xcv 76 (ct_impl_layout_top h1) zs0 ?_
   refine xn 5 [] [(79, .int .i64 (((fracN P ex) : Nat) : Int)), (78, .agg #[.int .u64 0, .int .u64 (IntKind.wrap IntKind.u64 (((2 ^ E - 1) : Nat) : Int))])] ?_
   refine xcv 80 (ct_impl_Word_left (0) (IntKind.wrap IntKind.u64 (((2 ^ E - 1) : Nat) : Int)) (2 ^ E - 1) wT ((((fracN P ex) : Nat) : Int)) (fracN P ex) ⟨rfl⟩ (by omega) eT) zs0 ?_
   refine xy [(6, [3])] [] [(3, [.int .u64 (hiI ((2 ^ E - 1) * 2 ^ fracN P ex % B128)), .int .u64 (loI ((2 ^ E - 1) * 2 ^ fracN P ex % B128))])] ?_
   refine SW_seq ?_
   refine xr [(2, [2])] [(83, .bool ex)] ?_
   refine xs (ex) (fun q4 => ?_) (fun q4 => ?_)
   ·refine xdl (fun hB => ?_)
    refine xdk [(0, [3]), (1, []), (2, []), (3, [2]), (4, [])] [(88, .int .i64 (IntKind.wrap IntKind.i64 ((P : Int) - 1))), (84, .agg #[.int .u64 (hiI ((2 ^ E - 1) * 2 ^ fracN P ex % B128)), .int .u64 (loI ((2 ^ E - 1) * 2 ^ fracN P ex % B128))])] hB ?_
    refine xdv 5 89 (ct_impl_one (IntKind.wrap IntKind.i64 ((P : Int) - 1)) (P - 1) nP1 (by omega)) zs0 ?_
    refine xdv 6 90 (ct_impl_Word_or (hiI ((2 ^ E - 1) * 2 ^ fracN P ex % B128)) (loI ((2 ^ E - 1) * 2 ^ fracN P ex % B128)) (hiI (2 ^ (P - 1))) (loI (2 ^ (P - 1))) ((2 ^ E - 1) * 2 ^ fracN P ex % B128) (2 ^ (P - 1)) ⟨rfl, rfl⟩ ⟨rfl, rfl⟩ bT b1) zs0 ?_
    refine xds 7 [3] [(3, [.int .u64 (hiI ((2 ^ E - 1) * 2 ^ fracN P ex % B128 ||| 2 ^ (P - 1))), .int .u64 (loI ((2 ^ E - 1) * 2 ^ fracN P ex % B128 ||| 2 ^ (P - 1)))])] ?_
    refine xdz ?_
    refine xr [(1, [0])] [(93, .bool (c == 5))] ?_
    refine xsf k5 ?_
    refine SW_skip ?_
    exact ⟨_, bT2, by rw [hpk, if_pos q4, mT], Weak.mk' (by kernel_rfl) rfl (zsS zi0 zs0)⟩
   ·refine SW_skip ?_
    refine xr [(1, [0])] [(93, .bool (c == 5))] ?_
    refine xsf k5 ?_
    refine SW_skip ?_
    exact ⟨_, bT, by rw [hpk, if_neg (by rw [q4]; decide), mT], Weak.mk' (by kernel_rfl) rfl (zsS zi0 zs0)⟩
  have hc4 : c ≠ 4 := by simpa using q3
  refine xrl [] [(72, .bool (c == 5))] ?_
  refine xs (c == 5) (fun q4 => ?_) (fun q4 => ?_)
  ·have hc : c = 5 := by simpa using q4
   have hpk : packU P emax E ex c S q = some ((if ex = true then ((2 ^ E - 1) * 2 ^ fracN P ex ||| 2 ^ (P - 1)) else (2 ^ E - 1) * 2 ^ fracN P ex) ||| 2 ^ (P - 2)) := by unfold packU; rw [if_neg hc1, if_neg hc2, if_neg hc3, if_neg hc4, if_pos hc]
   refine xg ?_
   refine xn 1 [(0, [2])] [(75, .agg #[.int .i64 (P : Int), .int .i64 emin, .int .i64 emax, .int .i64 (W : Int), .int .i64 (E : Int), .bool ex])] ?_
   refine xcv 76 (ct_impl_layout_top h1) zs0 ?_
   refine xn 5 [] [(79, .int .i64 (((fracN P ex) : Nat) : Int)), (78, .agg #[.int .u64 0, .int .u64 (IntKind.wrap IntKind.u64 (((2 ^ E - 1) : Nat) : Int))])] ?_
   refine xcv 80 (ct_impl_Word_left (0) (IntKind.wrap IntKind.u64 (((2 ^ E - 1) : Nat) : Int)) (2 ^ E - 1) wT ((((fracN P ex) : Nat) : Int)) (fracN P ex) ⟨rfl⟩ (by omega) eT) zs0 ?_
   refine xy [(6, [3])] [] [(3, [.int .u64 (hiI ((2 ^ E - 1) * 2 ^ fracN P ex % B128)), .int .u64 (loI ((2 ^ E - 1) * 2 ^ fracN P ex % B128))])] ?_
   refine SW_seq ?_
   refine xr [(2, [2])] [(83, .bool ex)] ?_
   refine xs (ex) (fun q5 => ?_) (fun q5 => ?_)
   ·refine xdl (fun hB => ?_)
    refine xdk [(0, [3]), (1, []), (2, []), (3, [2]), (4, [])] [(88, .int .i64 (IntKind.wrap IntKind.i64 ((P : Int) - 1))), (84, .agg #[.int .u64 (hiI ((2 ^ E - 1) * 2 ^ fracN P ex % B128)), .int .u64 (loI ((2 ^ E - 1) * 2 ^ fracN P ex % B128))])] hB ?_
    refine xdv 5 89 (ct_impl_one (IntKind.wrap IntKind.i64 ((P : Int) - 1)) (P - 1) nP1 (by omega)) zs0 ?_
    refine xdv 6 90 (ct_impl_Word_or (hiI ((2 ^ E - 1) * 2 ^ fracN P ex % B128)) (loI ((2 ^ E - 1) * 2 ^ fracN P ex % B128)) (hiI (2 ^ (P - 1))) (loI (2 ^ (P - 1))) ((2 ^ E - 1) * 2 ^ fracN P ex % B128) (2 ^ (P - 1)) ⟨rfl, rfl⟩ ⟨rfl, rfl⟩ bT b1) zs0 ?_
    refine xds 7 [3] [(3, [.int .u64 (hiI ((2 ^ E - 1) * 2 ^ fracN P ex % B128 ||| 2 ^ (P - 1))), .int .u64 (loI ((2 ^ E - 1) * 2 ^ fracN P ex % B128 ||| 2 ^ (P - 1)))])] ?_
    refine xdz ?_
    refine xr [(1, [0])] [(93, .bool (c == 5))] ?_
    refine xst q4 ?_
    refine xdl (fun hB => ?_)
    refine xdk [(0, [3]), (1, []), (2, []), (3, [2]), (4, [])] [(98, .int .i64 (IntKind.wrap IntKind.i64 ((P : Int) - 2))), (94, .agg #[.int .u64 (hiI ((2 ^ E - 1) * 2 ^ fracN P ex % B128 ||| 2 ^ (P - 1))), .int .u64 (loI ((2 ^ E - 1) * 2 ^ fracN P ex % B128 ||| 2 ^ (P - 1)))])] hB ?_
    refine xdv 5 99 (ct_impl_one (IntKind.wrap IntKind.i64 ((P : Int) - 2)) (P - 2) nP2 (by omega)) zs0 ?_
    refine xdv 6 100 (ct_impl_Word_or (hiI ((2 ^ E - 1) * 2 ^ fracN P ex % B128 ||| 2 ^ (P - 1))) (loI ((2 ^ E - 1) * 2 ^ fracN P ex % B128 ||| 2 ^ (P - 1))) (hiI (2 ^ (P - 2))) (loI (2 ^ (P - 2))) ((2 ^ E - 1) * 2 ^ fracN P ex % B128 ||| 2 ^ (P - 1)) (2 ^ (P - 2)) ⟨rfl, rfl⟩ ⟨rfl, rfl⟩ bT2 b2) zs0 ?_
    refine xds 7 [3] [(3, [.int .u64 (hiI ((2 ^ E - 1) * 2 ^ fracN P ex % B128 ||| 2 ^ (P - 1) ||| 2 ^ (P - 2))), .int .u64 (loI ((2 ^ E - 1) * 2 ^ fracN P ex % B128 ||| 2 ^ (P - 1) ||| 2 ^ (P - 2)))])] ?_
    refine xdz ?_
    exact ⟨_, hlor _ _ bT2 b2, by rw [hpk, if_pos q5, mT], Weak.mk' (by kernel_rfl) rfl (zsS zi0 zs0)⟩
   ·refine SW_skip ?_
    refine xr [(1, [0])] [(93, .bool (c == 5))] ?_
    refine xst q4 ?_
    refine xdl (fun hB => ?_)
    refine xdk [(0, [3]), (1, []), (2, []), (3, [2]), (4, [])] [(98, .int .i64 (IntKind.wrap IntKind.i64 ((P : Int) - 2))), (94, .agg #[.int .u64 (hiI ((2 ^ E - 1) * 2 ^ fracN P ex % B128)), .int .u64 (loI ((2 ^ E - 1) * 2 ^ fracN P ex % B128))])] hB ?_
    refine xdv 5 99 (ct_impl_one (IntKind.wrap IntKind.i64 ((P : Int) - 2)) (P - 2) nP2 (by omega)) zs0 ?_
    refine xdv 6 100 (ct_impl_Word_or (hiI ((2 ^ E - 1) * 2 ^ fracN P ex % B128)) (loI ((2 ^ E - 1) * 2 ^ fracN P ex % B128)) (hiI (2 ^ (P - 2))) (loI (2 ^ (P - 2))) ((2 ^ E - 1) * 2 ^ fracN P ex % B128) (2 ^ (P - 2)) ⟨rfl, rfl⟩ ⟨rfl, rfl⟩ bT b2) zs0 ?_
    refine xds 7 [3] [(3, [.int .u64 (hiI ((2 ^ E - 1) * 2 ^ fracN P ex % B128 ||| 2 ^ (P - 2))), .int .u64 (loI ((2 ^ E - 1) * 2 ^ fracN P ex % B128 ||| 2 ^ (P - 2)))])] ?_
    refine xdz ?_
    exact ⟨_, hlor _ _ bT b2, by rw [hpk, if_neg (by rw [q5]; decide), mT], Weak.mk' (by kernel_rfl) rfl (zsS zi0 zs0)⟩
  have hc5 : c ≠ 5 := by simpa using q4
  refine SW_skip ?_
  exact ⟨0, by decide, by unfold packU; rw [if_neg hc1, if_neg hc2, if_neg hc3, if_neg hc4, if_neg hc5], Weak.mk' (by kernel_rfl) rfl (zsS zi0 zs0)⟩
 ·rintro s' ⟨u, hu, hpu, hw⟩
  refine SW_weak hw ?_
  rw [packU_some h hpu]
  refine SW_cut (fun s' => Weak s' ⟨[(0, .int .i64 f), (3, .pointer (some ⟨g0, 0, none⟩)), (4, .pointer (some ⟨g1, 0, none⟩)), (9, .pointer (some ⟨g3, 0, none⟩))], [⟨g0, [.int .i64 c, .bool neg, .int .u64 (hiI S), .int .u64 (loI S), .int .i64 q], 27⟩, ⟨g1, [.int .u64 0, .int .u64 0], 25⟩, ⟨g2, [.int .i64 (P : Int), .int .i64 emin, .int .i64 emax, .int .i64 (W : Int), .int .i64 (E : Int), .bool ex], 91⟩, ⟨g3, [.int .u64 (hiI (if neg = true then u ||| 2 ^ (W - 1) else u)), .int .u64 (loI (if neg = true then u ||| 2 ^ (W - 1) else u))], 25⟩], [Tabled]⟩) ?_ ?_
  ·refine xr [(1, [0])] [(102, .bool neg)] ?_
   refine xs (neg) (fun q0 => ?_) (fun q0 => ?_)
   ·refine xdl (fun hB => ?_)
    refine xdk [(0, [3]), (1, []), (2, []), (3, [2]), (4, [])] [(107, .int .i64 (IntKind.wrap IntKind.i64 ((W : Int) - 1))), (103, .agg #[.int .u64 (hiI u), .int .u64 (loI u)])] hB ?_
    refine xdv 5 108 (ct_impl_one (IntKind.wrap IntKind.i64 ((W : Int) - 1)) (W - 1) nW1 (by omega)) zs0 ?_
    refine xdv 6 109 (ct_impl_Word_or (hiI u) (loI u) (hiI (2 ^ (W - 1))) (loI (2 ^ (W - 1))) (u) (2 ^ (W - 1)) ⟨rfl, rfl⟩ ⟨rfl, rfl⟩ hu b3) zs0 ?_
    refine xds 7 [3] [(3, [.int .u64 (hiI (u ||| 2 ^ (W - 1))), .int .u64 (loI (u ||| 2 ^ (W - 1)))])] ?_
    refine xdz ?_
    rw [if_pos q0]
    exact Weak.mk' (by kernel_rfl) rfl (zsS zi0 zs0)
   ·refine SW_skip ?_
    rw [if_neg (by rw [q0]; decide)]
    exact Weak.mk' (by kernel_rfl) rfl (zsS zi0 zs0)
  ·intro s' hw
   refine SW_weak hw ?_
   have hx : (if neg = true then u ||| 2 ^ (W - 1) else u) < B128 := by
    split
    ·exact hlor _ _ hu b3
    ·exact hu
   generalize (if neg = true then u ||| 2 ^ (W - 1) else u) = x at hx ⊢
   refine SW_seq ?_
   refine xd (fun hB => ?_)
   refine xdk [(0, []), (1, [3]), (3, [0])] [(113, .agg #[.int .i64 c, .bool neg, .int .u64 (hiI S), .int .u64 (loI S), .int .i64 q]), (111, .agg #[.int .u64 (hiI x), .int .u64 (loI x)]), (110, .int .i64 f)] hB ?_
   refine xdv 2 112 (ct_impl_Unpack h1 (f) hf (x) hx) (zsS zi0 zs0) ?_
   refine xdw 4 114 (.bool (!(((fun α β self => self.1) Int (Bool × Int × Int × Int) (unpN P emin emax W E ex x) == c) && (((fun α β self => self.1) Bool (Int × Int × Int) ((fun α β self => self.2) Int (Bool × Int × Int × Int) (unpN P emin emax W E ex x)) == neg) && ((((fun α β self => self.1) Int (Int × Int) ((fun α β self => self.2) Bool (Int × Int × Int) ((fun α β self => self.2) Int (Bool × Int × Int × Int) (unpN P emin emax W E ex x))) == hiI S) && ((fun α β self => self.1) Int Int ((fun α β self => self.2) Int (Int × Int) ((fun α β self => self.2) Bool (Int × Int × Int) ((fun α β self => self.2) Int (Bool × Int × Int × Int) (unpN P emin emax W E ex x)))) == loI S)) && ((fun α β self => self.2) Int Int ((fun α β self => self.2) Int (Int × Int) ((fun α β self => self.2) Bool (Int × Int × Int) ((fun α β self => self.2) Int (Bool × Int × Int × Int) (unpN P emin emax W E ex x)))) == q)))))) hB (fun w _ _ => run_neq rfl (by kernel_rfl) (by kernel_rfl) (by kernel_rfl) w (eq_parts _ _ _ _ _ _ _ _ _ _ _ w)) ?_
   refine xdz ?_
   refine xs (!((fun α β self => self.1) Int (Bool × Int × Int × Int) (unpN P emin emax W E ex x) == c && ((fun α β self => self.1) Bool (Int × Int × Int) ((fun α β self => self.2) Int (Bool × Int × Int × Int) (unpN P emin emax W E ex x)) == neg && ((fun α β self => self.1) Int (Int × Int) ((fun α β self => self.2) Bool (Int × Int × Int) ((fun α β self => self.2) Int (Bool × Int × Int × Int) (unpN P emin emax W E ex x))) == hiI S && (fun α β self => self.1) Int Int ((fun α β self => self.2) Int (Int × Int) ((fun α β self => self.2) Bool (Int × Int × Int) ((fun α β self => self.2) Int (Bool × Int × Int × Int) (unpN P emin emax W E ex x)))) == loI S && (fun α β self => self.2) Int Int ((fun α β self => self.2) Int (Int × Int) ((fun α β self => self.2) Bool (Int × Int × Int) ((fun α β self => self.2) Int (Bool × Int × Int × Int) (unpN P emin emax W E ex x)))) == q)))) (fun q0 => ?_) (fun q0 => ?_)
   ·refine xq [(1, [1])] [(5, .bool false)] [] ?_
    refine SW_ret ?_
    refine xe () (.tuple #[.agg #[.int .u64 0, .int .u64 0], .bool false]) [1] ?_ trivial
    rw [if_neg]
    ·rfl
    ·intro hu
     rw [hu] at q0
     simp at q0
   ·refine SW_skip ?_
    refine xq [(0, [3]), (1, [1])] [(5, .bool true)] [(1, [.int .u64 (hiI x), .int .u64 (loI x)])] ?_
    refine SW_ret ?_
    refine xe () (.tuple #[.agg #[.int .u64 (hiI x), .int .u64 (loI x)], .bool true]) [1] ?_ trivial
    rw [if_pos]
    have hq : (!eqb (unpN P emin emax W E ex x) (c, neg, hiI S, loI S, q)) = false := q0
    exact (eqb_iff _ _).1 (by simpa using hq)
end Go.Proofs.YtdbnmdchecacdaaDoor.M
end
section
namespace Go.Proofs.YtdbnmdchecacdaaDoor.M
open Go.RowKit Go.Proofs.YtdbnmdchecacdaaDoor.G Go.Proofs.YtdbnmdchecacdaaDoorV.PrintWords Go.Proofs.YtdbnmdchecacdaaDoorV.PrintLast Go.Proofs.YtdbnmdchecacdaaDoor.X
set_option linter.unusedVariables false
set_option linter.unusedSimpArgs false
theorem rd_limb (x i : Nat) : rd (ofN B64 x) (i : Int) = ((x / B64 ^ i % B64 : Nat) : Int) := by
 obtain ⟨d, n, v⟩ := ofN_spec B64_2 x
 have h1 := rd_val B64_pos d i
 have h2 := (d.rd B64_pos (i : Int)).1
 rw [v] at h1
 omega
theorem ofN_val_lt (x : Nat) (h : (ofN B64 x).length ≤ 1) : x < 18446744073709551616 := by
 obtain ⟨d, n, v⟩ := ofN_spec B64_2 x
 have h1 := val_lt d
 rw [v] at h1
 exact Nat.lt_of_lt_of_le h1 (Nat.le_trans (Nat.pow_le_pow_right B64_pos h) (by rw [Nat.pow_one]; decide))
theorem ct_impl_wordOf (x : Nat) (A : Option Addr) (c : Nat) (hx : x < B128) : CtV Tryd.prog 147 [.slice A (ofN B64 x).length c] [Row .u64 A c (ofN B64 x)] (.agg #[.int .u64 (hiI x), .int .u64 (loI x)]) := by
 refine ct_of Tryd.func147 rfl (by kernel_rfl) (fun B w0 => ?_)
 have hl2 : (ofN B64 x).length ≤ 2 := ofN_len B64_2 hx
 have h0 := ofN_zero B64_2 x
 by_cases hl : 0 < (ofN B64 x).length
 ·refine SW_know zi0 (fun w h => row_at h hl) (fun h => ?_)
  obtain ⟨ad, rfl⟩ := h
  have z1 : decide (((ofN B64 x).length : Int) > 0) = true := decide_eq_true (by omega)
  by_cases hl1 : 1 < (ofN B64 x).length
  ·have z2 : decide (((ofN B64 x).length : Int) > 1) = true := decide_eq_true (by omega)
   refine xg ?_
   refine xb 2 [.int .u64 0, .int .u64 0] 25 (fun g0 => ?_)
   refine xz [] [] ?_
   refine xg ?_
   refine xn 1 [] [(4, .agg #[.int .u64 0, .int .u64 0])] ?_
   refine xb 3 [.int .u64 0, .int .u64 0] 25 (fun g1 => ?_)
   refine xy [(2, [1])] [] [] ?_
   refine SW_seq ?_
   refine xr [] [(7, .bool (decide ((((List.length (ofN B64 x)) : Nat) : Int) > 0)))] ?_
   refine xst z1 ?_
   refine SW_region ?_
   refine xn 1 [] [(8, .slice (some ad) (List.length (ofN B64 x)) c)] ?_
   refine xfi 9 22 (ad) (List.length (ofN B64 x)) (c) 0 IntKind.i64 (0) ⟨rfl⟩ (by omega) ?_
   refine xfl 10 zi0 (0) (by omega) ?_
   refine xy [(4, [1])] [] [(1, [.int .u64 0, .int .u64 (rd (ofN B64 x) (0 : Int))])] ?_
   refine SW_seq ?_
   refine xr [] [(14, .bool (decide ((((List.length (ofN B64 x)) : Nat) : Int) > 1)))] ?_
   refine xst z2 ?_
   refine SW_region ?_
   refine xn 1 [] [(15, .slice (some ad) (List.length (ofN B64 x)) c)] ?_
   refine xfi 16 22 (ad) (List.length (ofN B64 x)) (c) 1 IntKind.i64 (1) ⟨rfl⟩ (by omega) ?_
   refine xfl 17 zi0 (1) (by omega) ?_
   refine xy [(4, [1])] [] [(1, [.int .u64 (rd (ofN B64 x) (1 : Int)), .int .u64 (rd (ofN B64 x) 0)])] ?_
   refine xq [(0, [1]), (1, [0])] [] [(0, [.int .u64 (rd (ofN B64 x) 1), .int .u64 (rd (ofN B64 x) 0)])] ?_
   refine SW_ret ?_
   refine xe () (.agg #[.int .u64 (rd (ofN B64 x) 1), .int .u64 (rd (ofN B64 x) 0)]) [0] ?_ trivial
   rw [show (1 : Int) = ((1 : Nat) : Int) from rfl, show (0 : Int) = ((0 : Nat) : Int) from rfl, rd_limb, rd_limb, Nat.pow_zero, Nat.div_one, Nat.pow_one]
   unfold hiI loI
   rw [show B64 = 18446744073709551616 from rfl, Nat.mod_eq_of_lt (a := x / 18446744073709551616) (by have : x < 340282366920938463463374607431768211456 := hx; omega)]
  ·have z2 : decide (((ofN B64 x).length : Int) > 1) = false := decide_eq_false (by omega)
   have h1 := ofN_val_lt x (show (ofN B64 x).length ≤ 1 by omega)
   refine xg ?_
   refine xb 2 [.int .u64 0, .int .u64 0] 25 (fun g0 => ?_)
   refine xz [] [] ?_
   refine xg ?_
   refine xn 1 [] [(4, .agg #[.int .u64 0, .int .u64 0])] ?_
   refine xb 3 [.int .u64 0, .int .u64 0] 25 (fun g1 => ?_)
   refine xy [(2, [1])] [] [] ?_
   refine SW_seq ?_
   refine xr [] [(7, .bool (decide ((((List.length (ofN B64 x)) : Nat) : Int) > 0)))] ?_
   refine xst z1 ?_
   refine SW_region ?_
   refine xn 1 [] [(8, .slice (some ad) (List.length (ofN B64 x)) c)] ?_
   refine xfi 9 22 (ad) (List.length (ofN B64 x)) (c) 0 IntKind.i64 (0) ⟨rfl⟩ (by omega) ?_
   refine xfl 10 zi0 (0) (by omega) ?_
   refine xy [(4, [1])] [] [(1, [.int .u64 0, .int .u64 (rd (ofN B64 x) (0 : Int))])] ?_
   refine SW_seq ?_
   refine xr [] [(14, .bool (decide ((((List.length (ofN B64 x)) : Nat) : Int) > 1)))] ?_
   refine xsf z2 ?_
   refine SW_skip ?_
   refine xq [(0, [1]), (1, [0])] [] [(0, [.int .u64 0, .int .u64 (rd (ofN B64 x) 0)])] ?_
   refine SW_ret ?_
   refine xe () (.agg #[.int .u64 0, .int .u64 (rd (ofN B64 x) 0)]) [0] ?_ trivial
   rw [show (0 : Int) = ((0 : Nat) : Int) from rfl, rd_limb, Nat.pow_zero, Nat.div_one]
   unfold hiI loI
   rw [show B64 = 18446744073709551616 from rfl, Nat.div_eq_of_lt h1]
 ·have z1 : decide (((ofN B64 x).length : Int) > 0) = false := decide_eq_false (by omega)
  have z2 : decide (((ofN B64 x).length : Int) > 1) = false := decide_eq_false (by omega)
  have hx0 : x = 0 := h0.1 (by omega)
  refine xg ?_
  refine xb 2 [.int .u64 0, .int .u64 0] 25 (fun g0 => ?_)
  refine xz [] [] ?_
  refine xg ?_
  refine xn 1 [] [(4, .agg #[.int .u64 0, .int .u64 0])] ?_
  refine xb 3 [.int .u64 0, .int .u64 0] 25 (fun g1 => ?_)
  refine xy [(2, [1])] [] [] ?_
  refine SW_seq ?_
  refine xr [] [(7, .bool (decide ((((List.length (ofN B64 x)) : Nat) : Int) > 0)))] ?_
  refine xsf z1 ?_
  refine SW_skip ?_
  refine SW_seq ?_
  refine xr [] [(14, .bool (decide ((((List.length (ofN B64 x)) : Nat) : Int) > 1)))] ?_
  refine xsf z2 ?_
  refine SW_skip ?_
  refine xq [(0, [1]), (1, [0])] [] [] ?_
  refine SW_ret ?_
  refine xe () (.agg #[.int .u64 0, .int .u64 0]) [0] ?_ trivial
  rw [hx0]
  rfl
end Go.Proofs.YtdbnmdchecacdaaDoor.M
end
section
namespace Go.Proofs.YtdbnmdchecacdaaDoor.M
open Go.RowKit Go.Proofs.YtdbnmdchecacdaaDoor.G Go.Proofs.YtdbnmdchecacdaaDoorV.PrintWords Go.Proofs.YtdbnmdchecacdaaDoorV.PrintLast Go.Proofs.YtdbnmdchecacdaaDoor.X
set_option linter.unusedVariables false
set_option linter.unusedSimpArgs false
theorem ct_impl_Pack' {P : Nat} {emin emax : Int} {W E : Nat} {ex : Bool} (h : Fmt2 P emin emax W E ex) (f : Int) (hf : impl_layoutOf.f f = some ((P : Int), emin, emax, (W : Int), (E : Int), ex, true)) (c : Int) (neg : Bool) (hi lo : Int) (S : Nat) (hw : Wd hi lo S) (hS : S < B128) (a q : Int) (hq : Zn a q) :
  CtV Tryd.prog 23 [.int .i64 f, .agg #[.int .i64 c, .bool neg, .int .u64 hi, .int .u64 lo, .int .i64 a]] [Tabled] (.tuple #[.agg #[.int .u64 (hiI (packR P emin emax W E ex c neg S q).1), .int .u64 (loI (packR P emin emax W E ex c neg S q).1)], .bool (packR P emin emax W E ex c neg S q).2]) := by
 obtain ⟨rfl, rfl⟩ := hw
 obtain ⟨rfl, h1, h2⟩ := hq
 exact ct_impl_Pack h f hf c neg S hS _ ⟨h1, h2⟩
abbrev rndV (P : Nat) (emin emax : Int) (W E : Nat) (ex : Bool) (f : Int) (neg : Bool) : Value := .agg #[.int .i64 P, .int .i64 emin, .int .i64 emax, .int .i64 W, .int .i64 E, .bool ex, .int .i64 f, .bool neg]
theorem ct_impl_rounding_packed {P : Nat} {emin emax : Int} {W E : Nat} {ex : Bool} (h : Fmt2 P emin emax W E ex) (f : Int) (hf : impl_layoutOf.f f = some ((P : Int), emin, emax, (W : Int), (E : Int), ex, true)) (neg : Bool) (c : Int) (S : Nat) (A : Option Addr) (k : Nat) (hS : S < B128) (a q : Int) (hq : Zn a q) :
  CtV Tryd.prog 127 [rndV P emin emax W E ex f neg, .int .i64 c, .slice A (ofN B64 S).length k, .int .i64 a] [Tabled, Row .u64 A k (ofN B64 S)] (.agg #[.int .u64 (hiI (packR P emin emax W E ex c neg S q).1), .int .u64 (loI (packR P emin emax W E ex c neg S q).1)]) := by
 refine ct_of Tryd.func127 rfl (by kernel_rfl) (fun B w0 => ?_)
 refine xg ?_
 refine xb 4 [.int .i64 (P : Int), .int .i64 emin, .int .i64 emax, .int .i64 (W : Int), .int .i64 (E : Int), .bool ex, .int .i64 f, .bool neg] 114 (fun g0 => ?_)
 refine xb 8 [.int .u64 0, .int .u64 0] 25 (fun g1 => ?_)
 refine xz [] [] ?_
 refine xd (fun hB => ?_)
 refine xdk [(0, []), (1, [0]), (2, []), (3, []), (4, [0]), (5, []), (7, [])] [(19, .int .i64 a), (17, .slice A (List.length (ofN B64 S)) k), (16, .bool neg), (14, .int .i64 c), (13, .int .i64 f)] hB ?_
 refine xd2 6 13 ?_ ?_
 ·refine xev 18 (ct_impl_wordOf (S) (A) (k) hS) (zsS (ziS zi0) zs0) ?_
  refine xdk [(8, [])] [(20, .agg #[.int .i64 c, .bool neg, .int .u64 (hiI S), .int .u64 (loI S), .int .i64 a])] hB ?_
  refine xd2 9 13 ?_ ?_
  ·refine xev 21 (ct_impl_Pack' h (f) hf (c) (neg) (hiI S) (loI S) (S) ⟨rfl, rfl⟩ hS (a) (q) hq) (zsS zi0 zs0) ?_
   refine xdk [(10, []), (11, []), (12, [])] [(23, .bool (Prod.snd (packR P emin emax W E ex c neg S q))), (22, .agg #[.int .u64 (hiI (Prod.fst (packR P emin emax W E ex c neg S q))), .int .u64 (loI (Prod.fst (packR P emin emax W E ex c neg S q)))])] hB ?_
   refine xdb 13 9 [.int .u64 0, .int .u64 0] 25 (fun g2 => ?_)
   refine xds 14 [2] [(2, [.int .u64 (hiI (Prod.fst (packR P emin emax W E ex c neg S q))), .int .u64 (loI (Prod.fst (packR P emin emax W E ex c neg S q)))])] ?_
   refine xdk [(15, [])] [] hB ?_
   refine xdz ?_
   refine xq [(0, [2]), (1, [1])] [] [(1, [.int .u64 (hiI (Prod.fst (packR P emin emax W E ex c neg S q))), .int .u64 (loI (Prod.fst (packR P emin emax W E ex c neg S q)))])] ?_
   refine SW_ret ?_
   refine xe () (.agg #[.int .u64 (hiI (Prod.fst (packR P emin emax W E ex c neg S q))), .int .u64 (loI (Prod.fst (packR P emin emax W E ex c neg S q)))]) [1] ?_ trivial
   rfl
  ·refine xen 9 [.int .u64 0, .int .u64 0] 25 (fun g2 => ?_)
   refine xdv 9 21 (ct_impl_Pack' h (f) hf (c) (neg) (hiI S) (loI S) (S) ⟨rfl, rfl⟩ hS (a) (q) hq) (zsS zi0 zs0) ?_
   refine xdk [(10, []), (11, []), (12, [])] [(23, .bool (Prod.snd (packR P emin emax W E ex c neg S q))), (22, .agg #[.int .u64 (hiI (Prod.fst (packR P emin emax W E ex c neg S q))), .int .u64 (loI (Prod.fst (packR P emin emax W E ex c neg S q)))])] hB ?_
   refine xds 14 [2] [(2, [.int .u64 (hiI (Prod.fst (packR P emin emax W E ex c neg S q))), .int .u64 (loI (Prod.fst (packR P emin emax W E ex c neg S q)))])] ?_
   refine xdk [(15, [])] [] hB ?_
   refine xdz ?_
   refine xq [(0, [2]), (1, [1])] [] [(1, [.int .u64 (hiI (Prod.fst (packR P emin emax W E ex c neg S q))), .int .u64 (loI (Prod.fst (packR P emin emax W E ex c neg S q)))])] ?_
   refine SW_ret ?_
   refine xe () (.agg #[.int .u64 (hiI (Prod.fst (packR P emin emax W E ex c neg S q))), .int .u64 (loI (Prod.fst (packR P emin emax W E ex c neg S q)))]) [1] ?_ trivial
   rfl
 ·refine xen 9 [.int .u64 0, .int .u64 0] 25 (fun g2 => ?_)
  refine xdv 6 18 (ct_impl_wordOf (S) (A) (k) hS) (zsS (ziS zi0) zs0) ?_
  refine xdk [(8, [])] [(20, .agg #[.int .i64 c, .bool neg, .int .u64 (hiI S), .int .u64 (loI S), .int .i64 a])] hB ?_
  refine xdv 9 21 (ct_impl_Pack' h (f) hf (c) (neg) (hiI S) (loI S) (S) ⟨rfl, rfl⟩ hS (a) (q) hq) (zsS zi0 zs0) ?_
  refine xdk [(10, []), (11, []), (12, [])] [(23, .bool (Prod.snd (packR P emin emax W E ex c neg S q))), (22, .agg #[.int .u64 (hiI (Prod.fst (packR P emin emax W E ex c neg S q))), .int .u64 (loI (Prod.fst (packR P emin emax W E ex c neg S q)))])] hB ?_
  refine xds 14 [2] [(2, [.int .u64 (hiI (Prod.fst (packR P emin emax W E ex c neg S q))), .int .u64 (loI (Prod.fst (packR P emin emax W E ex c neg S q)))])] ?_
  refine xdk [(15, [])] [] hB ?_
  refine xdz ?_
  refine xq [(0, [2]), (1, [1])] [] [(1, [.int .u64 (hiI (Prod.fst (packR P emin emax W E ex c neg S q))), .int .u64 (loI (Prod.fst (packR P emin emax W E ex c neg S q)))])] ?_
  refine SW_ret ?_
  refine xe () (.agg #[.int .u64 (hiI (Prod.fst (packR P emin emax W E ex c neg S q))), .int .u64 (loI (Prod.fst (packR P emin emax W E ex c neg S q)))]) [1] ?_ trivial
  rfl
theorem ct_impl_rounding_packed' {P : Nat} {emin emax : Int} {W E : Nat} {ex : Bool} (h : Fmt2 P emin emax W E ex) (f : Int) (hf : impl_layoutOf.f f = some ((P : Int), emin, emax, (W : Int), (E : Int), ex, true)) (neg : Bool) (c : Int) (a q : Int) (hq : Zn a q) :
  CtV Tryd.prog 127 [rndV P emin emax W E ex f neg, .int .i64 c, .slice none 0 0, .int .i64 a] [Tabled] (.agg #[.int .u64 (hiI (packR P emin emax W E ex c neg 0 q).1), .int .u64 (loI (packR P emin emax W E ex c neg 0 q).1)]) := by
 have := ct_impl_rounding_packed h f hf neg c 0 none 0 (by decide) a q hq
 rw [ofN_nil B64_2] at this
 intro B w hB hp
 exact this B w hB (fun F hF => by
  rcases List.mem_cons.1 hF with rfl | hF
  ·exact hp _ (List.mem_cons_self ..)
  ·rw [List.mem_singleton.1 hF]
   exact fun W' _ => Row_nil .u64 0 W')
theorem ct_impl_rounding_greatest {P : Nat} {emin emax : Int} {W E : Nat} {ex : Bool} (h : Fmt2 P emin emax W E ex) (f : Int) (hf : impl_layoutOf.f f = some ((P : Int), emin, emax, (W : Int), (E : Int), ex, true)) (neg : Bool) :
  CtV Tryd.prog 130 [rndV P emin emax W E ex f neg] [Tabled] (.agg #[.int .u64 (hiI (packR P emin emax W E ex 3 neg (2 ^ P - 1) (emax - P + 1)).1), .int .u64 (loI (packR P emin emax W E ex 3 neg (2 ^ P - 1) (emax - P + 1)).1)]) := by
 have p1 := h.p1
 have m1 := h.m1
 have b128 : 2 ^ P < B128 := Nat.pow_lt_pow_right (a := 2) (n := 128) (by decide) (by omega)
 have sP : Sm (2 ^ P) := sm128 (Nat.lt_of_lt_of_le b128 (by decide))
 have sP1 : Sm (1 * 2 ^ P) := by rw [Nat.one_mul]; exact sP
 have s1 : Sm 1 := sm128 (by decide)
 have h1P : 1 ≤ 2 ^ P := Nat.pow_pos (by decide)
 have h1P1 : 1 ≤ 1 * 2 ^ P := by omega
 have bl : 1 * 2 ^ P - 1 < B128 := by omega
 have zp : Zn (IntKind.i64.wrap (IntKind.i64.wrap (emax - P) + 1)) (emax - P + 1) := by rw [wsi (x := emax - P) (by omega)]; exact Zn.wrap rfl (by omega)
 rw [show 2 ^ P - 1 = 1 * 2 ^ P - 1 by omega]
 refine ct_of Tryd.func130 rfl (by kernel_rfl) (fun B w0 => ?_)
 refine xg ?_
 refine xb 1 [.int .i64 (P : Int), .int .i64 emin, .int .i64 emax, .int .i64 (W : Int), .int .i64 (E : Int), .bool ex, .int .i64 f, .bool neg] 114 (fun g0 => ?_)
 refine xb 2 [.int .u64 0, .int .u64 0] 25 (fun g1 => ?_)
 refine xz [] [] ?_
 refine xd (fun hB => ?_)
 refine xdk [(0, []), (1, [0]), (2, []), (3, [0]), (5, []), (6, []), (7, []), (8, [0]), (13, []), (14, []), (15, []), (16, [0]), (17, []), (18, []), (19, []), (20, [0]), (21, []), (22, [])] [(28, .int .i64 (IntKind.wrap IntKind.i64 (IntKind.wrap IntKind.i64 (emax - (P : Int)) + 1))), (14, .int .i64 (P : Int)), (9, .bool neg), (7, .int .i64 f)] hB ?_
 refine xd2 4 28 ?_ ?_
 ·refine xer 10 (ct_impl_word (1) (1) ⟨rfl⟩ (by omega)) zs0 (fun A0 k0 => ?_)
  refine xd2 9 28 ?_ ?_
  ·refine xer 15 (ct_impl_nat_left (1) (A0) (k0) ((P : Int)) (P) ⟨rfl⟩ (by omega) s1) (zsS zi0 zs0) (fun A1 k1 => ?_)
   refine xd2 10 28 ?_ ?_
   ·refine xer 16 (ct_impl_word (1) (1) ⟨rfl⟩ (by omega)) zs0 (fun A2 k2 => ?_)
    refine xd2 11 28 ?_ ?_
    ·refine xer 17 (ct_impl_nat_sub (1 * 2 ^ P) (1) (A1) (A2) (k1) (k2) sP1 h1P1) (zsS (ziS zi0) (zsS zi0 zs0)) (fun A3 k3 => ?_)
     refine xd2 12 28 ?_ ?_
     ·refine xev 18 (ct_impl_wordOf (1 * 2 ^ P - 1) (A3) (k3) bl) (zsS zi0 zs0) ?_
      refine xdk [(23, [])] [(29, .agg #[.int .i64 3, .bool neg, .int .u64 (hiI (1 * 2 ^ P - 1)), .int .u64 (loI (1 * 2 ^ P - 1)), .int .i64 (IntKind.wrap IntKind.i64 (IntKind.wrap IntKind.i64 (emax - (P : Int)) + 1))])] hB ?_
      refine xd2 24 28 ?_ ?_
      ·refine xev 30 (ct_impl_Pack' h (f) hf (3) (neg) (hiI (1 * 2 ^ P - 1)) (loI (1 * 2 ^ P - 1)) (1 * 2 ^ P - 1) ⟨rfl, rfl⟩ bl (IntKind.wrap IntKind.i64 (IntKind.wrap IntKind.i64 (emax - (P : Int)) + 1)) (emax - (P : Int) + 1) zp) (zsS (ziS (ziS (ziS (ziS zi0)))) zs0) ?_
       refine xdk [(25, []), (26, []), (27, [])] [(32, .bool (Prod.snd (packR P emin emax W E ex 3 neg (1 * 2 ^ P - 1) (emax - (P : Int) + 1)))), (31, .agg #[.int .u64 (hiI (Prod.fst (packR P emin emax W E ex 3 neg (1 * 2 ^ P - 1) (emax - (P : Int) + 1)))), .int .u64 (loI (Prod.fst (packR P emin emax W E ex 3 neg (1 * 2 ^ P - 1) (emax - (P : Int) + 1))))])] hB ?_
       refine xdb 28 3 [.int .u64 0, .int .u64 0] 25 (fun g2 => ?_)
       refine xds 29 [2] [(2, [.int .u64 (hiI (Prod.fst (packR P emin emax W E ex 3 neg (1 * 2 ^ P - 1) (emax - (P : Int) + 1)))), .int .u64 (loI (Prod.fst (packR P emin emax W E ex 3 neg (1 * 2 ^ P - 1) (emax - (P : Int) + 1))))])] ?_
       refine xdk [(30, [])] [] hB ?_
       refine xdz ?_
       refine xq [(0, [2]), (1, [1])] [] [(1, [.int .u64 (hiI (Prod.fst (packR P emin emax W E ex 3 neg (1 * 2 ^ P - 1) (emax - (P : Int) + 1)))), .int .u64 (loI (Prod.fst (packR P emin emax W E ex 3 neg (1 * 2 ^ P - 1) (emax - (P : Int) + 1))))])] ?_
       refine SW_ret ?_
       refine xe () (.agg #[.int .u64 (hiI (Prod.fst (packR P emin emax W E ex 3 neg (1 * 2 ^ P - 1) (emax - (P : Int) + 1)))), .int .u64 (loI (Prod.fst (packR P emin emax W E ex 3 neg (1 * 2 ^ P - 1) (emax - (P : Int) + 1))))]) [1] ?_ trivial
       rfl
      ·refine xen 3 [.int .u64 0, .int .u64 0] 25 (fun g2 => ?_)
       refine xdv 24 30 (ct_impl_Pack' h (f) hf (3) (neg) (hiI (1 * 2 ^ P - 1)) (loI (1 * 2 ^ P - 1)) (1 * 2 ^ P - 1) ⟨rfl, rfl⟩ bl (IntKind.wrap IntKind.i64 (IntKind.wrap IntKind.i64 (emax - (P : Int)) + 1)) (emax - (P : Int) + 1) zp) (zsS (ziS (ziS (ziS (ziS zi0)))) zs0) ?_
       refine xdk [(25, []), (26, []), (27, [])] [(32, .bool (Prod.snd (packR P emin emax W E ex 3 neg (1 * 2 ^ P - 1) (emax - (P : Int) + 1)))), (31, .agg #[.int .u64 (hiI (Prod.fst (packR P emin emax W E ex 3 neg (1 * 2 ^ P - 1) (emax - (P : Int) + 1)))), .int .u64 (loI (Prod.fst (packR P emin emax W E ex 3 neg (1 * 2 ^ P - 1) (emax - (P : Int) + 1))))])] hB ?_
       refine xds 29 [2] [(2, [.int .u64 (hiI (Prod.fst (packR P emin emax W E ex 3 neg (1 * 2 ^ P - 1) (emax - (P : Int) + 1)))), .int .u64 (loI (Prod.fst (packR P emin emax W E ex 3 neg (1 * 2 ^ P - 1) (emax - (P : Int) + 1))))])] ?_
       refine xdk [(30, [])] [] hB ?_
       refine xdz ?_
       refine xq [(0, [2]), (1, [1])] [] [(1, [.int .u64 (hiI (Prod.fst (packR P emin emax W E ex 3 neg (1 * 2 ^ P - 1) (emax - (P : Int) + 1)))), .int .u64 (loI (Prod.fst (packR P emin emax W E ex 3 neg (1 * 2 ^ P - 1) (emax - (P : Int) + 1))))])] ?_
       refine SW_ret ?_
       refine xe () (.agg #[.int .u64 (hiI (Prod.fst (packR P emin emax W E ex 3 neg (1 * 2 ^ P - 1) (emax - (P : Int) + 1)))), .int .u64 (loI (Prod.fst (packR P emin emax W E ex 3 neg (1 * 2 ^ P - 1) (emax - (P : Int) + 1))))]) [1] ?_ trivial
       rfl
     ·refine xen 3 [.int .u64 0, .int .u64 0] 25 (fun g2 => ?_)
      refine xdv 12 18 (ct_impl_wordOf (1 * 2 ^ P - 1) (A3) (k3) bl) (zsS zi0 zs0) ?_
      refine xdk [(23, [])] [(29, .agg #[.int .i64 3, .bool neg, .int .u64 (hiI (1 * 2 ^ P - 1)), .int .u64 (loI (1 * 2 ^ P - 1)), .int .i64 (IntKind.wrap IntKind.i64 (IntKind.wrap IntKind.i64 (emax - (P : Int)) + 1))])] hB ?_
      refine xdv 24 30 (ct_impl_Pack' h (f) hf (3) (neg) (hiI (1 * 2 ^ P - 1)) (loI (1 * 2 ^ P - 1)) (1 * 2 ^ P - 1) ⟨rfl, rfl⟩ bl (IntKind.wrap IntKind.i64 (IntKind.wrap IntKind.i64 (emax - (P : Int)) + 1)) (emax - (P : Int) + 1) zp) (zsS (ziS (ziS (ziS (ziS zi0)))) zs0) ?_
      refine xdk [(25, []), (26, []), (27, [])] [(32, .bool (Prod.snd (packR P emin emax W E ex 3 neg (1 * 2 ^ P - 1) (emax - (P : Int) + 1)))), (31, .agg #[.int .u64 (hiI (Prod.fst (packR P emin emax W E ex 3 neg (1 * 2 ^ P - 1) (emax - (P : Int) + 1)))), .int .u64 (loI (Prod.fst (packR P emin emax W E ex 3 neg (1 * 2 ^ P - 1) (emax - (P : Int) + 1))))])] hB ?_
      refine xds 29 [2] [(2, [.int .u64 (hiI (Prod.fst (packR P emin emax W E ex 3 neg (1 * 2 ^ P - 1) (emax - (P : Int) + 1)))), .int .u64 (loI (Prod.fst (packR P emin emax W E ex 3 neg (1 * 2 ^ P - 1) (emax - (P : Int) + 1))))])] ?_
      refine xdk [(30, [])] [] hB ?_
      refine xdz ?_
      refine xq [(0, [2]), (1, [1])] [] [(1, [.int .u64 (hiI (Prod.fst (packR P emin emax W E ex 3 neg (1 * 2 ^ P - 1) (emax - (P : Int) + 1)))), .int .u64 (loI (Prod.fst (packR P emin emax W E ex 3 neg (1 * 2 ^ P - 1) (emax - (P : Int) + 1))))])] ?_
      refine SW_ret ?_
      refine xe () (.agg #[.int .u64 (hiI (Prod.fst (packR P emin emax W E ex 3 neg (1 * 2 ^ P - 1) (emax - (P : Int) + 1)))), .int .u64 (loI (Prod.fst (packR P emin emax W E ex 3 neg (1 * 2 ^ P - 1) (emax - (P : Int) + 1))))]) [1] ?_ trivial
      rfl
    ·refine xen 3 [.int .u64 0, .int .u64 0] 25 (fun g2 => ?_)
     refine xdr 11 17 (ct_impl_nat_sub (1 * 2 ^ P) (1) (A1) (A2) (k1) (k2) sP1 h1P1) (zsS (ziS zi0) (zsS zi0 zs0)) (fun A3 k3 => ?_)
     refine xdv 12 18 (ct_impl_wordOf (1 * 2 ^ P - 1) (A3) (k3) bl) (zsS zi0 zs0) ?_
     refine xdk [(23, [])] [(29, .agg #[.int .i64 3, .bool neg, .int .u64 (hiI (1 * 2 ^ P - 1)), .int .u64 (loI (1 * 2 ^ P - 1)), .int .i64 (IntKind.wrap IntKind.i64 (IntKind.wrap IntKind.i64 (emax - (P : Int)) + 1))])] hB ?_
     refine xdv 24 30 (ct_impl_Pack' h (f) hf (3) (neg) (hiI (1 * 2 ^ P - 1)) (loI (1 * 2 ^ P - 1)) (1 * 2 ^ P - 1) ⟨rfl, rfl⟩ bl (IntKind.wrap IntKind.i64 (IntKind.wrap IntKind.i64 (emax - (P : Int)) + 1)) (emax - (P : Int) + 1) zp) (zsS (ziS (ziS (ziS (ziS zi0)))) zs0) ?_
     refine xdk [(25, []), (26, []), (27, [])] [(32, .bool (Prod.snd (packR P emin emax W E ex 3 neg (1 * 2 ^ P - 1) (emax - (P : Int) + 1)))), (31, .agg #[.int .u64 (hiI (Prod.fst (packR P emin emax W E ex 3 neg (1 * 2 ^ P - 1) (emax - (P : Int) + 1)))), .int .u64 (loI (Prod.fst (packR P emin emax W E ex 3 neg (1 * 2 ^ P - 1) (emax - (P : Int) + 1))))])] hB ?_
     refine xds 29 [2] [(2, [.int .u64 (hiI (Prod.fst (packR P emin emax W E ex 3 neg (1 * 2 ^ P - 1) (emax - (P : Int) + 1)))), .int .u64 (loI (Prod.fst (packR P emin emax W E ex 3 neg (1 * 2 ^ P - 1) (emax - (P : Int) + 1))))])] ?_
     refine xdk [(30, [])] [] hB ?_
     refine xdz ?_
     refine xq [(0, [2]), (1, [1])] [] [(1, [.int .u64 (hiI (Prod.fst (packR P emin emax W E ex 3 neg (1 * 2 ^ P - 1) (emax - (P : Int) + 1)))), .int .u64 (loI (Prod.fst (packR P emin emax W E ex 3 neg (1 * 2 ^ P - 1) (emax - (P : Int) + 1))))])] ?_
     refine SW_ret ?_
     refine xe () (.agg #[.int .u64 (hiI (Prod.fst (packR P emin emax W E ex 3 neg (1 * 2 ^ P - 1) (emax - (P : Int) + 1)))), .int .u64 (loI (Prod.fst (packR P emin emax W E ex 3 neg (1 * 2 ^ P - 1) (emax - (P : Int) + 1))))]) [1] ?_ trivial
     rfl
   ·refine xen 3 [.int .u64 0, .int .u64 0] 25 (fun g2 => ?_)
    refine xdr 10 16 (ct_impl_word (1) (1) ⟨rfl⟩ (by omega)) zs0 (fun A2 k2 => ?_)
    refine xdr 11 17 (ct_impl_nat_sub (1 * 2 ^ P) (1) (A1) (A2) (k1) (k2) sP1 h1P1) (zsS (ziS zi0) (zsS zi0 zs0)) (fun A3 k3 => ?_)
    refine xdv 12 18 (ct_impl_wordOf (1 * 2 ^ P - 1) (A3) (k3) bl) (zsS zi0 zs0) ?_
    refine xdk [(23, [])] [(29, .agg #[.int .i64 3, .bool neg, .int .u64 (hiI (1 * 2 ^ P - 1)), .int .u64 (loI (1 * 2 ^ P - 1)), .int .i64 (IntKind.wrap IntKind.i64 (IntKind.wrap IntKind.i64 (emax - (P : Int)) + 1))])] hB ?_
    refine xdv 24 30 (ct_impl_Pack' h (f) hf (3) (neg) (hiI (1 * 2 ^ P - 1)) (loI (1 * 2 ^ P - 1)) (1 * 2 ^ P - 1) ⟨rfl, rfl⟩ bl (IntKind.wrap IntKind.i64 (IntKind.wrap IntKind.i64 (emax - (P : Int)) + 1)) (emax - (P : Int) + 1) zp) (zsS (ziS (ziS (ziS (ziS zi0)))) zs0) ?_
    refine xdk [(25, []), (26, []), (27, [])] [(32, .bool (Prod.snd (packR P emin emax W E ex 3 neg (1 * 2 ^ P - 1) (emax - (P : Int) + 1)))), (31, .agg #[.int .u64 (hiI (Prod.fst (packR P emin emax W E ex 3 neg (1 * 2 ^ P - 1) (emax - (P : Int) + 1)))), .int .u64 (loI (Prod.fst (packR P emin emax W E ex 3 neg (1 * 2 ^ P - 1) (emax - (P : Int) + 1))))])] hB ?_
    refine xds 29 [2] [(2, [.int .u64 (hiI (Prod.fst (packR P emin emax W E ex 3 neg (1 * 2 ^ P - 1) (emax - (P : Int) + 1)))), .int .u64 (loI (Prod.fst (packR P emin emax W E ex 3 neg (1 * 2 ^ P - 1) (emax - (P : Int) + 1))))])] ?_
    refine xdk [(30, [])] [] hB ?_
    refine xdz ?_
    refine xq [(0, [2]), (1, [1])] [] [(1, [.int .u64 (hiI (Prod.fst (packR P emin emax W E ex 3 neg (1 * 2 ^ P - 1) (emax - (P : Int) + 1)))), .int .u64 (loI (Prod.fst (packR P emin emax W E ex 3 neg (1 * 2 ^ P - 1) (emax - (P : Int) + 1))))])] ?_
    refine SW_ret ?_
    refine xe () (.agg #[.int .u64 (hiI (Prod.fst (packR P emin emax W E ex 3 neg (1 * 2 ^ P - 1) (emax - (P : Int) + 1)))), .int .u64 (loI (Prod.fst (packR P emin emax W E ex 3 neg (1 * 2 ^ P - 1) (emax - (P : Int) + 1))))]) [1] ?_ trivial
    rfl
  ·refine xen 3 [.int .u64 0, .int .u64 0] 25 (fun g2 => ?_)
   refine xdr 9 15 (ct_impl_nat_left (1) (A0) (k0) ((P : Int)) (P) ⟨rfl⟩ (by omega) s1) (zsS zi0 zs0) (fun A1 k1 => ?_)
   refine xdr 10 16 (ct_impl_word (1) (1) ⟨rfl⟩ (by omega)) zs0 (fun A2 k2 => ?_)
   refine xdr 11 17 (ct_impl_nat_sub (1 * 2 ^ P) (1) (A1) (A2) (k1) (k2) sP1 h1P1) (zsS (ziS zi0) (zsS zi0 zs0)) (fun A3 k3 => ?_)
   refine xdv 12 18 (ct_impl_wordOf (1 * 2 ^ P - 1) (A3) (k3) bl) (zsS zi0 zs0) ?_
   refine xdk [(23, [])] [(29, .agg #[.int .i64 3, .bool neg, .int .u64 (hiI (1 * 2 ^ P - 1)), .int .u64 (loI (1 * 2 ^ P - 1)), .int .i64 (IntKind.wrap IntKind.i64 (IntKind.wrap IntKind.i64 (emax - (P : Int)) + 1))])] hB ?_
   refine xdv 24 30 (ct_impl_Pack' h (f) hf (3) (neg) (hiI (1 * 2 ^ P - 1)) (loI (1 * 2 ^ P - 1)) (1 * 2 ^ P - 1) ⟨rfl, rfl⟩ bl (IntKind.wrap IntKind.i64 (IntKind.wrap IntKind.i64 (emax - (P : Int)) + 1)) (emax - (P : Int) + 1) zp) (zsS (ziS (ziS (ziS (ziS zi0)))) zs0) ?_
   refine xdk [(25, []), (26, []), (27, [])] [(32, .bool (Prod.snd (packR P emin emax W E ex 3 neg (1 * 2 ^ P - 1) (emax - (P : Int) + 1)))), (31, .agg #[.int .u64 (hiI (Prod.fst (packR P emin emax W E ex 3 neg (1 * 2 ^ P - 1) (emax - (P : Int) + 1)))), .int .u64 (loI (Prod.fst (packR P emin emax W E ex 3 neg (1 * 2 ^ P - 1) (emax - (P : Int) + 1))))])] hB ?_
   refine xds 29 [2] [(2, [.int .u64 (hiI (Prod.fst (packR P emin emax W E ex 3 neg (1 * 2 ^ P - 1) (emax - (P : Int) + 1)))), .int .u64 (loI (Prod.fst (packR P emin emax W E ex 3 neg (1 * 2 ^ P - 1) (emax - (P : Int) + 1))))])] ?_
   refine xdk [(30, [])] [] hB ?_
   refine xdz ?_
   refine xq [(0, [2]), (1, [1])] [] [(1, [.int .u64 (hiI (Prod.fst (packR P emin emax W E ex 3 neg (1 * 2 ^ P - 1) (emax - (P : Int) + 1)))), .int .u64 (loI (Prod.fst (packR P emin emax W E ex 3 neg (1 * 2 ^ P - 1) (emax - (P : Int) + 1))))])] ?_
   refine SW_ret ?_
   refine xe () (.agg #[.int .u64 (hiI (Prod.fst (packR P emin emax W E ex 3 neg (1 * 2 ^ P - 1) (emax - (P : Int) + 1)))), .int .u64 (loI (Prod.fst (packR P emin emax W E ex 3 neg (1 * 2 ^ P - 1) (emax - (P : Int) + 1))))]) [1] ?_ trivial
   rfl
 ·refine xen 3 [.int .u64 0, .int .u64 0] 25 (fun g2 => ?_)
  refine xdr 4 10 (ct_impl_word (1) (1) ⟨rfl⟩ (by omega)) zs0 (fun A0 k0 => ?_)
  refine xdr 9 15 (ct_impl_nat_left (1) (A0) (k0) ((P : Int)) (P) ⟨rfl⟩ (by omega) s1) (zsS zi0 zs0) (fun A1 k1 => ?_)
  refine xdr 10 16 (ct_impl_word (1) (1) ⟨rfl⟩ (by omega)) zs0 (fun A2 k2 => ?_)
  refine xdr 11 17 (ct_impl_nat_sub (1 * 2 ^ P) (1) (A1) (A2) (k1) (k2) sP1 h1P1) (zsS (ziS zi0) (zsS zi0 zs0)) (fun A3 k3 => ?_)
  refine xdv 12 18 (ct_impl_wordOf (1 * 2 ^ P - 1) (A3) (k3) bl) (zsS zi0 zs0) ?_
  refine xdk [(23, [])] [(29, .agg #[.int .i64 3, .bool neg, .int .u64 (hiI (1 * 2 ^ P - 1)), .int .u64 (loI (1 * 2 ^ P - 1)), .int .i64 (IntKind.wrap IntKind.i64 (IntKind.wrap IntKind.i64 (emax - (P : Int)) + 1))])] hB ?_
  refine xdv 24 30 (ct_impl_Pack' h (f) hf (3) (neg) (hiI (1 * 2 ^ P - 1)) (loI (1 * 2 ^ P - 1)) (1 * 2 ^ P - 1) ⟨rfl, rfl⟩ bl (IntKind.wrap IntKind.i64 (IntKind.wrap IntKind.i64 (emax - (P : Int)) + 1)) (emax - (P : Int) + 1) zp) (zsS (ziS (ziS (ziS (ziS zi0)))) zs0) ?_
  refine xdk [(25, []), (26, []), (27, [])] [(32, .bool (Prod.snd (packR P emin emax W E ex 3 neg (1 * 2 ^ P - 1) (emax - (P : Int) + 1)))), (31, .agg #[.int .u64 (hiI (Prod.fst (packR P emin emax W E ex 3 neg (1 * 2 ^ P - 1) (emax - (P : Int) + 1)))), .int .u64 (loI (Prod.fst (packR P emin emax W E ex 3 neg (1 * 2 ^ P - 1) (emax - (P : Int) + 1))))])] hB ?_
  refine xds 29 [2] [(2, [.int .u64 (hiI (Prod.fst (packR P emin emax W E ex 3 neg (1 * 2 ^ P - 1) (emax - (P : Int) + 1)))), .int .u64 (loI (Prod.fst (packR P emin emax W E ex 3 neg (1 * 2 ^ P - 1) (emax - (P : Int) + 1))))])] ?_
  refine xdk [(30, [])] [] hB ?_
  refine xdz ?_
  refine xq [(0, [2]), (1, [1])] [] [(1, [.int .u64 (hiI (Prod.fst (packR P emin emax W E ex 3 neg (1 * 2 ^ P - 1) (emax - (P : Int) + 1)))), .int .u64 (loI (Prod.fst (packR P emin emax W E ex 3 neg (1 * 2 ^ P - 1) (emax - (P : Int) + 1))))])] ?_
  refine SW_ret ?_
  refine xe () (.agg #[.int .u64 (hiI (Prod.fst (packR P emin emax W E ex 3 neg (1 * 2 ^ P - 1) (emax - (P : Int) + 1)))), .int .u64 (loI (Prod.fst (packR P emin emax W E ex 3 neg (1 * 2 ^ P - 1) (emax - (P : Int) + 1))))]) [1] ?_ trivial
  rfl
end Go.Proofs.YtdbnmdchecacdaaDoor.M
end
section
namespace Go.Proofs.YtdbnmdchecacdaaDoor.M
open Go.RowKit Go.Proofs.YtdbnmdchecacdaaDoor.G Go.Proofs.YtdbnmdchecacdaaDoorV.PrintWords Go.Proofs.YtdbnmdchecacdaaDoorV.PrintLast Go.Proofs.YtdbnmdchecacdaaDoor.X
set_option linter.unusedVariables false
set_option linter.unusedSimpArgs false
structure FD (f : Int) (P : Nat) (emin emax : Int) (W E : Nat) (ex : Bool) : Prop where
 h : Fmt2 P emin emax W E ex
 x1 : 1 ≤ emax
 sf : spec_Describe.f f = some ((P : Int), emin, emax, (W : Int), (E : Int), ex)
 lf : impl_layoutOf.f f = some ((P : Int), emin, emax, (W : Int), (E : Int), ex, true)
theorem fd_or (f : Int) : ((0 ≤ f ∧ f < 4) ∧ ∃ P emin emax W E ex, FD f P emin emax W E ex) ∨ (¬ (0 ≤ f ∧ f < 4) ∧ spec_Describe.f f = some (0, 0, 0, 0, 0, false) ∧ impl_layoutOf.f f = some (0, 0, 0, 0, 0, false, false)) := by
 by_cases h0 : f = 0
 ·subst h0; exact .inl ⟨by decide, _, _, _, _, _, _, fmt2_0, by decide, rfl, rfl⟩
 by_cases h1 : f = 1
 ·subst h1; exact .inl ⟨by decide, _, _, _, _, _, _, fmt2_1, by decide, rfl, rfl⟩
 by_cases h2 : f = 2
 ·subst h2; exact .inl ⟨by decide, _, _, _, _, _, _, fmt2_2, by decide, rfl, rfl⟩
 by_cases h3 : f = 3
 ·subst h3; exact .inl ⟨by decide, _, _, _, _, _, _, fmt2_3, by decide, rfl, rfl⟩
 refine .inr ⟨by omega, ?_, ?_⟩
 ·unfold spec_Describe.f
  rw [if_neg h0, if_neg h1, if_neg h2, if_neg h3]
 ·unfold impl_layoutOf.f
  rw [if_neg h0, if_neg h1, if_neg h2, if_neg h3]
theorem ct_spec_Describe' (f : Int) (hf : spec_Describe.f f = some (0, 0, 0, 0, 0, false)) : CtV Tryd.prog 57 [.int .i64 f] [] (.agg #[.int .i64 0, .int .i64 0, .int .i64 0, .int .i64 0, .int .i64 0, .bool false]) := spec_Describe.calls f _ _ _ _ _ _ hf
theorem ct_impl_layoutOf' (f : Int) (hf : impl_layoutOf.f f = some (0, 0, 0, 0, 0, false, false)) : CtV Tryd.prog 65 [.int .i64 f] [Tabled] (.tuple #[.agg #[.int .i64 0, .int .i64 0, .int .i64 0, .int .i64 0, .int .i64 0, .bool false], .bool false]) :=
 ctV1 (fun w h1 => impl_layoutOf.calls _ _ _ _ _ _ _ _ w h1 hf)
theorem ct_impl_Unpack' (f : Int) (hf : impl_layoutOf.f f = some (0, 0, 0, 0, 0, false, false)) (h l : Int) :
  CtV Tryd.prog 17 [.int .i64 f, .agg #[.int .u64 h, .int .u64 l]] [Tabled] (.agg #[.int .i64 0, .bool false, .int .u64 0, .int .u64 0, .int .i64 0]) := by
 refine ct_of Tryd.func17 rfl (by kernel_rfl) (fun B w0 => ?_)
 refine xg ?_
 refine xb 3 [.int .u64 h, .int .u64 l] 25 (fun g0 => ?_)
 refine xb 4 [.int .i64 0, .bool false, .int .u64 0, .int .u64 0, .int .i64 0] 27 (fun g1 => ?_)
 refine xz [] [] ?_
 refine xg ?_
 refine xn 1 [] [(14, .int .i64 f)] ?_
 refine xcv 15 (ct_impl_layoutOf' (f) hf) (zsS zi0 zs0) ?_
 refine xn 5 [] [(17, .bool false), (16, .agg #[.int .i64 0, .int .i64 0, .int .i64 0, .int .i64 0, .int .i64 0, .bool false])] ?_
 refine xb 5 [.int .i64 0, .int .i64 0, .int .i64 0, .int .i64 0, .int .i64 0, .bool false] 91 (fun g2 => ?_)
 refine xy [(6, [2])] [(6, .bool false)] [] ?_
 refine SW_seq ?_
 refine xr [(8, [0])] [(34, .bool true)] ?_
 refine xs1 ?_
 refine xq [(1, [1])] [] [] ?_
 refine SW_ret ?_
 refine xe () (.agg #[.int .i64 0, .bool false, .int .u64 0, .int .u64 0, .int .i64 0]) [1] ?_ trivial
 rfl
theorem ct_spec_Unpack' (f : Int) (hf : spec_Describe.f f = some (0, 0, 0, 0, 0, false)) (h l : Int) :
  CtV Tryd.prog 15 [.int .i64 f, .agg #[.int .u64 h, .int .u64 l]] [] (.agg #[.int .i64 0, .bool false, .int .u64 0, .int .u64 0, .int .i64 0]) := by
 refine ct_of Tryd.func15 rfl (by kernel_rfl) (fun B w0 => ?_)
 refine xg ?_
 refine xb 3 [.int .u64 h, .int .u64 l] 25 (fun g0 => ?_)
 refine xb 4 [.int .i64 0, .bool false, .int .u64 0, .int .u64 0, .int .i64 0] 27 (fun g1 => ?_)
 refine xz [] [] ?_
 refine xg ?_
 refine xn 1 [] [(16, .int .i64 f)] ?_
 refine xcv 17 (ct_spec_Describe' (f) hf) zs0 ?_
 refine xb 5 [.int .i64 0, .int .i64 0, .int .i64 0, .int .i64 0, .int .i64 0, .bool false] 83 (fun g2 => ?_)
 refine xy [(3, [2])] [] [] ?_
 refine SW_seq ?_
 refine xr [(1, [2])] [(20, .bool true)] ?_
 refine xs1 ?_
 refine xq [(1, [1])] [] [] ?_
 refine SW_ret ?_
 refine xe () (.agg #[.int .i64 0, .bool false, .int .u64 0, .int .u64 0, .int .i64 0]) [1] ?_ trivial
 rfl
end Go.Proofs.YtdbnmdchecacdaaDoor.M
end
section
namespace Go.Proofs.YtdbnmdchecacdaaDoor.M
open Go.RowKit Go.Proofs.YtdbnmdchecacdaaDoor.G Go.Proofs.YtdbnmdchecacdaaDoorV.PrintWords Go.Proofs.YtdbnmdchecacdaaDoorV.PrintLast Go.Proofs.YtdbnmdchecacdaaDoor.X
set_option linter.unusedVariables false
set_option linter.unusedSimpArgs false
theorem ct_spec_l1Fits (n c : Nat) (A : Option Addr) (b : Bool) (hb : decide (n ≤ 1200) = b) : CtV Tryd.prog 97 [.slice A n c] [] (.bool b) := by
 subst hb
 refine ct_of Tryd.func97 rfl (by kernel_rfl) (fun B w0 => ?_)
 have e : decide ((n : Int) ≤ 1200) = decide (n ≤ 1200) := by rw [decide_eq_decide]; omega
 refine xr [] [(2, .bool false)] ?_
 refine xr [] [(2, .bool (decide ((n : Int) ≤ 1200)))] ?_
 refine SW_ret ?_
 refine xe () (.bool (decide ((n : Int) ≤ 1200))) [] ?_ trivial
 rw [e]
end Go.Proofs.YtdbnmdchecacdaaDoor.M
end
section
namespace Go.Proofs.YtdbnmdchecacdaaDoor.M
open Go.RowKit Go.Proofs.YtdbnmdchecacdaaDoor.G Go.Proofs.YtdbnmdchecacdaaDoorV.PrintWords Go.Proofs.YtdbnmdchecacdaaDoorV.PrintLast Go.Proofs.YtdbnmdchecacdaaDoor.X
set_option linter.unusedVariables false
set_option linter.unusedSimpArgs false
theorem len1200 {x m : Nat} (hm : x < 2 ^ m) (h : m ≤ 76800) : (ofN B64 x).length ≤ 1200 := by
 obtain ⟨k, hk⟩ : ∃ k : Nat, k = 1200 := ⟨_, rfl⟩
 have h1 : x < B64 ^ k := by
  rw [show B64 = 2 ^ 64 from rfl, ← Nat.pow_mul]
  exact Nat.lt_of_lt_of_le hm (Nat.pow_le_pow_right (by decide) (by omega))
 have := ofN_len B64_2 h1
 omega
end Go.Proofs.YtdbnmdchecacdaaDoor.M
end
section
namespace Go.Proofs.YtdbnmdchecacdaaDoor.M
open Go.RowKit Go.Proofs.YtdbnmdchecacdaaDoor.G Go.Proofs.YtdbnmdchecacdaaDoorV.PrintWords Go.Proofs.YtdbnmdchecacdaaDoorV.PrintLast Go.Proofs.YtdbnmdchecacdaaDoor.X
set_option linter.unusedVariables false
set_option linter.unusedSimpArgs false
def lo4 (P : Nat) (emin : Int) (S : Nat) (q : Int) : Nat := if S = 2 ^ (P - 1) ∧ emin - P + 1 < q then S * 2 ^ 2 - 1 else S * 2 ^ 2 - 2
def hi4 (S : Nat) : Nat := S * 2 ^ 2 + 2
def bndN (P : Nat) (emin : Int) (S : Nat) (q : Int) : Nat × Nat × Nat :=
 if 2 ≤ q then (lo4 P emin S q * 2 ^ (q - 2).toNat, hi4 S * 2 ^ (q - 2).toNat, 1) else (lo4 P emin S q, hi4 S, 2 ^ (2 - q).toNat)
abbrev R3 : Type := (Option Addr × Nat) × (Option Addr × Nat) × (Option Addr × Nat)
noncomputable abbrev itvV (u : Nat × Nat × Nat) (cl : Bool) (p : R3) : Value := .agg #[.slice p.1.1 (ofN B64 u.1).length p.1.2, .slice p.2.1.1 (ofN B64 u.2.1).length p.2.1.2, .slice p.2.2.1 (ofN B64 u.2.2).length p.2.2.2, .bool cl, .bool true]
noncomputable abbrev itvF (u : Nat × Nat × Nat) (p : R3) : List Fact := [Row .u64 p.1.1 p.1.2 (ofN B64 u.1), Row .u64 p.2.1.1 p.2.1.2 (ofN B64 u.2.1), Row .u64 p.2.2.1 p.2.2.2 (ofN B64 u.2.2)]
theorem vp_fin {P : Nat} {emin emax : Int} {W E : Nat} {ex : Bool} (h : Fmt2 P emin emax W E ex) (hx1 : 1 ≤ emax) {c : Int} {S : Nat} {q : Int} (hv : VP P emin emax c S q) (hc : c = 2 ∨ c = 3) : (0 < S ∧ S < 2 ^ P) ∧ emin - P + 1 ≤ q ∧ q ≤ emax - P + 1 ∧ (c = 2 → S < 2 ^ (P - 1)) ∧ (S < 2 ^ (P - 1) → q = emin - P + 1) := by
 have hx2 := h.mn
 have t2 := two_P h.toFmt
 have hp := Nat.pow_pos (n := P - 1) (show 0 < 2 by decide)
 rcases hv with ⟨rfl, _⟩ | ⟨rfl, _⟩ | ⟨_, h1, h2, rfl⟩ | ⟨_, h1, h2, h3, h4⟩
 ·omega
 ·omega
 ·omega
 ·omega
theorem bnd_sm {P : Nat} {emin emax : Int} {W E : Nat} {ex : Bool} (h : Fmt2 P emin emax W E ex) (hx1 : 1 ≤ emax) {c : Int} {S : Nat} {q : Int} (hv : VP P emin emax c S q) (hc : c = 2 ∨ c = 3) : ∃ k, k ≤ 17000 ∧ ((bndN P emin S q).1 < 2 ^ k ∧ (bndN P emin S q).2.1 < 2 ^ k ∧ (bndN P emin S q).2.2 < 2 ^ k) ∧ 0 < (bndN P emin S q).1 ∧ 0 < (bndN P emin S q).2.1 ∧ 0 < (bndN P emin S q).2.2 := by
 obtain ⟨⟨bS0, bS1⟩, bq0, bq1, _, _⟩ := vp_fin h hx1 hv hc
 have p1 := h.p1
 have m0 := h.m0
 have m1 := h.m1
 have hE := h.toFmt.plt
 have tp := h.top
 have mn := h.mn
 have p113 : 2 ^ P ≤ 2 ^ 113 := Nat.pow_le_pow_right (by decide) p1
 have hl : 0 < lo4 P emin S q ∧ lo4 P emin S q < 2 ^ 116 := by unfold lo4; split <;> omega
 have hh : 0 < hi4 S ∧ hi4 S < 2 ^ 116 := by unfold hi4; omega
 unfold bndN
 by_cases hq : 2 ≤ q
 ·rw [if_pos hq]
  dsimp only
  have hp := Nat.pow_pos (n := (q - 2).toNat) (show 0 < 2 by decide)
  refine ⟨116 + (q - 2).toNat, by omega, ⟨?_, ?_, ?_⟩, Nat.mul_pos hl.1 hp, Nat.mul_pos hh.1 hp, by decide⟩
  ·rw [Nat.pow_add]
   exact Nat.mul_lt_mul_of_pos_right hl.2 hp
  ·rw [Nat.pow_add]
   exact Nat.mul_lt_mul_of_pos_right hh.2 hp
  ·rw [Nat.pow_add]
   exact Nat.lt_of_lt_of_le (show 1 < 2 ^ 116 * 1 by decide) (Nat.mul_le_mul_left _ hp)
 ·rw [if_neg hq]
  dsimp only
  have hp := Nat.pow_pos (n := (2 - q).toNat) (show 0 < 2 by decide)
  refine ⟨116 + (2 - q).toNat, by omega, ⟨?_, ?_, ?_⟩, hl.1, hh.1, hp⟩
  ·rw [Nat.pow_add]
   exact Nat.lt_of_lt_of_le hl.2 (Nat.le_mul_of_pos_right _ hp)
  ·rw [Nat.pow_add]
   exact Nat.lt_of_lt_of_le hh.2 (Nat.le_mul_of_pos_right _ hp)
  ·exact Nat.pow_lt_pow_right (by decide) (by omega)
end Go.Proofs.YtdbnmdchecacdaaDoor.M
end
section
namespace Go.Proofs.YtdbnmdchecacdaaDoor.M
open Go.RowKit Go.Proofs.YtdbnmdchecacdaaDoor.G Go.Proofs.YtdbnmdchecacdaaDoorV.PrintWords Go.Proofs.YtdbnmdchecacdaaDoorV.PrintLast Go.Proofs.YtdbnmdchecacdaaDoor.X
set_option linter.unusedVariables false
set_option linter.unusedSimpArgs false
theorem hilo_eq (a b : Nat) : ((hiI a == hiI b) && (loI a == loI b)) = decide (a = b) := by
 rw [Bool.eq_iff_iff, Bool.and_eq_true, beq_iff_eq, beq_iff_eq, decide_eq_true_iff]
 exact ⟨fun z => hilo_inj z.1 z.2, fun z => by rw [z]; exact ⟨rfl, rfl⟩⟩
theorem ct_impl_Bounds {P : Nat} {emin emax : Int} {W E : Nat} {ex : Bool} {f : Int} (d : FD f P emin emax W E ex) (x : Nat) (hx : x < B128) (c : Int) (neg : Bool) (S : Nat) (q : Int) (hx2 : unpN P emin emax W E ex x = (c, neg, hiI S, loI S, q)) (hv : VP P emin emax c S q) (hc : c = 2 ∨ c = 3) (u : Nat × Nat × Nat) (hu : bndN P emin S q = u) :
  Ct Tryd.prog 26 [.int .i64 f, .agg #[.int .u64 (hiI x), .int .u64 (loI x)]] [Tabled] (γ := R3) (itvV u (decide (S % 2 = 0))) (itvF u) := by
 subst hu
 have h := d.h
 have hF := h.toFmt
 have hf := d.lf
 have cu := ct_impl_Unpack h.toFmt f hf x hx
 rw [hx2, prtV] at cu
 dsimp only at cu
 have p0 := h.p0
 have p1 := h.p1
 have p3 := h.p3
 have m0 := h.m0
 have m1 := h.m1
 have b128 : 2 ^ P < B128 := Nat.pow_lt_pow_right (a := 2) (n := 128) (by decide) (by omega)
 have t2 := two_P hF
 obtain ⟨⟨bS0, bS1⟩, bq0, bq1, bS2, _⟩ := vp_fin h d.x1 hv hc
 have bS : S < B128 := by omega
 have p113 : 2 ^ P ≤ 2 ^ 113 := Nat.pow_le_pow_right (by decide) p1
 have sS : Sm S := sm128 (Nat.lt_trans bS (by decide))
 have sF : Sm (S * 2 ^ 2) := Sm.of (k := 116) (by omega) (by decide)
 have sH : Sm (S * 2 ^ 2 + 2) := Sm.of (k := 116) (by omega) (by decide)
 have s2 : Sm 2 := Sm.of (k := 2) (by decide) (by decide)
 have s1 : Sm 1 := Sm.of (k := 1) (by decide) (by decide)
 have l2 : 2 ≤ S * 2 ^ 2 := by omega
 have l1 : 1 ≤ S * 2 ^ 2 := by omega
 have hp1 : P - 1 < 128 := by omega
 have v1 : Ve (IntKind.i64.wrap ((P : Int) - 1)) ((P - 1 : Nat) : Int) := ⟨by rw [wrap_i64 (by omega)]; omega⟩
 have w3 : Ve (IntKind.i64.wrap (q - 2)) (q - 2) := ⟨wrap_i64 (by omega)⟩
 have v2 : Ve (bits .and .u64 (loI S) 1) ((S % 2 : Nat) : Int) := ⟨by unfold loI; rw [and1 _ (by omega)]; omega⟩
 have e2 : (((S % 2 : Nat) : Int) == 0) = decide (S % 2 = 0) := by rw [Bool.eq_iff_iff, beq_iff_eq, decide_eq_true_iff]; omega
 obtain ⟨L, hL⟩ : ∃ L, lo4 P emin S q = L := ⟨_, rfl⟩
 have sL : Sm L := by rw [← hL]; unfold lo4; split <;> exact sF.mono (by omega)
 have hL3 : L < 2 ^ 116 := by rw [← hL]; unfold lo4; split <;> omega
 rw [← e2]
 refine ct_of Tryd.func26 rfl (by kernel_rfl) (fun B w0 => ?_)
 refine xg ?_
 refine xb 3 [.int .u64 (hiI x), .int .u64 (loI x)] 25 (fun g0 => ?_)
 refine xb 4 [.slice none 0 0, .slice none 0 0, .slice none 0 0, .bool false, .bool false] 43 (fun g1 => ?_)
 refine xz [] [] ?_
 refine xg ?_
 refine xn 1 [] [(14, .int .i64 f)] ?_
 refine xcv 15 (ct_impl_layoutOf (f) hf) (zsS zi0 zs0) ?_
 refine xn 5 [] [(17, .bool true), (16, .agg #[.int .i64 (P : Int), .int .i64 emin, .int .i64 emax, .int .i64 (W : Int), .int .i64 (E : Int), .bool ex])] ?_
 refine xb 5 [.int .i64 0, .int .i64 0, .int .i64 0, .int .i64 0, .int .i64 0, .bool false] 91 (fun g2 => ?_)
 refine xy [(6, [2])] [] [(2, [.int .i64 (P : Int), .int .i64 emin, .int .i64 emax, .int .i64 (W : Int), .int .i64 (E : Int), .bool ex])] ?_
 refine xg ?_
 refine xn 2 [(1, [0])] [(19, .agg #[.int .u64 (hiI x), .int .u64 (loI x)]), (18, .int .i64 f)] ?_
 refine xcv 20 cu (zsS zi0 zs0) ?_
 refine xb 7 [.int .i64 0, .bool false, .int .u64 0, .int .u64 0, .int .i64 0] 27 (fun g3 => ?_)
 refine xy [(4, [3])] [] [(3, [.int .i64 c, .bool neg, .int .u64 (hiI S), .int .u64 (loI S), .int .i64 q])] ?_
 refine SW_cut (fun s' => Weak2 s' ⟨[(4, .pointer (some ⟨g1, 0, none⟩)), (5, .pointer (some ⟨g2, 0, none⟩)), (7, .pointer (some ⟨g3, 0, none⟩))], [⟨g1, [.slice none 0 0, .slice none 0 0, .slice none 0 0, .bool false, .bool false], 43⟩, ⟨g2, [.int .i64 (P : Int), .int .i64 emin, .int .i64 emax, .int .i64 (W : Int), .int .i64 (E : Int), .bool ex], 91⟩, ⟨g3, [.int .i64 c, .bool neg, .int .u64 (hiI S), .int .u64 (loI S), .int .i64 q], 27⟩], [Tabled]⟩) ?_ ?_
 ·rcases hc with rfl | rfl
  ·refine xr [(1, [3])] [(28, .bool false)] ?_
   refine xs0 ?_
   refine SW_skip ?_
   exact xw2 [false, true, true, true] (zsS zi0 zs0)
  ·refine xr [(1, [3]), (5, [3])] [(28, .bool false)] ?_
   refine xs0 ?_
   refine SW_skip ?_
   exact xw2 [false, true, true, true] (zsS zi0 zs0)
 ·rintro s' hw
  refine SW_weak2 hw ?_
  clear hw
  refine xg ?_
  refine xn 2 [(1, [2])] [(31, .agg #[.int .u64 (hiI S), .int .u64 (loI S)])] ?_
  refine xcr 32 (ct_impl_Word_nat (S) bS) zs0 (fun A0 k0 => ?_)
  refine xcr 33 (ct_impl_nat_left (S) (A0) (k0) (2) (2) ⟨rfl⟩ (by omega) sS) (zsS zi0 zs0) (fun A1 k1 => ?_)
  refine xz [] [(8, .slice A1 (List.length (ofN B64 (S * 2 ^ 2))) k1)] ?_
  refine xg ?_
  refine xn 1 [] [(34, .slice A1 (List.length (ofN B64 (S * 2 ^ 2))) k1)] ?_
  refine xcr 35 (ct_impl_word (2) (2) ⟨rfl⟩ (by omega)) zs0 (fun A2 k2 => ?_)
  refine xcr 36 (ct_impl_nat_add (S * 2 ^ 2) (2) (A1) (A2) (k1) (k2) sF s2) (zsS (ziS zi0) (zsS zi0 zs0)) (fun A3 k3 => ?_)
  refine xn 4 [] [(37, .slice A1 (List.length (ofN B64 (S * 2 ^ 2))) k1)] ?_
  refine xcr 38 (ct_impl_word (2) (2) ⟨rfl⟩ (by omega)) zs0 (fun A4 k4 => ?_)
  refine xcr 39 (ct_impl_nat_sub (S * 2 ^ 2) (2) (A1) (A4) (k1) (k4) sF l2) (zsS (ziS (ziS (ziS zi0))) (zsS zi0 zs0)) (fun A5 k5 => ?_)
  refine xz [] [(10, .slice A5 (List.length (ofN B64 (S * 2 ^ 2 - 2))) k5), (9, .slice A3 (List.length (ofN B64 (S * 2 ^ 2 + 2))) k3)] ?_
  refine SW_cut (fun s' => ∃ (A1 A2 : Option Addr) (c1 c2 : Nat), Weak2 s' ⟨[(4, .pointer (some ⟨g1, 0, none⟩)), (7, .pointer (some ⟨g3, 0, none⟩)), (9, .slice A1 (ofN B64 (S * 2 ^ 2 + 2)).length c1), (10, .slice A2 (ofN B64 L).length c2)], [⟨g1, [.slice none 0 0, .slice none 0 0, .slice none 0 0, .bool false, .bool false], 43⟩, ⟨g3, [.int .i64 c, .bool neg, .int .u64 (hiI S), .int .u64 (loI S), .int .i64 q], 27⟩], [Row .u64 A1 c1 (ofN B64 (S * 2 ^ 2 + 2)), Row .u64 A2 c2 (ofN B64 L)]⟩) ?_ ?_
  ·by_cases hc3 : c = 3
   ·have z1 : (c == 3) = true := by rw [beq_iff_eq]; exact hc3
    by_cases hS : S = 2 ^ (P - 1)
    ·have z2 : ((hiI S == hiI (2 ^ (P - 1))) && (loI S == loI (2 ^ (P - 1)))) = true := by rw [hilo_eq]; exact decide_eq_true hS
     by_cases hq : q > emin - (P : Int) + 1
     ·have z3 : decide (q > emin - (P : Int) + 1) = true := decide_eq_true hq
      have e : L = S * 2 ^ 2 - 1 := by rw [← hL]; unfold lo4; rw [if_pos ⟨hS, hq⟩]
      rw [e]
      refine xd (fun hB => ?_)
      refine xdk [(0, []), (1, [2]), (2, []), (3, [])] [(43, .bool (c == 3))] hB ?_
      refine xdnt 43 z1 ?_
      refine xdk [(4, []), (5, [2]), (6, []), (7, []), (8, [1])] [(48, .int .i64 (P : Int)), (45, .agg #[.int .u64 (hiI S), .int .u64 (loI S)])] hB ?_
      refine xdve 9 hB 49 IntKind.i64 (IntKind.wrap IntKind.i64 ((P : Int) - 1)) ((((P - 1) : Nat) : Int)) v1 ?_
      refine xdv 10 50 (ct_impl_one ((((P - 1) : Nat) : Int)) (P - 1) ⟨rfl⟩ hp1) zs0 ?_
      refine xdw 11 51 (.bool ((hiI S == hiI (2 ^ (P - 1))) && (loI S == loI (2 ^ (P - 1))))) hB (fun w _ _ => run_eql rfl (by kernel_rfl) (by kernel_rfl) (by kernel_rfl) w (eq_word _ _ _ _ _ w)) ?_
      refine xdk [(12, []), (13, [])] [(53, .bool (hiI S == hiI (2 ^ (P - 1)) && loI S == loI (2 ^ (P - 1))))] hB ?_
      refine xdnt 53 z2 ?_
      refine xdk [(14, []), (15, [2]), (16, [1])] [(56, .agg #[.int .i64 (P : Int), .int .i64 emin, .int .i64 emax, .int .i64 (W : Int), .int .i64 (E : Int), .bool ex]), (55, .int .i64 q)] hB ?_
      refine xdv 17 57 (ct_impl_layout_qMin hF) zs0 ?_
      refine xdk [(18, []), (19, [])] [(59, .bool (decide (q > emin - (P : Int) + 1)))] hB ?_
      refine xdz ?_
      refine xst z3 ?_
      refine SW_region ?_
      refine xn 1 [] [(60, .slice A1 (List.length (ofN B64 (S * 2 ^ 2))) k1)] ?_
      refine xcr 61 (ct_impl_word (1) (1) ⟨rfl⟩ (by omega)) zs0 (fun A6 k6 => ?_)
      refine xcr 62 (ct_impl_nat_sub (S * 2 ^ 2) (1) (A1) (A6) (k1) (k6) sF l1) (zsS (ziS (ziS (ziS (ziS (ziS zi0))))) (zsS zi0 zs0)) (fun A7 k7 => ?_)
      refine xz [] [(10, .slice A7 (List.length (ofN B64 (S * 2 ^ 2 - 1))) k7)] ?_
      refine ⟨(A3), (A7), (k3), (k7), xw2 [true, false, true] (zsS (ziS (ziS (ziS (ziS zi0)))) (zsS zi0 zs0))⟩
     ·have z3 : decide (q > emin - (P : Int) + 1) = false := decide_eq_false hq
      have e : L = S * 2 ^ 2 - 2 := by rw [← hL]; unfold lo4; rw [if_neg (fun z => hq z.2)]
      rw [e]
      refine xd (fun hB => ?_)
      refine xdk [(0, []), (1, [2]), (2, []), (3, [])] [(43, .bool (c == 3))] hB ?_
      refine xdnt 43 z1 ?_
      refine xdk [(4, []), (5, [2]), (6, []), (7, []), (8, [1])] [(48, .int .i64 (P : Int)), (45, .agg #[.int .u64 (hiI S), .int .u64 (loI S)])] hB ?_
      refine xdve 9 hB 49 IntKind.i64 (IntKind.wrap IntKind.i64 ((P : Int) - 1)) ((((P - 1) : Nat) : Int)) v1 ?_
      refine xdv 10 50 (ct_impl_one ((((P - 1) : Nat) : Int)) (P - 1) ⟨rfl⟩ hp1) zs0 ?_
      refine xdw 11 51 (.bool ((hiI S == hiI (2 ^ (P - 1))) && (loI S == loI (2 ^ (P - 1))))) hB (fun w _ _ => run_eql rfl (by kernel_rfl) (by kernel_rfl) (by kernel_rfl) w (eq_word _ _ _ _ _ w)) ?_
      refine xdk [(12, []), (13, [])] [(53, .bool (hiI S == hiI (2 ^ (P - 1)) && loI S == loI (2 ^ (P - 1))))] hB ?_
      refine xdnt 53 z2 ?_
      refine xdk [(14, []), (15, [2]), (16, [1])] [(56, .agg #[.int .i64 (P : Int), .int .i64 emin, .int .i64 emax, .int .i64 (W : Int), .int .i64 (E : Int), .bool ex]), (55, .int .i64 q)] hB ?_
      refine xdv 17 57 (ct_impl_layout_qMin hF) zs0 ?_
      refine xdk [(18, []), (19, [])] [(59, .bool (decide (q > emin - (P : Int) + 1)))] hB ?_
      refine xdz ?_
      refine xsf z3 ?_
      refine SW_skip ?_
      refine ⟨(A3), (A5), (k3), (k5), xw2 [true, false, true] (zsS (ziS (ziS zi0)) (zsS zi0 zs0))⟩
    ·have z2 : ((hiI S == hiI (2 ^ (P - 1))) && (loI S == loI (2 ^ (P - 1)))) = false := by rw [hilo_eq]; exact decide_eq_false hS
     have e : L = S * 2 ^ 2 - 2 := by rw [← hL]; unfold lo4; rw [if_neg (fun z => hS z.1)]
     rw [e]
     refine xd (fun hB => ?_)
     refine xdk [(0, []), (1, [2]), (2, []), (3, [])] [(43, .bool (c == 3))] hB ?_
     refine xdnt 43 z1 ?_
     refine xdk [(4, []), (5, [2]), (6, []), (7, []), (8, [1])] [(48, .int .i64 (P : Int)), (45, .agg #[.int .u64 (hiI S), .int .u64 (loI S)])] hB ?_
     refine xdve 9 hB 49 IntKind.i64 (IntKind.wrap IntKind.i64 ((P : Int) - 1)) ((((P - 1) : Nat) : Int)) v1 ?_
     refine xdv 10 50 (ct_impl_one ((((P - 1) : Nat) : Int)) (P - 1) ⟨rfl⟩ hp1) zs0 ?_
     refine xdw 11 51 (.bool ((hiI S == hiI (2 ^ (P - 1))) && (loI S == loI (2 ^ (P - 1))))) hB (fun w _ _ => run_eql rfl (by kernel_rfl) (by kernel_rfl) (by kernel_rfl) w (eq_word _ _ _ _ _ w)) ?_
     refine xdk [(12, []), (13, [])] [(53, .bool (hiI S == hiI (2 ^ (P - 1)) && loI S == loI (2 ^ (P - 1))))] hB ?_
     refine xdnf 53 z2 ?_
     refine xdk [(14, []), (15, []), (16, [1]), (17, []), (18, []), (19, [])] [(59, .bool false)] hB ?_
     refine xdz ?_
     refine xs0 ?_
     refine SW_skip ?_
     refine ⟨(A3), (A5), (k3), (k5), xw2 [true, false, true] (zsS (ziS (ziS zi0)) (zsS zi0 zs0))⟩
   ·have z1 : (c == 3) = false := by rw [beq_eq_false_iff_ne]; exact hc3
    have e : L = S * 2 ^ 2 - 2 := by rw [← hL]; unfold lo4; rw [if_neg (fun z => by have := bS2 (by omega); omega)]
    rw [e]
    refine xd (fun hB => ?_)
    refine xdk [(0, []), (1, [2]), (2, []), (3, [])] [(43, .bool (c == 3))] hB ?_
    refine xdnf 43 z1 ?_
    refine xdk [(4, []), (5, []), (6, []), (7, []), (8, []), (9, []), (10, []), (11, []), (12, []), (13, []), (14, []), (15, []), (16, [1]), (17, []), (18, []), (19, [])] [(59, .bool false)] hB ?_
    refine xdz ?_
    refine xs0 ?_
    refine SW_skip ?_
    refine ⟨(A3), (A5), (k3), (k5), xw2 [true, false, true] (zsS (ziS (ziS zi0)) (zsS zi0 zs0))⟩
  ·rintro s' ⟨A1, A2, c1, c2, hw⟩
   refine SW_weak2 hw ?_
   clear hw
   by_cases hq2 : 2 ≤ q
   ·have z4 : decide (q - 2 ≥ 0) = true := decide_eq_true (by omega)
    have hN : Nn (q - 2) (q - 2).toNat := ⟨by omega⟩
    have hn : (q - 2).toNat ≤ 1000000 := by omega
    have e : bndN P emin S q = (L * 2 ^ (q - 2).toNat, (S * 2 ^ 2 + 2) * 2 ^ (q - 2).toNat, 1) := by unfold bndN hi4; rw [if_pos hq2, hL]
    rw [e]
    refine xg ?_
    refine xn 2 [(1, [1])] [(64, .int .i64 q)] ?_
    refine xve 65 IntKind.i64 (IntKind.wrap IntKind.i64 (q - 2)) (q - 2) w3 ?_
    refine xz [] [(11, .int .i64 (q - 2))] ?_
    refine xg ?_
    refine xn 3 [(2, [1])] [(68, .int .u64 (loI S))] ?_
    refine xve 69 IntKind.u64 (bits BinOp.and IntKind.u64 (loI S) 1) ((((S % 2) : Nat) : Int)) v2 ?_
    refine xn 6 [] [(71, .agg #[.slice none 0 0, .slice none 0 0, .slice none 0 0, .bool ((((S % 2) : Nat) : Int) == 0), .bool true])] ?_
    refine xb 12 [.slice none 0 0, .slice none 0 0, .slice none 0 0, .bool false, .bool false] 43 (fun g4 => ?_)
    refine xy [(7, [2])] [] [(2, [.slice none 0 0, .slice none 0 0, .slice none 0 0, .bool ((((S % 2) : Nat) : Int) == 0), .bool true])] ?_
    refine SW_seq ?_
    refine xr [] [(73, .bool (decide (q - 2 ≥ 0)))] ?_
    refine xst z4 ?_
    refine SW_region ?_
    refine xn 2 [] [(75, .int .i64 (q - 2)), (74, .slice A2 (List.length (ofN B64 L)) c2)] ?_
    refine xcr 76 (ct_impl_nat_left (L) (A2) (c2) (q - 2) (Int.toNat (q - 2)) hN hn sL) (zsS (ziS zi0) zs0) (fun A6 k6 => ?_)
    refine xn 5 [] [(78, .int .i64 (q - 2)), (77, .slice A1 (List.length (ofN B64 (S * 2 ^ 2 + 2))) c1)] ?_
    refine xcr 79 (ct_impl_nat_left (S * 2 ^ 2 + 2) (A1) (c1) (q - 2) (Int.toNat (q - 2)) hN hn sH) (zsS (ziS zi0) zs0) (fun A7 k7 => ?_)
    refine xcr 80 (ct_impl_word (1) (1) ⟨rfl⟩ (by omega)) zs0 (fun A8 k8 => ?_)
    refine xy [(8, [2]), (10, [2]), (12, [2])] [] [(2, [.slice A6 (List.length (ofN B64 (L * 2 ^ Int.toNat (q - 2)))) k6, .slice A7 (List.length (ofN B64 ((S * 2 ^ 2 + 2) * 2 ^ Int.toNat (q - 2)))) k7, .slice A8 (List.length (ofN B64 1)) k8, .bool ((((S % 2) : Nat) : Int) == 0), .bool true])] ?_
    refine xq [(0, [2]), (1, [0])] [] [(0, [.slice A6 (List.length (ofN B64 (L * 2 ^ Int.toNat (q - 2)))) k6, .slice A7 (List.length (ofN B64 ((S * 2 ^ 2 + 2) * 2 ^ Int.toNat (q - 2)))) k7, .slice A8 (List.length (ofN B64 1)) k8, .bool ((((S % 2) : Nat) : Int) == 0), .bool true])] ?_
    refine SW_ret ?_
    refine xe ((A6, k6), (A7, k7), A8, k8) (.agg #[.slice A6 (List.length (ofN B64 (L * 2 ^ Int.toNat (q - 2)))) k6, .slice A7 (List.length (ofN B64 ((S * 2 ^ 2 + 2) * 2 ^ Int.toNat (q - 2)))) k7, .slice A8 (List.length (ofN B64 1)) k8, .bool ((((S % 2) : Nat) : Int) == 0), .bool true]) [0] ?_ (zsS (ziS (ziS zi0)) (zsS (ziS zi0) (zsS zi0 zs0)))
    rfl
   ·have z4 : decide (q - 2 ≥ 0) = false := decide_eq_false (by omega)
    have w4 : Ve (IntKind.i64.wrap (0 - (q - 2))) (((2 - q).toNat : Nat) : Int) := ⟨by rw [wrap_i64 (by omega)]; omega⟩
    have e : bndN P emin S q = (L, S * 2 ^ 2 + 2, 1 * 2 ^ (2 - q).toNat) := by unfold bndN hi4; rw [if_neg hq2, hL, Nat.one_mul]
    have hn : (2 - q).toNat ≤ 1000000 := by omega
    rw [e]
    refine xg ?_
    refine xn 2 [(1, [1])] [(64, .int .i64 q)] ?_
    refine xve 65 IntKind.i64 (IntKind.wrap IntKind.i64 (q - 2)) (q - 2) w3 ?_
    refine xz [] [(11, .int .i64 (q - 2))] ?_
    refine xg ?_
    refine xn 3 [(2, [1])] [(68, .int .u64 (loI S))] ?_
    refine xve 69 IntKind.u64 (bits BinOp.and IntKind.u64 (loI S) 1) ((((S % 2) : Nat) : Int)) v2 ?_
    refine xn 6 [] [(71, .agg #[.slice none 0 0, .slice none 0 0, .slice none 0 0, .bool ((((S % 2) : Nat) : Int) == 0), .bool true])] ?_
    refine xb 12 [.slice none 0 0, .slice none 0 0, .slice none 0 0, .bool false, .bool false] 43 (fun g4 => ?_)
    refine xy [(7, [2])] [] [(2, [.slice none 0 0, .slice none 0 0, .slice none 0 0, .bool ((((S % 2) : Nat) : Int) == 0), .bool true])] ?_
    refine SW_seq ?_
    refine xr [] [(73, .bool (decide (q - 2 ≥ 0)))] ?_
    refine xsf z4 ?_
    refine SW_region ?_
    refine xn 2 [] [(85, .slice A1 (List.length (ofN B64 (S * 2 ^ 2 + 2))) c1), (84, .slice A2 (List.length (ofN B64 L)) c2)] ?_
    refine xcr 86 (ct_impl_word (1) (1) ⟨rfl⟩ (by omega)) zs0 (fun A6 k6 => ?_)
    refine xn 4 [] [(87, .int .i64 (q - 2))] ?_
    refine xve 88 IntKind.i64 (IntKind.wrap IntKind.i64 (0 - (q - 2))) ((((Int.toNat (2 - q)) : Nat) : Int)) w4 ?_
    refine xcr 89 (ct_impl_nat_left (1) (A6) (k6) ((((Int.toNat (2 - q)) : Nat) : Int)) (Int.toNat (2 - q)) ⟨rfl⟩ hn s1) (zsS zi0 zs0) (fun A7 k7 => ?_)
    refine xy [(7, [2]), (9, [2]), (11, [2])] [] [(2, [.slice A2 (List.length (ofN B64 L)) c2, .slice A1 (List.length (ofN B64 (S * 2 ^ 2 + 2))) c1, .slice A7 (List.length (ofN B64 (1 * 2 ^ Int.toNat (2 - q)))) k7, .bool ((((S % 2) : Nat) : Int) == 0), .bool true])] ?_
    refine xq [(0, [2]), (1, [0])] [] [(0, [.slice A2 (List.length (ofN B64 L)) c2, .slice A1 (List.length (ofN B64 (S * 2 ^ 2 + 2))) c1, .slice A7 (List.length (ofN B64 (1 * 2 ^ Int.toNat (2 - q)))) k7, .bool ((((S % 2) : Nat) : Int) == 0), .bool true])] ?_
    refine SW_ret ?_
    refine xe ((A2, c2), (A1, c1), A7, k7) (.agg #[.slice A2 (List.length (ofN B64 L)) c2, .slice A1 (List.length (ofN B64 (S * 2 ^ 2 + 2))) c1, .slice A7 (List.length (ofN B64 (1 * 2 ^ Int.toNat (2 - q)))) k7, .bool ((((S % 2) : Nat) : Int) == 0), .bool true]) [0] ?_ (zsS (ziS (ziS (ziS zi0))) (zsS (ziS (ziS zi0)) (zsS zi0 zs0)))
    rfl
theorem ct_impl_Bounds0 {f : Int} (c : Int) (hc : c ≠ 2 ∧ c ≠ 3) (b : Bool) (k1 k2 k3 : Int) (u1 u2 : Int) (r1 r2 r3 r4 r5 : Int) (r6 r7 : Bool) (cl : CtV Tryd.prog 65 [.int .i64 f] [Tabled] (.tuple #[.agg #[.int .i64 r1, .int .i64 r2, .int .i64 r3, .int .i64 r4, .int .i64 r5, .bool r6], .bool r7])) (cu : CtV Tryd.prog 17 [.int .i64 f, .agg #[.int .u64 u1, .int .u64 u2]] [Tabled] (.agg #[.int .i64 c, .bool b, .int .u64 k1, .int .u64 k2, .int .i64 k3])) :
  CtV Tryd.prog 26 [.int .i64 f, .agg #[.int .u64 u1, .int .u64 u2]] [Tabled] (.agg #[.slice none 0 0, .slice none 0 0, .slice none 0 0, .bool false, .bool false]) := by
 have z2 : (c != 2) = true := by rw [bne_iff_ne]; exact hc.1
 have z3 : (c != 3) = true := by rw [bne_iff_ne]; exact hc.2
 refine ct_of Tryd.func26 rfl (by kernel_rfl) (fun B w0 => ?_)
 refine xg ?_
 refine xb 3 [.int .u64 u1, .int .u64 u2] 25 (fun g0 => ?_)
 refine xb 4 [.slice none 0 0, .slice none 0 0, .slice none 0 0, .bool false, .bool false] 43 (fun g1 => ?_)
 refine xz [] [] ?_
 refine xg ?_
 refine xn 1 [] [(14, .int .i64 f)] ?_
 refine xcv 15 cl (zsS zi0 zs0) ?_
 refine xn 5 [] [(17, .bool r7), (16, .agg #[.int .i64 r1, .int .i64 r2, .int .i64 r3, .int .i64 r4, .int .i64 r5, .bool r6])] ?_
 refine xb 5 [.int .i64 0, .int .i64 0, .int .i64 0, .int .i64 0, .int .i64 0, .bool false] 91 (fun g2 => ?_)
 refine xy [(6, [2])] [] [(2, [.int .i64 r1, .int .i64 r2, .int .i64 r3, .int .i64 r4, .int .i64 r5, .bool r6])] ?_
 refine xg ?_
 refine xn 2 [(1, [0])] [(19, .agg #[.int .u64 u1, .int .u64 u2]), (18, .int .i64 f)] ?_
 refine xcv 20 cu (zsS zi0 zs0) ?_
 refine xb 7 [.int .i64 0, .bool false, .int .u64 0, .int .u64 0, .int .i64 0] 27 (fun g3 => ?_)
 refine xy [(4, [3])] [] [(3, [.int .i64 c, .bool b, .int .u64 k1, .int .u64 k2, .int .i64 k3])] ?_
 refine SW_seq ?_
 refine xg ?_
 refine xn 4 [(1, [3])] [(24, .bool (c != 2))] ?_
 refine xkt 24 z2 ?_
 refine xz [(5, [3])] [(28, .bool (c != 3))] ?_
 refine xst z3 ?_
 refine xq [(1, [1])] [] [] ?_
 refine SW_ret ?_
 refine xe () (.agg #[.slice none 0 0, .slice none 0 0, .slice none 0 0, .bool false, .bool false]) [1] ?_ trivial
 rfl
end Go.Proofs.YtdbnmdchecacdaaDoor.M
end
section
namespace Go.Proofs.YtdbnmdchecacdaaDoor.M
open Go.RowKit Go.Proofs.YtdbnmdchecacdaaDoor.G Go.Proofs.YtdbnmdchecacdaaDoorV.PrintWords Go.Proofs.YtdbnmdchecacdaaDoorV.PrintLast Go.Proofs.YtdbnmdchecacdaaDoor.X
set_option linter.unusedVariables false
set_option linter.unusedSimpArgs false
theorem ct_spec_l1Reader_next (g : Nat) (A : Option Addr) (c : Nat) (bt : List Int) (a : Int) (i : Nat) (ha : Nn a i) (hi : i ≤ bt.length) (hx : bt.length ≤ 1048576) (dx : Dig 256 bt) :
  CtM Tryd.prog 118 [.pointer (some ⟨g, 0, none⟩)] [⟨g, [.slice A bt.length c, .int .i64 a], 119⟩] [Row .u8 A c bt] (γ := {p : Nat × Nat // p.1 ≤ bt.length ∧ p.2 < 256}) (fun p => .int .i64 (p.1.2 : Int)) (fun p => [⟨g, [.slice A bt.length c, .int .i64 (p.1.1 : Int)], 119⟩]) (fun _ => []) := by
 obtain ⟨rfl⟩ := ha
 refine cm_of Tryd.func118 rfl (by kernel_rfl) (fun B w0 => ?_)
 by_cases h : i < bt.length
 ·have z : decide ((i : Int) ≥ (bt.length : Int)) = false := decide_eq_false (by omega)
  refine SW_know zi0 (fun w h => row_at h (by omega)) (fun ⟨ad, e⟩ => ?_)
  subst e
  have v1 : Ve (IntKind.i64.wrap ((i : Int) + 1)) ((i + 1 : Nat) : Int) := ⟨by rw [wrap_i64 (by omega)]; rfl⟩
  have hd := dx.rd (by decide) (i : Int)
  have v2 : Ve (IntKind.i64.wrap (rd bt (i : Int))) (rd bt (i : Int)).toNat := ⟨by rw [wrap_i64 (by omega)]; omega⟩
  refine xr [] [(2, .int .i64 0)] ?_
  refine SW_seq ?_
  refine xd (fun hB => ?_)
  refine xdk [(0, []), (1, []), (2, []), (3, [0]), (4, []), (5, []), (6, []), (7, [0]), (8, []), (9, [])] [(13, .bool (decide ((i : Int) ≥ (((List.length bt) : Nat) : Int))))] hB ?_
  refine xdz ?_
  refine xsf z ?_
  refine SW_skip ?_
  refine xd (fun hB => ?_)
  refine xdk [(0, []), (1, []), (2, []), (3, [0]), (4, []), (5, []), (6, []), (7, [0])] [(21, .int .i64 (i : Int)), (17, .slice (some ad) (List.length bt) c)] hB ?_
  refine xdfi 8 hB 22 5 (ad) (List.length bt) (c) (i) IntKind.i64 ((i : Int)) ⟨rfl⟩ (by omega) ?_
  refine xdfl 9 hB 23 zi0 (i) (by omega) ?_
  refine xdk [(10, [])] [(3, .int .u8 (rd bt (i : Int)))] hB ?_
  refine xdz ?_
  refine xg ?_
  refine xn 4 [(3, [0])] [(27, .int .i64 (i : Int)), (24, .pointer (some ⟨g, 0, none⟩))] ?_
  refine xve 28 IntKind.i64 (IntKind.wrap IntKind.i64 ((i : Int) + 1)) ((((i + 1) : Nat) : Int)) v1 ?_
  refine xy [(7, [0])] [] [(0, [.slice (some ad) (List.length bt) c, .int .i64 (((i + 1) : Nat) : Int)])] ?_
  refine xg ?_
  refine xn 1 [] [(31, .int .u8 (rd bt (i : Int)))] ?_
  refine xve 32 IntKind.i64 (IntKind.wrap IntKind.i64 (rd bt (i : Int))) ((((Int.toNat (rd bt (i : Int))) : Nat) : Int)) v2 ?_
  refine xz [] [(2, .int .i64 (((Int.toNat (rd bt (i : Int))) : Nat) : Int))] ?_
  refine SW_ret ?_
  refine xmeg (.int .i64 (((Int.toNat (rd bt (i : Int))) : Nat) : Int)) [] ?_
  exact ⟨⟨(i + 1, (rd bt (i : Int)).toNat), by dsimp only; omega, by dsimp only; omega⟩, [true], rfl, rfl, zs0⟩
 ·have z : decide ((i : Int) ≥ (bt.length : Int)) = true := decide_eq_true (by omega)
  refine xr [] [(2, .int .i64 0)] ?_
  refine SW_seq ?_
  refine xd (fun hB => ?_)
  refine xdk [(0, []), (1, []), (2, []), (3, [0]), (4, []), (5, []), (6, []), (7, [0]), (8, []), (9, [])] [(13, .bool (decide ((i : Int) ≥ (((List.length bt) : Nat) : Int))))] hB ?_
  refine xdz ?_
  refine xst z ?_
  refine xr [] [(2, .int .i64 0)] ?_
  refine SW_ret ?_
  refine xmeg (.int .i64 0) [] ?_
  exact ⟨⟨(i, 0), hi, Nat.succ_pos _⟩, [true], rfl, rfl, zs0⟩
theorem wrap_u64_nat (z : Int) : ∃ y : Nat, y < 18446744073709551616 ∧ IntKind.u64.wrap z = (y : Int) := by
 refine ⟨(IntKind.u64.wrap z).toNat, ?_, ?_⟩ <;> simp [IntKind.wrap, IntKind.bits, IntKind.signed] <;> omega
theorem ct_spec_l1Reader_format (g : Nat) (A : Option Addr) (c : Nat) (bt : List Int) (a : Int) (i : Nat) (ha : Nn a i) (hi : i ≤ bt.length) (hx : bt.length ≤ 1048576) (dx : Dig 256 bt) :
  CtM Tryd.prog 95 [.pointer (some ⟨g, 0, none⟩)] [⟨g, [.slice A bt.length c, .int .i64 a], 119⟩] [Row .u8 A c bt] (γ := {p : Nat × Int // p.1 ≤ bt.length ∧ -1000 ≤ p.2 ∧ p.2 ≤ 1000}) (fun p => .int .i64 p.1.2) (fun p => [⟨g, [.slice A bt.length c, .int .i64 (p.1.1 : Int)], 119⟩]) (fun _ => []) := by
 refine cm_of Tryd.func95 rfl (by kernel_rfl) (fun B w0 => ?_)
 refine xr [] [(2, .int .i64 0)] ?_
 refine xg ?_
 refine xn 1 [] [(4, .pointer (some ⟨g, 0, none⟩))] ?_
 (refine xcm 5 [true] (ct_spec_l1Reader_next (g) (A) (c) (bt) (a) (i) ha hi hx dx) (zsS zi0 zs0) (fun zz => ?_); obtain ⟨⟨z0, z1⟩, p2⟩ := zz)
 refine xz [] [(3, .int .i64 (z1 : Int))] ?_
 refine SW_seq ?_
 refine xr [] [(7, .bool (decide ((z1 : Int) ≥ 248)))] ?_
 refine xs (decide ((z1 : Int) ≥ 248)) (fun q0 => ?_) (fun q0 => ?_)
 ·have v1 : Ve (IntKind.i64.wrap ((z1 : Int) - 252)) ((z1 : Int) - 252) := ⟨wrap_i64 (by omega)⟩
  refine xg ?_
  refine xn 1 [] [(8, .int .i64 (z1 : Int))] ?_
  refine xve 9 IntKind.i64 (IntKind.wrap IntKind.i64 ((z1 : Int) - 252)) ((z1 : Int) - 252) v1 ?_
  refine xz [] [(2, .int .i64 ((z1 : Int) - 252))] ?_
  refine SW_ret ?_
  refine xmeg (.int .i64 ((z1 : Int) - 252)) [] ?_
  exact ⟨⟨(z0, (z1 : Int) - 252), p2.1, by dsimp only; omega, by dsimp only; omega⟩, [true], rfl, rfl, zs0⟩
 ·have v1 : Ve (Int.tmod (z1 : Int) 4) ((z1 % 4 : Nat) : Int) := ⟨by rw [Int.tmod_eq_emod_of_nonneg (by omega)]; omega⟩
  refine SW_skip ?_
  refine xg ?_
  refine xn 1 [] [(10, .int .i64 (z1 : Int))] ?_
  refine xve 11 IntKind.i64 (Int.tmod (z1 : Int) 4) ((((z1 % 4) : Nat) : Int)) v1 ?_
  refine xz [] [(2, .int .i64 (((z1 % 4) : Nat) : Int))] ?_
  refine SW_ret ?_
  refine xmeg (.int .i64 (((z1 % 4) : Nat) : Int)) [] ?_
  exact ⟨⟨(z0, ((z1 % 4 : Nat) : Int)), p2.1, by dsimp only; omega, by dsimp only; omega⟩, [true], rfl, rfl, zs0⟩
theorem ct_spec_l1Reader_wide (g : Nat) (A : Option Addr) (c : Nat) (bt : List Int) (a : Int) (i : Nat) (ha : Nn a i) (hi : i ≤ bt.length) (hx : bt.length ≤ 1048576) (dx : Dig 256 bt) :
  CtM Tryd.prog 131 [.pointer (some ⟨g, 0, none⟩)] [⟨g, [.slice A bt.length c, .int .i64 a], 119⟩] [Row .u8 A c bt] (γ := {p : Nat × Nat // p.1 ≤ bt.length ∧ p.2 < 18446744073709551616}) (fun p => .int .u64 (p.1.2 : Int)) (fun p => [⟨g, [.slice A bt.length c, .int .i64 (p.1.1 : Int)], 119⟩]) (fun _ => []) := by
 obtain ⟨rfl⟩ := ha
 refine cm_of Tryd.func131 rfl (by kernel_rfl) (fun B w0 => ?_)
 refine xr [] [(2, .int .u64 0)] ?_
 refine xr [] [(3, .int .u64 0)] ?_
 refine SW_seq ?_
 refine xr [] [(4, .int .i64 0)] ?_
 refine SW_block ?_
 refine SW_loopn (fun m s => ∃ (j i' x : Nat), m + j = 8 ∧ i' ≤ bt.length ∧ x < 18446744073709551616 ∧ Weak s ⟨[(0, .pointer (some ⟨g, 0, none⟩)), (3, .int .u64 (x : Int)), (4, .int .i64 (j : Int))], [⟨g, [.slice A bt.length c, .int .i64 (i' : Int)], 119⟩], [Row .u8 A c bt]⟩) 8 ⟨0, i, 0, rfl, hi, by decide, ?_⟩ (fun m s hI => ?_)
 ·exact xw (zsS zi0 zs0)
 ·obtain ⟨j, i', x, h1, h2, h3, hw⟩ := hI
  refine SW_weak hw ?_
  clear hw
  by_cases hj : j < 8
  ·have z : decide ((j : Int) < 8) = true := decide_eq_true (by omega)
   obtain ⟨m, rfl⟩ : ∃ m', m = m' + 1 := ⟨m - 1, by omega⟩
   have v1 : Ve (IntKind.i64.wrap ((j : Int) + 1)) ((j + 1 : Nat) : Int) := ⟨by rw [wrap_i64 (by omega)]; rfl⟩
   refine SW_seq ?_
   refine xr [] [(6, .bool (decide ((j : Int) < 8)))] ?_
   refine xst z ?_
   refine SW_skip ?_
   refine SW_seq ?_
   refine SW_block ?_
   refine SW_region ?_
   refine xn 3 [] [(11, .pointer (some ⟨g, 0, none⟩)), (10, .int .u64 (IntKind.wrap IntKind.u64 ((x : Int) * 2 ^ min (Int.toNat 8) (IntKind.bits IntKind.u64))))] ?_
   (refine xcm 12 [true] (ct_spec_l1Reader_next (g) (A) (c) (bt) (((i' : Nat) : Int)) (i') ⟨rfl⟩ h2 hx dx) (zsS zi0 zs0) (fun zz => ?_); obtain ⟨⟨z0, z1⟩, p2⟩ := zz)
   refine xz [] [(3, .int .u64 (IntKind.wrap IntKind.u64 (((BitVec.toNat (BitVec.ofInt (IntKind.bits IntKind.u64) (IntKind.wrap IntKind.u64 ((x : Int) * 2 ^ min (Int.toNat 8) (IntKind.bits IntKind.u64))) ||| BitVec.ofInt (IntKind.bits IntKind.u64) (IntKind.wrap IntKind.u64 (z1 : Int)))) : Nat) : Int)))] ?_
   refine SW_region ?_
   refine xn 1 [] [(7, .int .i64 (j : Int))] ?_
   refine xve 8 IntKind.i64 (IntKind.wrap IntKind.i64 ((j : Int) + 1)) ((((j + 1) : Nat) : Int)) v1 ?_
   refine xz [] [(4, .int .i64 (((j + 1) : Nat) : Int))] ?_
   obtain ⟨y, hy, ey⟩ := wrap_u64_nat ((BitVec.toNat (BitVec.ofInt IntKind.u64.bits (IntKind.u64.wrap ((x : Int) * 2 ^ min (Int.toNat 8) IntKind.u64.bits)) ||| BitVec.ofInt IntKind.u64.bits (IntKind.u64.wrap (z1 : Int))) : Nat) : Int)
   rw [ey]
   refine ⟨m, by omega, j + 1, z0, y, by omega, p2.1, hy, ?_⟩
   exact xw (zsS zi0 zs0)
  ·have z : decide ((j : Int) < 8) = false := decide_eq_false (by omega)
   refine SW_seq ?_
   refine xr [] [(6, .bool (decide ((j : Int) < 8)))] ?_
   refine xsf z ?_
   refine SW_exit ?_
   refine xr [] [(2, .int .u64 (x : Int))] ?_
   refine SW_ret ?_
   refine xmeg (.int .u64 (x : Int)) [] ?_
   exact ⟨⟨(i', x), h2, h3⟩, [true], rfl, rfl, zs0⟩
end Go.Proofs.YtdbnmdchecacdaaDoor.M
end
