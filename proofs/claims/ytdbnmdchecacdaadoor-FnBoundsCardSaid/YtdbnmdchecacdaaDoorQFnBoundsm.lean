import Derived.Laws.ResultCell
import Derived.Test.YtdbnmdchecacdaaDoorQFnBoundsl
section
namespace Go.Proofs.YtdbnmdchecacdaaDoor.G
open Go.RowKit
set_option linter.unusedVariables false
set_option linter.unusedSimpArgs false
def table24 : Array Value := #[.int .i64 (24), .int .i64 (-126), .int .i64 (127), .int .i64 (32), .int .i64 (8), .bool false, .int .i64 (53), .int .i64 (-1022), .int .i64 (1023), .int .i64 (64), .int .i64 (11), .bool false, .int .i64 (64), .int .i64 (-16382), .int .i64 (16383), .int .i64 (80), .int .i64 (15), .bool true, .int .i64 (113), .int .i64 (-16382), .int .i64 (16383), .int .i64 (128), .int .i64 (15), .bool false]
def Tabled (w : World) : Prop := 0 < w.heap.size ∧ ∀ i : Nat, i < 24 → w.cell? ⟨0, i, none⟩ = table24[i]?
theorem results_cell_row_tmp {P : Program} {fn : Func} {p u : Tmp} {ty : TypeId} (h : fn.results = #[.cell p ty, .tmp u]) (tmps : Array Value) (w : World) (g : Nat) (t : TypeId) (cs : Array Value) (fr : Nat × Nat) (d : TypeDesc)
    (hp : tmps.getD p undef = .pointer (some ⟨g, 0, none⟩)) (hg : w.heap[g]? = some (.cells cs t fr))
    (hu : P.underlying ty = some d) (hd : (match d with | .struct _ | .array _ _ => true | _ => false) = true) (hi : (P.info? ty).map (·.size) = some cs.size) :
    (results fn tmps).run P w = .ok (.tuple #[.agg cs, tmps.getD u undef]) w := by
  rw [results_cell_tmp h, hp]
  simp [asAddr, run_loadVar_row w g t ty cs fr d hg hu hd hi, Result.andThen]
theorem isFormat_yes (f : Int) (w : World) (h0 : 0 ≤ f) (h1 : f < 4) : Calls Tryd.prog 101 #[.int .i64 f] w fun e w' => e = .returned (.bool true) ∧ w' = w := by
  go_enter Tryd.func101, Tryd.ntmps101
  go_wp2
  go_ret
  exact ⟨rfl, rfl⟩
theorem isFormat_no (f : Int) (w : World) (h : ¬ (0 ≤ f ∧ f < 4)) : Calls Tryd.prog 101 #[.int .i64 f] w fun e w' => e = .returned (.bool false) ∧ w' = w := by
  by_cases h0 : 0 ≤ f
  · have h1 : ¬ f < 4 := fun g => h ⟨h0, g⟩
    clear h
    go_enter Tryd.func101, Tryd.ntmps101
    go_wp2
    go_ret
    exact ⟨rfl, rfl⟩
  · clear h
    go_enter Tryd.func101, Tryd.ntmps101
    go_wp2
    go_ret
    exact ⟨rfl, rfl⟩
set_option maxHeartbeats 1600000 in
theorem layoutOf_0 (w : World) (hs : 0 < w.heap.size) (c0 : w.cell? ⟨0, 0, none⟩ = some (.int .i64 (24))) (c1 : w.cell? ⟨0, 1, none⟩ = some (.int .i64 (-126))) (c2 : w.cell? ⟨0, 2, none⟩ = some (.int .i64 (127))) (c3 : w.cell? ⟨0, 3, none⟩ = some (.int .i64 (32))) (c4 : w.cell? ⟨0, 4, none⟩ = some (.int .i64 (8))) (c5 : w.cell? ⟨0, 5, none⟩ = some (.bool false)) : Calls Tryd.prog 65 #[.int .i64 0] w fun e w' => e = .returned (.tuple #[.agg #[.int .i64 (24), .int .i64 (-126), .int .i64 (127), .int .i64 (32), .int .i64 (8), .bool false], .bool true]) ∧ w' = w.alloc (.cells #[.int .i64 (24), .int .i64 (-126), .int .i64 (127), .int .i64 (32), .int .i64 (8), .bool false] 91) := by
  go_enter Tryd.func65, Tryd.ntmps65
  go_wp2_with (go_at_call 101; refine (isFormat_yes _ _ (by decide) (by decide)).mono ?_; rintro e w' ⟨rfl, rfl⟩)
  refine bodyPost_ret (results_cell_row_tmp rfl _ _ w.heap.size 91 #[.int .i64 (24), .int .i64 (-126), .int .i64 (127), .int .i64 (32), .int .i64 (8), .bool false] (0, 0) _ rfl (heap_alloc_new _ _) Tryd.underlying91 rfl (by kernel_rfl)) rfl ?_
  exact ⟨rfl, rfl⟩
set_option maxHeartbeats 1600000 in
theorem layoutOf_1 (w : World) (hs : 0 < w.heap.size) (c0 : w.cell? ⟨0, 6, none⟩ = some (.int .i64 (53))) (c1 : w.cell? ⟨0, 7, none⟩ = some (.int .i64 (-1022))) (c2 : w.cell? ⟨0, 8, none⟩ = some (.int .i64 (1023))) (c3 : w.cell? ⟨0, 9, none⟩ = some (.int .i64 (64))) (c4 : w.cell? ⟨0, 10, none⟩ = some (.int .i64 (11))) (c5 : w.cell? ⟨0, 11, none⟩ = some (.bool false)) : Calls Tryd.prog 65 #[.int .i64 1] w fun e w' => e = .returned (.tuple #[.agg #[.int .i64 (53), .int .i64 (-1022), .int .i64 (1023), .int .i64 (64), .int .i64 (11), .bool false], .bool true]) ∧ w' = w.alloc (.cells #[.int .i64 (53), .int .i64 (-1022), .int .i64 (1023), .int .i64 (64), .int .i64 (11), .bool false] 91) := by
  go_enter Tryd.func65, Tryd.ntmps65
  go_wp2_with (go_at_call 101; refine (isFormat_yes _ _ (by decide) (by decide)).mono ?_; rintro e w' ⟨rfl, rfl⟩)
  refine bodyPost_ret (results_cell_row_tmp rfl _ _ w.heap.size 91 #[.int .i64 (53), .int .i64 (-1022), .int .i64 (1023), .int .i64 (64), .int .i64 (11), .bool false] (0, 0) _ rfl (heap_alloc_new _ _) Tryd.underlying91 rfl (by kernel_rfl)) rfl ?_
  exact ⟨rfl, rfl⟩
set_option maxHeartbeats 1600000 in
theorem layoutOf_2 (w : World) (hs : 0 < w.heap.size) (c0 : w.cell? ⟨0, 12, none⟩ = some (.int .i64 (64))) (c1 : w.cell? ⟨0, 13, none⟩ = some (.int .i64 (-16382))) (c2 : w.cell? ⟨0, 14, none⟩ = some (.int .i64 (16383))) (c3 : w.cell? ⟨0, 15, none⟩ = some (.int .i64 (80))) (c4 : w.cell? ⟨0, 16, none⟩ = some (.int .i64 (15))) (c5 : w.cell? ⟨0, 17, none⟩ = some (.bool true)) : Calls Tryd.prog 65 #[.int .i64 2] w fun e w' => e = .returned (.tuple #[.agg #[.int .i64 (64), .int .i64 (-16382), .int .i64 (16383), .int .i64 (80), .int .i64 (15), .bool true], .bool true]) ∧ w' = w.alloc (.cells #[.int .i64 (64), .int .i64 (-16382), .int .i64 (16383), .int .i64 (80), .int .i64 (15), .bool true] 91) := by
  go_enter Tryd.func65, Tryd.ntmps65
  go_wp2_with (go_at_call 101; refine (isFormat_yes _ _ (by decide) (by decide)).mono ?_; rintro e w' ⟨rfl, rfl⟩)
  refine bodyPost_ret (results_cell_row_tmp rfl _ _ w.heap.size 91 #[.int .i64 (64), .int .i64 (-16382), .int .i64 (16383), .int .i64 (80), .int .i64 (15), .bool true] (0, 0) _ rfl (heap_alloc_new _ _) Tryd.underlying91 rfl (by kernel_rfl)) rfl ?_
  exact ⟨rfl, rfl⟩
set_option maxHeartbeats 1600000 in
theorem layoutOf_3 (w : World) (hs : 0 < w.heap.size) (c0 : w.cell? ⟨0, 18, none⟩ = some (.int .i64 (113))) (c1 : w.cell? ⟨0, 19, none⟩ = some (.int .i64 (-16382))) (c2 : w.cell? ⟨0, 20, none⟩ = some (.int .i64 (16383))) (c3 : w.cell? ⟨0, 21, none⟩ = some (.int .i64 (128))) (c4 : w.cell? ⟨0, 22, none⟩ = some (.int .i64 (15))) (c5 : w.cell? ⟨0, 23, none⟩ = some (.bool false)) : Calls Tryd.prog 65 #[.int .i64 3] w fun e w' => e = .returned (.tuple #[.agg #[.int .i64 (113), .int .i64 (-16382), .int .i64 (16383), .int .i64 (128), .int .i64 (15), .bool false], .bool true]) ∧ w' = w.alloc (.cells #[.int .i64 (113), .int .i64 (-16382), .int .i64 (16383), .int .i64 (128), .int .i64 (15), .bool false] 91) := by
  go_enter Tryd.func65, Tryd.ntmps65
  go_wp2_with (go_at_call 101; refine (isFormat_yes _ _ (by decide) (by decide)).mono ?_; rintro e w' ⟨rfl, rfl⟩)
  refine bodyPost_ret (results_cell_row_tmp rfl _ _ w.heap.size 91 #[.int .i64 (113), .int .i64 (-16382), .int .i64 (16383), .int .i64 (128), .int .i64 (15), .bool false] (0, 0) _ rfl (heap_alloc_new _ _) Tryd.underlying91 rfl (by kernel_rfl)) rfl ?_
  exact ⟨rfl, rfl⟩
set_option maxHeartbeats 1600000 in
theorem layoutOf_no (f : Int) (w : World) (h : ¬ (0 ≤ f ∧ f < 4)) : Calls Tryd.prog 65 #[.int .i64 f] w fun e w' => e = .returned (.tuple #[.agg #[.int .i64 (0), .int .i64 (0), .int .i64 (0), .int .i64 (0), .int .i64 (0), .bool false], .bool false]) ∧ w' = w.alloc (.cells #[.int .i64 (0), .int .i64 (0), .int .i64 (0), .int .i64 (0), .int .i64 (0), .bool false] 91) := by
  have hk : Hid (¬ (0 ≤ f ∧ f < 4)) := h
  clear h
  go_enter Tryd.func65, Tryd.ntmps65
  go_wp2_with (go_at_call 101; refine (isFormat_no _ _ hk.out).mono ?_; rintro e w' ⟨rfl, rfl⟩)
  refine bodyPost_ret (results_cell_row_tmp rfl _ _ w.heap.size 91 #[.int .i64 (0), .int .i64 (0), .int .i64 (0), .int .i64 (0), .int .i64 (0), .bool false] (0, 0) _ rfl (heap_alloc_new _ _) Tryd.underlying91 rfl (by kernel_rfl)) rfl ?_
  exact ⟨rfl, rfl⟩
def impl_layoutOf.f (f : Int) : Option (Int × Int × Int × Int × Int × Bool × Bool) :=
  some (if f = 0 then (24, -126, 127, 32, 8, false, true) else if f = 1 then (53, -1022, 1023, 64, 11, false, true) else if f = 2 then (64, -16382, 16383, 80, 15, true, true) else if f = 3 then (113, -16382, 16383, 128, 15, false, true) else (0, 0, 0, 0, 0, false, false))
theorem impl_layoutOf.calls (a0 : Int) (r1 r2 r3 r4 r5 : Int) (r6 r7 : Bool) (w : World) (hT : Tabled w) (h : impl_layoutOf.f a0 = some (r1, r2, r3, r4, r5, r6, r7)) :
    Calls Tryd.prog 65 #[.int .i64 a0] w fun e w' => e = .returned (.tuple #[.agg #[.int .i64 r1, .int .i64 r2, .int .i64 r3, .int .i64 r4, .int .i64 r5, .bool r6], .bool r7]) ∧ Below w.heap.size w w' := by
  have h := Option.some.inj h
  have fin : ∀ {v : Value} {o : Obj}, (Calls Tryd.prog 65 #[.int .i64 a0] w fun e w' => e = .returned v ∧ w' = w.alloc o) → Calls Tryd.prog 65 #[.int .i64 a0] w fun e w' => e = .returned v ∧ Below w.heap.size w w' :=
    fun hc => hc.mono fun e w' ⟨he, hw⟩ => ⟨he, by rw [hw]; exact (Below.refl _ _).alloc (Nat.le_refl _) _⟩
  have hs := hT.1
  have hc := hT.2
  by_cases h0 : a0 = 0
  · subst h0
    rw [if_pos rfl] at h
    injection h with h1 h; injection h with h2 h; injection h with h3 h; injection h with h4 h; injection h with h5 h; injection h with h6 h7
    subst h1 h2 h3 h4 h5 h6 h7
    exact fin (layoutOf_0 w hs (hc 0 (by decide)) (hc 1 (by decide)) (hc 2 (by decide)) (hc 3 (by decide)) (hc 4 (by decide)) (hc 5 (by decide)))
  rw [if_neg h0] at h
  by_cases h0 : a0 = 1
  · subst h0
    rw [if_pos rfl] at h
    injection h with h1 h; injection h with h2 h; injection h with h3 h; injection h with h4 h; injection h with h5 h; injection h with h6 h7
    subst h1 h2 h3 h4 h5 h6 h7
    exact fin (layoutOf_1 w hs (hc 6 (by decide)) (hc 7 (by decide)) (hc 8 (by decide)) (hc 9 (by decide)) (hc 10 (by decide)) (hc 11 (by decide)))
  rw [if_neg h0] at h
  by_cases h0 : a0 = 2
  · subst h0
    rw [if_pos rfl] at h
    injection h with h1 h; injection h with h2 h; injection h with h3 h; injection h with h4 h; injection h with h5 h; injection h with h6 h7
    subst h1 h2 h3 h4 h5 h6 h7
    exact fin (layoutOf_2 w hs (hc 12 (by decide)) (hc 13 (by decide)) (hc 14 (by decide)) (hc 15 (by decide)) (hc 16 (by decide)) (hc 17 (by decide)))
  rw [if_neg h0] at h
  by_cases h0 : a0 = 3
  · subst h0
    rw [if_pos rfl] at h
    injection h with h1 h; injection h with h2 h; injection h with h3 h; injection h with h4 h; injection h with h5 h; injection h with h6 h7
    subst h1 h2 h3 h4 h5 h6 h7
    exact fin (layoutOf_3 w hs (hc 18 (by decide)) (hc 19 (by decide)) (hc 20 (by decide)) (hc 21 (by decide)) (hc 22 (by decide)) (hc 23 (by decide)))
  rw [if_neg h0] at h
  injection h with h1 h; injection h with h2 h; injection h with h3 h; injection h with h4 h; injection h with h5 h; injection h with h6 h7
  subst h1 h2 h3 h4 h5 h6 h7
  exact fin (layoutOf_no a0 w (by omega))
end Go.Proofs.YtdbnmdchecacdaaDoor.G
end
section
namespace Go.Proofs.YtdbnmdchecacdaaDoor.G
def spec_Describe.f (f : Int) : Option (Int × Int × Int × Int × Int × Bool) :=
 if f = 0 then some (24, -126, 127, 32, 8, false) else if f = 1 then some (53, -1022, 1023, 64, 11, false) else if f = 2 then some (64, -16382, 16383, 80, 15, true) else if f = 3 then some (113, -16382, 16383, 128, 15, false) else some (0, 0, 0, 0, 0, false)
end Go.Proofs.YtdbnmdchecacdaaDoor.G
namespace Go.Proofs.YtdbnmdchecacdaaDoor.M
open Go.RowKit Go.Proofs.YtdbnmdchecacdaaDoor.G Go.Proofs.YtdbnmdchecacdaaDoorV.PrintWords Go.Proofs.YtdbnmdchecacdaaDoorV.PrintLast Go.Proofs.YtdbnmdchecacdaaDoor.X
set_option linter.unusedVariables false
set_option linter.unusedSimpArgs false
theorem spec_Describe.calls (f : Int) (r1 r2 r3 r4 r5 : Int) (r6 : Bool) (h : spec_Describe.f f = some (r1, r2, r3, r4, r5, r6)) : CtV Tryd.prog 57 [.int .i64 f] [] (.agg #[.int .i64 r1, .int .i64 r2, .int .i64 r3, .int .i64 r4, .int .i64 r5, .bool r6]) := by
 refine ct_of Tryd.func57 rfl (by kernel_rfl) (fun B w0 => ?_)
 unfold spec_Describe.f at h
 by_cases c0 : f = 0
 ·subst c0
  rw [if_pos rfl] at h
  cases h
  refine xg ?_
  refine xb 2 [.int .i64 0, .int .i64 0, .int .i64 0, .int .i64 0, .int .i64 0, .bool false] 83 (fun g0 => ?_)
  refine xz [] [] ?_
  refine SW_seq ?_
  refine xr [] [(3, .int .i64 0)] ?_
  refine SW_block ?_
  refine xr [] [(4, .bool true)] ?_
  refine xs1 ?_
  refine xq [(1, [0])] [] [(0, [.int .i64 24, .int .i64 (-126), .int .i64 127, .int .i64 32, .int .i64 8, .bool false])] ?_
  refine SW_ret ?_
  refine xe () (.agg #[.int .i64 24, .int .i64 (-126), .int .i64 127, .int .i64 32, .int .i64 8, .bool false]) [0] ?_ trivial
  rfl
 ·rw [if_neg c0] at h
  have z0 : (f == 0) = false := by rw [beq_eq_false_iff_ne]; exact c0
  by_cases c1 : f = 1
  ·subst c1
   rw [if_pos rfl] at h
   cases h
   refine xg ?_
   refine xb 2 [.int .i64 0, .int .i64 0, .int .i64 0, .int .i64 0, .int .i64 0, .bool false] 83 (fun g0 => ?_)
   refine xz [] [] ?_
   refine SW_seq ?_
   refine xr [] [(3, .int .i64 1)] ?_
   refine SW_block ?_
   refine xr [] [(4, .bool false)] ?_
   refine xs0 ?_
   refine xr [] [(7, .bool true)] ?_
   refine xs1 ?_
   refine xq [(1, [0])] [] [(0, [.int .i64 53, .int .i64 (-1022), .int .i64 1023, .int .i64 64, .int .i64 11, .bool false])] ?_
   refine SW_ret ?_
   refine xe () (.agg #[.int .i64 53, .int .i64 (-1022), .int .i64 1023, .int .i64 64, .int .i64 11, .bool false]) [0] ?_ trivial
   rfl
  ·rw [if_neg c1] at h
   have z1 : (f == 1) = false := by rw [beq_eq_false_iff_ne]; exact c1
   by_cases c2 : f = 2
   ·subst c2
    rw [if_pos rfl] at h
    cases h
    refine xg ?_
    refine xb 2 [.int .i64 0, .int .i64 0, .int .i64 0, .int .i64 0, .int .i64 0, .bool false] 83 (fun g0 => ?_)
    refine xz [] [] ?_
    refine SW_seq ?_
    refine xr [] [(3, .int .i64 2)] ?_
    refine SW_block ?_
    refine xr [] [(4, .bool false)] ?_
    refine xs0 ?_
    refine xr [] [(7, .bool false)] ?_
    refine xs0 ?_
    refine xr [] [(10, .bool true)] ?_
    refine xs1 ?_
    refine xq [(1, [0])] [] [(0, [.int .i64 64, .int .i64 (-16382), .int .i64 16383, .int .i64 80, .int .i64 15, .bool true])] ?_
    refine SW_ret ?_
    refine xe () (.agg #[.int .i64 64, .int .i64 (-16382), .int .i64 16383, .int .i64 80, .int .i64 15, .bool true]) [0] ?_ trivial
    rfl
   ·rw [if_neg c2] at h
    have z2 : (f == 2) = false := by rw [beq_eq_false_iff_ne]; exact c2
    by_cases c3 : f = 3
    ·subst c3
     rw [if_pos rfl] at h
     cases h
     refine xg ?_
     refine xb 2 [.int .i64 0, .int .i64 0, .int .i64 0, .int .i64 0, .int .i64 0, .bool false] 83 (fun g0 => ?_)
     refine xz [] [] ?_
     refine SW_seq ?_
     refine xr [] [(3, .int .i64 3)] ?_
     refine SW_block ?_
     refine xr [] [(4, .bool false)] ?_
     refine xs0 ?_
     refine xr [] [(7, .bool false)] ?_
     refine xs0 ?_
     refine xr [] [(10, .bool false)] ?_
     refine xs0 ?_
     refine xr [] [(13, .bool true)] ?_
     refine xs1 ?_
     refine xq [(1, [0])] [] [(0, [.int .i64 113, .int .i64 (-16382), .int .i64 16383, .int .i64 128, .int .i64 15, .bool false])] ?_
     refine SW_ret ?_
     refine xe () (.agg #[.int .i64 113, .int .i64 (-16382), .int .i64 16383, .int .i64 128, .int .i64 15, .bool false]) [0] ?_ trivial
     rfl
    ·rw [if_neg c3] at h
     have z3 : (f == 3) = false := by rw [beq_eq_false_iff_ne]; exact c3
     cases h
     refine xg ?_
     refine xb 2 [.int .i64 0, .int .i64 0, .int .i64 0, .int .i64 0, .int .i64 0, .bool false] 83 (fun g0 => ?_)
     refine xz [] [] ?_
     refine SW_seq ?_
     refine xr [] [(3, .int .i64 f)] ?_
     refine SW_block ?_
     refine xr [] [(4, .bool (f == 0))] ?_
     refine xsf z0 ?_
     refine xr [] [(7, .bool (f == 1))] ?_
     refine xsf z1 ?_
     refine xr [] [(10, .bool (f == 2))] ?_
     refine xsf z2 ?_
     refine xr [] [(13, .bool (f == 3))] ?_
     refine xsf z3 ?_
     refine SW_skip ?_
     refine xq [(1, [0])] [] [] ?_
     refine SW_ret ?_
     refine xe () (.agg #[.int .i64 0, .int .i64 0, .int .i64 0, .int .i64 0, .int .i64 0, .bool false]) [0] ?_ trivial
     rfl
theorem ct_spec_Describe {P : Nat} {emin emax : Int} {W E : Nat} {ex : Bool} (f : Int) (hf : spec_Describe.f f = some ((P : Int), emin, emax, (W : Int), (E : Int), ex)) : CtV Tryd.prog 57 [.int .i64 f] [] (dscV P emin emax W E ex) := spec_Describe.calls f _ _ _ _ _ _ hf
theorem ct_impl_layoutOf {P : Nat} {emin emax : Int} {W E : Nat} {ex : Bool} (f : Int) (hf : impl_layoutOf.f f = some ((P : Int), emin, emax, (W : Int), (E : Int), ex, true)) : CtV Tryd.prog 65 [.int .i64 f] [Tabled] (.tuple #[dscV P emin emax W E ex, .bool true]) :=
 ctV1 (fun w h1 => impl_layoutOf.calls _ _ _ _ _ _ _ _ w h1 hf)
theorem ct_impl_layout_fracBits {P : Nat} {emin emax : Int} {W E : Nat} {ex : Bool} (h : Fmt P emin emax W E ex) : CtV Tryd.prog 67 [.agg #[.int .i64 P, .int .i64 emin, .int .i64 emax, .int .i64 W, .int .i64 E, .bool ex]] [] (.int .i64 (fracN P ex)) := by
 refine ct_of Tryd.func67 rfl (by kernel_rfl) (fun B w0 => ?_)
 have hp0 := h.p0
 have hp1 := h.p1
 have v1 : Ve (IntKind.i64.wrap ((P : Int) - 1)) ((P - 1 : Nat) : Int) := veI (by omega) (by omega)
 unfold fracN
 cases ex with
 | true =>
  refine xg ?_
  refine xb 1 [.int .i64 (P : Int), .int .i64 emin, .int .i64 emax, .int .i64 (W : Int), .int .i64 (E : Int), .bool true] 91 (fun g0 => ?_)
  refine xz [] [(2, .int .i64 0)] ?_
  refine SW_seq ?_
  refine xr [(2, [0])] [(5, .bool true)] ?_
  refine xs1 ?_
  refine xr [(2, [0])] [(2, .int .i64 (P : Int))] ?_
  refine SW_ret ?_
  refine xe () (.int .i64 (P : Int)) [] ?_ trivial
  rfl
 | false =>
  refine xg ?_
  refine xb 1 [.int .i64 (P : Int), .int .i64 emin, .int .i64 emax, .int .i64 (W : Int), .int .i64 (E : Int), .bool false] 91 (fun g0 => ?_)
  refine xz [] [(2, .int .i64 0)] ?_
  refine SW_seq ?_
  refine xr [(2, [0])] [(5, .bool false)] ?_
  refine xs0 ?_
  refine SW_skip ?_
  refine xg ?_
  refine xn 3 [(2, [0])] [(11, .int .i64 (P : Int))] ?_
  refine xve 12 IntKind.i64 (IntKind.wrap IntKind.i64 ((P : Int) - 1)) ((((P - 1) : Nat) : Int)) v1 ?_
  refine xz [] [(2, .int .i64 (((P - 1) : Nat) : Int))] ?_
  refine SW_ret ?_
  refine xe () (.int .i64 (((P - 1) : Nat) : Int)) [] ?_ trivial
  rfl
theorem ct_impl_layout_top {P : Nat} {emin emax : Int} {W E : Nat} {ex : Bool} (h : Fmt P emin emax W E ex) : CtV Tryd.prog 69 [.agg #[.int .i64 P, .int .i64 emin, .int .i64 emax, .int .i64 W, .int .i64 E, .bool ex]] [] (.int .i64 ((2 ^ E - 1 : Nat) : Int)) := by
 refine ct_of Tryd.func69 rfl (by kernel_rfl) (fun B w0 => ?_)
 have hE := h.plt
 have he1 := h.e1
 have hp : 0 < 2 ^ E := Nat.pow_pos (by decide)
 have v1 : Ve (shl .i64 1 (E : Int)) ((2 ^ E : Nat) : Int) := ⟨by
  unfold shl
  rw [Int.toNat_natCast, show IntKind.i64.bits = 64 from rfl, Nat.min_eq_left (by omega), show ((1 : Int) * 2 ^ E) = ((2 ^ E : Nat) : Int) by simp]
  exact wrap_i64 (by omega)⟩
 have v2 : Ve (IntKind.i64.wrap (((2 ^ E : Nat) : Int) - 1)) ((2 ^ E - 1 : Nat) : Int) := veI (by omega) (by omega)
 refine xg ?_
 refine xb 1 [.int .i64 (P : Int), .int .i64 emin, .int .i64 emax, .int .i64 (W : Int), .int .i64 (E : Int), .bool ex] 91 (fun g0 => ?_)
 refine xz [] [(2, .int .i64 0)] ?_
 refine xg ?_
 refine xn 3 [(2, [0])] [(5, .int .i64 (E : Int))] ?_
 refine xve 6 IntKind.i64 (shl IntKind.i64 1 (E : Int)) ((((2 ^ E) : Nat) : Int)) v1 ?_
 refine xve 7 IntKind.i64 (IntKind.wrap IntKind.i64 ((((2 ^ E) : Nat) : Int) - 1)) ((((2 ^ E - 1) : Nat) : Int)) v2 ?_
 refine xz [] [(2, .int .i64 (((2 ^ E - 1) : Nat) : Int))] ?_
 refine SW_ret ?_
 refine xe () (.int .i64 (((2 ^ E - 1) : Nat) : Int)) [] ?_ trivial
 rfl
theorem ct_impl_layout_qMin {P : Nat} {emin emax : Int} {W E : Nat} {ex : Bool} (h : Fmt P emin emax W E ex) : CtV Tryd.prog 70 [.agg #[.int .i64 P, .int .i64 emin, .int .i64 emax, .int .i64 W, .int .i64 E, .bool ex]] [] (.int .i64 (emin - P + 1)) := by
 refine ct_of Tryd.func70 rfl (by kernel_rfl) (fun B w0 => ?_)
 have hp1 := h.p1
 have m0 := h.m0
 have v1 : Ve (IntKind.i64.wrap (emin - (P : Int))) (emin - (P : Int)) := ⟨wrap_i64 (by omega)⟩
 have v2 : Ve (IntKind.i64.wrap (emin - (P : Int) + 1)) (emin - (P : Int) + 1) := ⟨wrap_i64 (by omega)⟩
 refine xg ?_
 refine xb 1 [.int .i64 (P : Int), .int .i64 emin, .int .i64 emax, .int .i64 (W : Int), .int .i64 (E : Int), .bool ex] 91 (fun g0 => ?_)
 refine xz [] [(2, .int .i64 0)] ?_
 refine xg ?_
 refine xn 6 [(2, [0]), (5, [0])] [(8, .int .i64 (P : Int)), (5, .int .i64 emin)] ?_
 refine xve 9 IntKind.i64 (IntKind.wrap IntKind.i64 (emin - (P : Int))) (emin - (P : Int)) v1 ?_
 refine xve 10 IntKind.i64 (IntKind.wrap IntKind.i64 (emin - (P : Int) + 1)) (emin - (P : Int) + 1) v2 ?_
 refine xz [] [(2, .int .i64 (emin - (P : Int) + 1))] ?_
 refine SW_ret ?_
 refine xe () (.int .i64 (emin - (P : Int) + 1)) [] ?_ trivial
 rfl
end Go.Proofs.YtdbnmdchecacdaaDoor.M
end
section
namespace Go.Proofs.YtdbnmdchecacdaaDoor.M
open Go.RowKit Go.Proofs.YtdbnmdchecacdaaDoor.G Go.Proofs.YtdbnmdchecacdaaDoorV.PrintWords Go.Proofs.YtdbnmdchecacdaaDoorV.PrintLast Go.Proofs.YtdbnmdchecacdaaDoor.X
set_option linter.unusedVariables false
set_option linter.unusedSimpArgs false
def below (x y : Nat) (k : Int) : Bool := if 0 ≤ k then decide (x < y * 2 ^ k.toNat) else decide (x * 2 ^ (-k).toNat < y)
theorem cmpN_neg (x y : Nat) : decide (cmpN x y < 0) = decide (x < y) := by
 rw [decide_eq_decide]
 unfold cmpN
 by_cases h : x < y
 ·rw [if_pos h]; exact ⟨fun _ => h, fun _ => by decide⟩
 ·rw [if_neg h]
  split <;> exact ⟨fun h2 => absurd h2 (by decide), fun h2 => absurd h2 h⟩
theorem ct_impl_lesser (x y : Nat) (A A' : Option Addr) (c c' : Nat) (k : Int) (hk : -100000 ≤ k ∧ k ≤ 100000) (hx : Sm x) (hy : Sm y) (hx2 : Sm (x * 2 ^ (-k).toNat)) (hy2 : Sm (y * 2 ^ k.toNat)) : CtV Tryd.prog 149 [.slice A (ofN B64 x).length c, .slice A' (ofN B64 y).length c', .int .i64 k] [Row .u64 A c (ofN B64 x), Row .u64 A' c' (ofN B64 y)] (.bool (below x y k)) := by
 refine ct_of Tryd.func149 rfl (by kernel_rfl) (fun B w0 => ?_)
 unfold below
 by_cases h : 0 ≤ k
 ·have z : decide (k ≥ 0) = true := decide_eq_true h
  rw [if_pos h, ← cmpN_neg]
  have ct := ct_impl_nat_left y A' c' k k.toNat ⟨by omega⟩ (by omega) hy
  refine xr [] [(6, .bool false)] ?_
  refine SW_seq ?_
  refine xr [] [(8, .bool (decide (k ≥ 0)))] ?_
  refine xst z ?_
  refine xg ?_
  refine xn 3 [] [(11, .int .i64 k), (10, .slice A' (List.length (ofN B64 y)) c'), (9, .slice A (List.length (ofN B64 x)) c)] ?_
  refine xcr 12 ct (zsS (ziS zi0) zs0) (fun A0 k0 => ?_)
  refine xcv 13 (ct_impl_nat_cmp (x) (y * 2 ^ Int.toNat k) (A) (A0) (c) (k0) hx hy2) (zsS (ziS zi0) (zsS zi0 zs0)) ?_
  refine xz [] [(6, .bool (decide (cmpN x (y * 2 ^ Int.toNat k) < 0)))] ?_
  refine SW_ret ?_
  refine xe () (.bool (decide (cmpN x (y * 2 ^ Int.toNat k) < 0))) [] ?_ trivial
  rfl
 ·have z : decide (k ≥ 0) = false := decide_eq_false h
  have v1 : Ve (IntKind.i64.wrap (0 - k)) (((-k).toNat : Nat) : Int) := ⟨by rw [wrap_i64 (by omega)]; omega⟩
  rw [if_neg h, ← cmpN_neg]
  have ct := ct_impl_nat_left x A c (((-k).toNat : Nat) : Int) (-k).toNat ⟨rfl⟩ (by omega) hx
  refine xr [] [(6, .bool false)] ?_
  refine SW_seq ?_
  refine xr [] [(8, .bool (decide (k ≥ 0)))] ?_
  refine xsf z ?_
  refine SW_skip ?_
  refine xg ?_
  refine xn 2 [] [(16, .int .i64 k), (15, .slice A (List.length (ofN B64 x)) c)] ?_
  refine xve 17 IntKind.i64 (IntKind.wrap IntKind.i64 (0 - k)) ((((Int.toNat (-k)) : Nat) : Int)) v1 ?_
  refine xcr 18 ct (zsS zi0 zs0) (fun A0 k0 => ?_)
  refine xn 5 [] [(19, .slice A' (List.length (ofN B64 y)) c')] ?_
  refine xcv 20 (ct_impl_nat_cmp (x * 2 ^ Int.toNat (-k)) (y) (A0) (A') (k0) (c') hx2 hy) (zsS zi0 (zsS (ziS (ziS zi0)) zs0)) ?_
  refine xz [] [(6, .bool (decide (cmpN (x * 2 ^ Int.toNat (-k)) y < 0)))] ?_
  refine SW_ret ?_
  refine xe () (.bool (decide (cmpN (x * 2 ^ Int.toNat (-k)) y < 0))) [] ?_ trivial
  rfl
end Go.Proofs.YtdbnmdchecacdaaDoor.M
end
section
namespace Go.Proofs.YtdbnmdchecacdaaDoor.M
open Go.RowKit Go.Proofs.YtdbnmdchecacdaaDoor.G Go.Proofs.YtdbnmdchecacdaaDoorV.PrintWords Go.Proofs.YtdbnmdchecacdaaDoorV.PrintLast Go.Proofs.YtdbnmdchecacdaaDoor.X
set_option linter.unusedVariables false
set_option linter.unusedSimpArgs false
def makeN (P W : Nat) (ex : Bool) (neg lead : Bool) (exp rest : Nat) : Nat :=
 rest + (if ex = true ∧ lead = true then 2 ^ (P - 1) else 0) + exp * 2 ^ fracN P ex + (if neg = true then 2 ^ (W - 1) else 0)
theorem makeN_lt {P : Nat} {emin emax : Int} {W E : Nat} {ex : Bool} (h : Fmt P emin emax W E ex) (neg lead : Bool) (exp rest : Nat) (he : exp < 2 ^ E) (hr : rest < 2 ^ (P - 1)) : makeN P W ex neg lead exp rest < 2 ^ W := by
 have hw1 := h.w1
 have p0 := h.p0
 unfold makeN
 have h1 : rest + (if ex = true ∧ lead = true then 2 ^ (P - 1) else 0) < 2 ^ fracN P ex := by
  unfold fracN
  cases ex with
  | true =>
   rw [if_pos rfl]
   have h2 : 2 ^ P = 2 ^ (P - 1) * 2 := by rw [← Nat.pow_succ]; congr 1; omega
   split <;> omega
  | false =>
   rw [if_neg (show ¬ (false = true ∧ lead = true) from fun a => absurd a.1 (by decide)), if_neg (show ¬ false = true by decide)]
   exact hr
 have h3 : (rest + (if ex = true ∧ lead = true then 2 ^ (P - 1) else 0)) + exp * 2 ^ fracN P ex < 2 ^ (W - 1) := by
  have e1 : 2 ^ (W - 1) = 2 ^ E * 2 ^ fracN P ex := by rw [← Nat.pow_add]; congr 1; omega
  rw [e1]
  have h4 : (exp + 1) * 2 ^ fracN P ex ≤ 2 ^ E * 2 ^ fracN P ex := Nat.mul_le_mul_right _ he
  rw [Nat.add_mul, Nat.one_mul] at h4
  omega
 have h5 : 2 ^ W = 2 ^ (W - 1) * 2 := by rw [← Nat.pow_succ]; congr 1; omega
 rw [h5]
 generalize (rest + (if ex = true ∧ lead = true then 2 ^ (P - 1) else 0)) + exp * 2 ^ fracN P ex = X at *
 generalize 2 ^ (W - 1) = Y at *
 split <;> omega
theorem Weak.mk' {s t : St} (he : t.env.map (fun p => X.look s.env p.1) = t.env.map (fun p => some p.2)) (hb : s.bs = t.bs) (hf : Sub t.fs s.fs) : Weak s t := by
 refine Weak.of ?_ hb hf
 have : ∀ l : List (Nat × Value), l.map (fun p => X.look s.env p.1) = l.map (fun p => some p.2) → lookAll s.env l := by
  intro l
  induction l with
  | nil => intro _; trivial
  | cons p r ih =>
   intro h
   simp only [List.map_cons, List.cons.injEq] at h
   exact ⟨h.1, ih h.2⟩
 exact this _ he
theorem sm128 {x : Nat} (h : x < 2 ^ 250) : Sm x := Sm.of (k := 250) h (by decide)
theorem ct_spec_l2Make {P : Nat} {emin emax : Int} {W E : Nat} {ex : Bool} (h : Fmt P emin emax W E ex) (neg lead : Bool) (exp rest : Nat) (he : exp < 2 ^ E) (hr : rest < 2 ^ (P - 1)) (a : Int) (hea : Nn a exp) (A : Option Addr) (c : Nat) :
  CtV Tryd.prog 78 [dscV P emin emax W E ex, .bool neg, .int .i64 a, .bool lead, .slice A (ofN B32 rest).length c] [Row .u64 A c (ofN B32 rest)] (.agg #[.int .u64 (hiI (makeN P W ex neg lead exp rest)), .int .u64 (loI (makeN P W ex neg lead exp rest))]) := by
 obtain ⟨rfl⟩ := hea
 have p0 := h.p0
 have p1 := h.p1
 have w1 := h.w1
 have w2 := h.w2
 have hlt := makeN_lt h neg lead exp rest he hr
 have h128 : 2 ^ W ≤ B128 := Nat.pow_le_pow_right (n := 2) (by decide) w2
 have hP1 : 2 ^ (P - 1) ≤ 2 ^ 128 := Nat.pow_le_pow_right (by decide) (by omega)
 have s1 : Sm rest := sm128 (by omega)
 have s2 : Sm (2 ^ (P - 1)) := sm128 (by omega)
 have nP : Nn (IntKind.i64.wrap ((P : Int) - 1)) (P - 1) := Nn.wrap (by omega) (by omega)
 have nW : Nn (IntKind.i64.wrap ((W : Int) - 1)) (W - 1) := Nn.wrap (by omega) (by omega)
 have hB : 2 ^ E ≤ 2 ^ 15 := Nat.pow_le_pow_right (by decide) h.e1
 have n1 : Nn (IntKind.u64.wrap (exp : Int)) exp := ⟨wrap_u64_id (by omega)⟩
 have n2 : exp < 18446744073709551616 := by omega
 have s3 : Sm exp := sm128 (by omega)
 have hF : fracN P ex ≤ 113 := by unfold fracN; split <;> omega
 have nF : fracN P ex = if ex = true then P else P - 1 := rfl
 refine ct_of Tryd.func78 rfl (by kernel_rfl) (fun B w0 => ?_)
 refine xg ?_
 refine xb 5 [.int .i64 (P : Int), .int .i64 emin, .int .i64 emax, .int .i64 (W : Int), .int .i64 (E : Int), .bool ex] 83 (fun g0 => ?_)
 refine xb 10 [.int .u64 0, .int .u64 0] 25 (fun g1 => ?_)
 refine xz [] [] ?_
 refine xr [] [(11, .slice A (List.length (ofN B32 rest)) c)] ?_
 refine xr [(1, [0])] [(12, .int .i64 (IntKind.wrap IntKind.i64 ((P : Int) - 1)))] ?_
 refine SW_cut (fun s' => ∃ a x A1 c1, Nn a (fracN P ex) ∧ x = rest + (if ex = true ∧ lead = true then 2 ^ (P - 1) else 0) ∧ Weak s' ⟨[(1, .bool neg), (2, .int .i64 exp), (5, .pointer (some ⟨g0, 0, none⟩)), (10, .pointer (some ⟨g1, 0, none⟩)), (11, .slice A1 (ofN B32 x).length c1), (12, .int .i64 a)], [⟨g0, [.int .i64 P, .int .i64 emin, .int .i64 emax, .int .i64 W, .int .i64 E, .bool ex], 83⟩, ⟨g1, [.int .u64 0, .int .u64 0], 25⟩], [Row .u64 A1 c1 (ofN B32 x)]⟩) ?_ ?_
 ·refine xr [(1, [0])] [(18, .bool ex)] ?_
  refine xs (ex) (fun q0 => ?_) (fun q0 => ?_)
  ·refine xr [(1, [0])] [(12, .int .i64 (P : Int))] ?_
   refine xr [] [(21, .bool lead)] ?_
   refine xs (lead) (fun q1 => ?_) (fun q1 => ?_)
   ·refine SW_region ?_
    refine xn 4 [(2, [0])] [(25, .int .i64 (IntKind.wrap IntKind.i64 ((P : Int) - 1))), (22, .slice A (List.length (ofN B32 rest)) c)] ?_
    refine xcr 26 (ct_spec_l2Two (IntKind.wrap IntKind.i64 ((P : Int) - 1)) (P - 1) nP (by omega)) zs0 (fun A0 k0 => ?_)
    refine xcr 27 (ct_spec_l1Add (rest) (2 ^ (P - 1)) (A) (A0) (c) (k0) s1 s2) (zsS (ziS zi0) (zsS zi0 zs0)) (fun A1 k1 => ?_)
    refine xz [] [(11, .slice A1 (List.length (ofN B32 (rest + 2 ^ (P - 1)))) k1)] ?_
    refine ⟨(P : Int), _, A1, k1, ⟨by rw [nF, if_pos q0]⟩, rfl, ?_⟩
    rw [if_pos ⟨q0, q1⟩]
    exact Weak.mk' (by kernel_rfl) rfl (zsS zi0 zs0)
   ·refine SW_skip ?_
    refine ⟨(P : Int), _, A, c, ⟨by rw [nF, if_pos q0]⟩, rfl, ?_⟩
    rw [if_neg (fun z => by rw [z.2] at q1; cases q1)]
    exact Weak.mk' (by kernel_rfl) rfl (zsS zi0 zs0)
  ·refine SW_skip ?_
   refine ⟨IntKind.i64.wrap ((P : Int) - 1), _, A, c, ⟨by rw [nF, if_neg (by rw [q0]; decide)]; exact nP.out⟩, rfl, ?_⟩
   rw [if_neg (fun z => by rw [z.1] at q0; cases q0)]
   exact Weak.mk' (by kernel_rfl) rfl (zsS zi0 zs0)
 ·rintro s' ⟨a, x, A1, c1, na, hx, hw⟩
  refine SW_weak hw ?_
  have hm : makeN P W ex neg lead exp rest = x + exp * 2 ^ fracN P ex + (if neg = true then 2 ^ (W - 1) else 0) := by rw [hx]; rfl
  rw [hm] at hlt ⊢
  have hW1 : 2 ^ (W - 1) ≤ 2 ^ 128 := Nat.pow_le_pow_right (by decide) (by omega)
  have hl0 : x + exp * 2 ^ fracN P ex < 2 ^ 128 := Nat.lt_of_le_of_lt (Nat.le_add_right _ _) (Nat.lt_of_lt_of_le hlt h128)
  have hl1 : x + exp * 2 ^ fracN P ex + (if neg = true then 2 ^ (W - 1) else 0) < B128 := Nat.lt_of_lt_of_le hlt h128
  have s4 : Sm x := sm128 (by omega)
  have s5 : Sm (exp * 2 ^ fracN P ex) := sm128 (by omega)
  have s6 : Sm (x + exp * 2 ^ fracN P ex) := sm128 (by omega)
  have s7 : Sm (2 ^ (W - 1)) := sm128 (by omega)
  refine xg ?_
  refine xn 3 [] [(30, .int .u64 (IntKind.wrap IntKind.u64 (exp : Int))), (28, .slice A1 (List.length (ofN B32 x)) c1)] ?_
  refine xcr 31 (ct_spec_l1Of (IntKind.wrap IntKind.u64 (exp : Int)) (exp) n1 n2) zs0 (fun A2 k2 => ?_)
  refine xn 5 [] [(32, .int .i64 a)] ?_
  refine xcr 33 (ct_spec_l1Left (exp) (A2) (k2) (a) (fracN P ex) na (by omega) s3) (zsS zi0 zs0) (fun A3 k3 => ?_)
  refine xcr 34 (ct_spec_l1Add (x) (exp * 2 ^ fracN P ex) (A1) (A3) (c1) (k3) s4 s5) (zsS (ziS (ziS zi0)) (zsS zi0 zs0)) (fun A4 k4 => ?_)
  refine xz [] [(11, .slice A4 (List.length (ofN B32 (x + exp * 2 ^ fracN P ex))) k4)] ?_
  refine SW_cut (fun s' => ∃ A2 c2, Weak s' ⟨[(10, .pointer (some ⟨g1, 0, none⟩)), (11, .slice A2 (ofN B32 (x + exp * 2 ^ fracN P ex + (if neg = true then 2 ^ (W - 1) else 0))).length c2)], [⟨g0, [.int .i64 P, .int .i64 emin, .int .i64 emax, .int .i64 W, .int .i64 E, .bool ex], 83⟩, ⟨g1, [.int .u64 0, .int .u64 0], 25⟩], [Row .u64 A2 c2 (ofN B32 (x + exp * 2 ^ fracN P ex + (if neg = true then 2 ^ (W - 1) else 0)))]⟩) ?_ ?_
  ·refine xr [] [(35, .bool neg)] ?_
   refine xs (neg) (fun q0 => ?_) (fun q0 => ?_)
   ·refine SW_region ?_
    refine xn 4 [(2, [0])] [(39, .int .i64 (IntKind.wrap IntKind.i64 ((W : Int) - 1))), (36, .slice A4 (List.length (ofN B32 (x + exp * 2 ^ fracN P ex))) k4)] ?_
    refine xcr 40 (ct_spec_l2Two (IntKind.wrap IntKind.i64 ((W : Int) - 1)) (W - 1) nW (by omega)) zs0 (fun A5 k5 => ?_)
    refine xcr 41 (ct_spec_l1Add (x + exp * 2 ^ fracN P ex) (2 ^ (W - 1)) (A4) (A5) (k4) (k5) s6 s7) (zsS (ziS zi0) (zsS zi0 zs0)) (fun A6 k6 => ?_)
    refine xz [] [(11, .slice A6 (List.length (ofN B32 (x + exp * 2 ^ fracN P ex + 2 ^ (W - 1)))) k6)] ?_
    refine ⟨A6, k6, ?_⟩
    rw [if_pos q0]
    exact Weak.mk' (by kernel_rfl) rfl (zsS zi0 zs0)
   ·refine SW_skip ?_
    refine ⟨A4, k4, ?_⟩
    rw [if_neg (by rw [q0]; decide), Nat.add_zero]
    exact Weak.mk' (by kernel_rfl) rfl (zsS zi0 zs0)
  ·rintro s' ⟨A2, c2, hw⟩
   refine SW_weak hw ?_
   refine xg ?_
   refine xn 1 [] [(42, .slice A2 (List.length (ofN B32 (x + exp * 2 ^ fracN P ex + if neg = true then 2 ^ (W - 1) else 0))) c2)] ?_
   refine xcv 43 (ct_spec_l2Word (x + exp * 2 ^ fracN P ex + if neg = true then 2 ^ (W - 1) else 0) (A2) (c2) hl1) (zsS zi0 zs0) ?_
   refine xy [(2, [1])] [] [(1, [.int .u64 (hiI (x + exp * 2 ^ fracN P ex + if neg = true then 2 ^ (W - 1) else 0)), .int .u64 (loI (x + exp * 2 ^ fracN P ex + if neg = true then 2 ^ (W - 1) else 0))])] ?_
   refine SW_ret ?_
   refine xe () (.agg #[.int .u64 (hiI (x + exp * 2 ^ fracN P ex + if neg = true then 2 ^ (W - 1) else 0)), .int .u64 (loI (x + exp * 2 ^ fracN P ex + if neg = true then 2 ^ (W - 1) else 0))]) [1] ?_ trivial
   rfl
theorem ct_spec_l2Make' {P : Nat} {emin emax : Int} {W E : Nat} {ex : Bool} (h : Fmt P emin emax W E ex) (neg lead : Bool) (exp : Nat) (he : exp < 2 ^ E) (a : Int) (hea : Nn a exp) :
  CtV Tryd.prog 78 [dscV P emin emax W E ex, .bool neg, .int .i64 a, .bool lead, .slice none 0 0] [] (.agg #[.int .u64 (hiI (makeN P W ex neg lead exp 0)), .int .u64 (loI (makeN P W ex neg lead exp 0))]) := by
 have := ct_spec_l2Make h neg lead exp 0 he (Nat.pow_pos (by decide)) a hea none 0
 rw [ofN_nil B32_2] at this
 exact Ct_drop (Row_nil _ _) this
end Go.Proofs.YtdbnmdchecacdaaDoor.M
end
section
namespace Go.Proofs.YtdbnmdchecacdaaDoor.M
open Go.RowKit Go.Proofs.YtdbnmdchecacdaaDoor.G Go.Proofs.YtdbnmdchecacdaaDoorV.PrintWords Go.Proofs.YtdbnmdchecacdaaDoorV.PrintLast Go.Proofs.YtdbnmdchecacdaaDoor.X
set_option linter.unusedVariables false
set_option linter.unusedSimpArgs false
structure Fmt2 (P : Nat) (emin emax : Int) (W E : Nat) (ex : Bool) : Prop extends Fmt P emin emax W E ex where
  top : 2 * emax + 1 = ((2 ^ E - 1 : Nat) : Int)
  mn : emin = 1 - emax
  p3 : 3 ≤ P
theorem fmt2_0 : Fmt2 24 (-126) 127 32 8 false := ⟨fmt0, by decide, by decide, by decide⟩
theorem fmt2_1 : Fmt2 53 (-1022) 1023 64 11 false := ⟨fmt1, by decide, by decide, by decide⟩
theorem fmt2_2 : Fmt2 64 (-16382) 16383 80 15 true := ⟨fmt2, by decide, by decide, by decide⟩
theorem fmt2_3 : Fmt2 113 (-16382) 16383 128 15 false := ⟨fmt3, by decide, by decide, by decide⟩
theorem hilo_inj {a b : Nat} (h1 : hiI a = hiI b) (h2 : loI a = loI b) : a = b := by
  unfold hiI at h1
  unfold loI at h2
  omega
section
variable {P : Nat} {emin emax : Int} {W E : Nat} {ex : Bool}
theorem unp_make (h : Fmt P emin emax W E ex) (neg : Bool) (e rest : Nat) (he : e < 2 ^ E) (hr : rest < 2 ^ (P - 1)) : unpN P emin emax W E ex (makeN P W ex neg (decide (e ≠ 0)) e rest) = partsOf P emin emax E e neg rest := by
  have hw1 := h.w1
  have p0 := h.p0
  have hlt := makeN_lt h neg (decide (e ≠ 0)) e rest he hr
  unfold unpN
  rw [if_neg (Nat.not_le.2 hlt)]
  obtain ⟨low, hlow⟩ : ∃ low, low = rest + (if ex = true ∧ decide (e ≠ 0) = true then 2 ^ (P - 1) else 0) := ⟨_, rfl⟩
  have hl : low < 2 ^ fracN P ex := by
    rw [hlow]
    unfold fracN
    cases ex with
    | true =>
      rw [if_pos rfl]
      have h2 : 2 ^ P = 2 ^ (P - 1) * 2 := by rw [← Nat.pow_succ]; congr 1; omega
      split <;> omega
    | false =>
      rw [if_neg (show ¬ (false = true ∧ decide (e ≠ 0) = true) from fun a => absurd a.1 (by decide)), if_neg (show ¬ false = true by decide)]
      exact hr
  have hm : makeN P W ex neg (decide (e ≠ 0)) e rest = low + (e + (if neg = true then 2 ^ E else 0)) * 2 ^ fracN P ex := by
    unfold makeN
    rw [← hlow, Nat.add_mul, Nat.add_assoc]
    congr 2
    cases neg with
    | true => rw [if_pos rfl, if_pos rfl, ← Nat.pow_add]; congr 1; omega
    | false => rw [if_neg (by decide), if_neg (by decide), Nat.zero_mul]
  have hp : 0 < 2 ^ fracN P ex := Nat.pow_pos (by decide)
  have m1 : makeN P W ex neg (decide (e ≠ 0)) e rest % 2 ^ fracN P ex = low := by rw [hm, Nat.add_mul_mod_self_right, Nat.mod_eq_of_lt hl]
  have m2 : makeN P W ex neg (decide (e ≠ 0)) e rest / 2 ^ fracN P ex = e + (if neg = true then 2 ^ E else 0) := by rw [hm, Nat.add_mul_div_right _ _ hp, Nat.div_eq_of_lt hl, Nat.zero_add]
  have m3 : (e + (if neg = true then 2 ^ E else 0)) % 2 ^ E = e := by
    cases neg with
    | true => rw [if_pos rfl, Nat.add_mod_right, Nat.mod_eq_of_lt he]
    | false => rw [if_neg (by decide), Nat.add_zero, Nat.mod_eq_of_lt he]
  have m4 : decide (makeN P W ex neg (decide (e ≠ 0)) e rest / 2 ^ (W - 1) % 2 = 1) = neg := by
    have : 2 ^ (W - 1) = 2 ^ fracN P ex * 2 ^ E := by rw [← Nat.pow_add]; congr 1; omega
    rw [this, ← Nat.div_div_eq_div_mul, m2]
    have hE : 0 < 2 ^ E := Nat.pow_pos (by decide)
    cases neg with
    | true =>
      rw [if_pos rfl, Nat.add_div_right _ hE, Nat.div_eq_of_lt he]
      rfl
    | false =>
      rw [if_neg (by decide), Nat.add_zero, Nat.div_eq_of_lt he]
      rfl
  rw [m4]
  cases ex with
  | false =>
    have hf : fracN P false = P - 1 := rfl
    rw [hf] at m1 m2
    rw [if_neg (by decide), m1, m2, m3, hlow, if_neg (show ¬ (false = true ∧ decide (e ≠ 0) = true) from fun a => absurd a.1 (by decide)), Nat.add_zero]
  | true =>
    have hf : fracN P true = P := rfl
    rw [hf] at m1 m2
    rw [if_pos rfl, m1, m2, m3]
    have hq : low % 2 ^ (P - 1) = rest := by
      rw [hlow]
      split
      · rw [Nat.add_mod_right, Nat.mod_eq_of_lt hr]
      · rw [Nat.add_zero, Nat.mod_eq_of_lt hr]
    rw [hq, if_pos]
    rw [hlow]
    by_cases h0 : e = 0
    · rw [if_neg (by simp [h0])]
      exact ⟨fun z => by omega, fun z => absurd h0 z⟩
    · rw [if_pos (by simp [h0])]
      exact ⟨fun _ => h0, fun _ => by omega⟩
theorem unp_cases (w : Nat) : unpN P emin emax W E ex w = badP ∨ ∃ e neg rest, e < 2 ^ E ∧ rest < 2 ^ (P - 1) ∧ unpN P emin emax W E ex w = partsOf P emin emax E e neg rest := by
  have h1 : ∀ z : Nat, z % 2 ^ E < 2 ^ E := fun z => Nat.mod_lt _ (Nat.pow_pos (by decide))
  have h2 : ∀ z : Nat, z % 2 ^ (P - 1) < 2 ^ (P - 1) := fun z => Nat.mod_lt _ (Nat.pow_pos (by decide))
  unfold unpN
  split
  · exact .inl rfl
  · split
    · split
      · exact .inr ⟨_, _, _, h1 _, h2 _, rfl⟩
      · exact .inl rfl
    · exact .inr ⟨_, _, _, h1 _, h2 _, rfl⟩
theorem unp_sig (h : Fmt P emin emax W E ex) {w : Nat} {c : Int} {neg : Bool} {S : Nat} {q : Int} (hu : unpN P emin emax W E ex w = (c, neg, hiI S, loI S, q)) : (c = 2 → S < 2 ^ (P - 1)) ∧ (c = 3 → 2 ^ (P - 1) ≤ S ∧ S < 2 ^ P) := by
  have p0 := h.p0
  have hP : 2 ^ P = 2 ^ (P - 1) * 2 := by rw [← Nat.pow_succ]; congr 1; omega
  rcases unp_cases (P := P) (emin := emin) (emax := emax) (W := W) (E := E) (ex := ex) w with hb | ⟨e, n2, rest, he, hr, hb⟩
  · rw [hb] at hu
    have : c = 0 := by have := congrArg Prod.fst hu; exact this.symm
    exact ⟨fun z => by omega, fun z => by omega⟩
  · rw [hb] at hu
    unfold partsOf at hu
    split at hu
    · split at hu
      · have : c = 4 := (congrArg Prod.fst hu).symm
        exact ⟨fun z => by omega, fun z => by omega⟩
      · have : c = 5 := (congrArg Prod.fst hu).symm
        exact ⟨fun z => by omega, fun z => by omega⟩
    · split at hu
      · split at hu
        · have : c = 1 := (congrArg Prod.fst hu).symm
          exact ⟨fun z => by omega, fun z => by omega⟩
        · simp only [Prod.mk.injEq] at hu
          obtain ⟨h1, h2, h3, h4, h5⟩ := hu
          have := hilo_inj h3 h4
          exact ⟨fun z => by omega, fun z => by omega⟩
      · simp only [Prod.mk.injEq] at hu
        obtain ⟨h1, h2, h3, h4, h5⟩ := hu
        have := hilo_inj h3 h4
        exact ⟨fun z => by omega, fun z => by omega⟩
end
def packN (P : Nat) (emax : Int) (W E : Nat) (ex : Bool) (c : Int) (neg : Bool) (S : Nat) (q : Int) : Option Nat :=
  if c = 1 then some (makeN P W ex neg false 0 0)
  else if c = 4 then some (makeN P W ex neg true (2 ^ E - 1) 0)
  else if c = 5 then some (makeN P W ex false true (2 ^ E - 1) (2 ^ (P - 2)))
  else if c = 2 then (if S < 2 ^ (P - 1) then some (makeN P W ex neg false 0 S) else none)
  else if c = 3 then (if (2 ^ (P - 1) ≤ S ∧ S < 2 ^ P) ∧ 1 ≤ q + emax + P - 1 ∧ q + emax + P - 1 < ((2 ^ E - 1 : Nat) : Int) then some (makeN P W ex neg true (q + emax + P - 1).toNat (S % 2 ^ (P - 1))) else none)
  else none
def packR (P : Nat) (emin emax : Int) (W E : Nat) (ex : Bool) (c : Int) (neg : Bool) (S : Nat) (q : Int) : Nat × Bool :=
  match packN P emax W E ex c neg S q with
  | none => (0, false)
  | some w => if unpN P emin emax W E ex w = (c, neg, hiI S, loI S, q) then (w, true) else (0, false)
def eqb (u p : Prt) : Bool := (u.1 == p.1) && ((u.2.1 == p.2.1) && (((u.2.2.1 == p.2.2.1) && (u.2.2.2.1 == p.2.2.2.1)) && (u.2.2.2.2 == p.2.2.2.2)))
theorem eqb_iff (u p : Prt) : eqb u p = true ↔ u = p := by
  obtain ⟨a, b, c, d, e⟩ := u
  obtain ⟨a', b', c', d', e'⟩ := p
  simp [eqb, Prod.mk.injEq, and_assoc]
theorem packR_some {P : Nat} {emin emax : Int} {W E : Nat} {ex : Bool} {c : Int} {neg : Bool} {S : Nat} {q : Int} {w : Nat} (h : packN P emax W E ex c neg S q = some w) :
    packR P emin emax W E ex c neg S q = if unpN P emin emax W E ex w = (c, neg, hiI S, loI S, q) then (w, true) else (0, false) := by unfold packR; rw [h]
theorem packR_none {P : Nat} {emin emax : Int} {W E : Nat} {ex : Bool} {c : Int} {neg : Bool} {S : Nat} {q : Int} (h : packN P emax W E ex c neg S q = none) : packR P emin emax W E ex c neg S q = (0, false) := by unfold packR; rw [h]
theorem packR_of {P : Nat} {emin emax : Int} {W E : Nat} {ex : Bool} {c : Int} {neg : Bool} {S : Nat} {q : Int} {w : Nat} (h : packN P emax W E ex c neg S q = some w ∨ (packR P emin emax W E ex c neg S q = (0, false) ∧ unpN P emin emax W E ex w ≠ (c, neg, hiI S, loI S, q))) :
    packR P emin emax W E ex c neg S q = if unpN P emin emax W E ex w = (c, neg, hiI S, loI S, q) then (w, true) else (0, false) := by
  rcases h with h | ⟨h1, h2⟩
  · exact packR_some h
  · rw [h1, if_neg h2]
theorem wrap_flat (a b c : Int) : wrap64 (wrap64 (wrap64 a + b) - c) = wrap64 (a + b - c) := by
  unfold wrap64
  omega
theorem wrap_big (x : Int) (h : 9223372036854775808 ≤ x) (h2 : x ≤ 9223372036855775808) : wrap64 x < 0 := by
  unfold wrap64
  omega
theorem wrapE (q emax : Int) (P : Nat) (hq : -9223372036854775808 ≤ q ∧ q ≤ 9223372036854775807) (h0 : 0 ≤ emax) (h1 : emax ≤ 20000) (hP : P ≤ 113) (hP1 : 1 ≤ P) :
    IntKind.i64.wrap (IntKind.i64.wrap (IntKind.i64.wrap (q + emax) + (P : Int)) - 1) = q + emax + P - 1 ∨ (IntKind.i64.wrap (IntKind.i64.wrap (IntKind.i64.wrap (q + emax) + (P : Int)) - 1) < 1 ∧ 9223372036854775808 ≤ q + emax + P - 1) := by
  rw [i64_w, i64_w, i64_w, wrap_flat]
  by_cases h : q + emax + P - 1 ≤ 9223372036854775807
  · exact .inl (wrap64_id ⟨by omega, h⟩)
  · exact .inr ⟨Int.lt_of_lt_of_le (wrap_big _ (by omega) (by omega)) (by decide), by omega⟩
theorem bits_ex (x : Nat) : ∃ m, IsBits x m := by
  induction x using Nat.strongRecOn with
  | _ x ih =>
    by_cases h0 : x = 0
    · exact ⟨0, by rw [h0]; exact IsBits.zero⟩
    · obtain ⟨m, h1, h2⟩ := ih (x / 2) (by omega)
      refine ⟨m + 1, ?_, .inr ?_⟩
      · rw [Nat.pow_succ]; omega
      · rcases h2 with h2 | h2
        · subst h2; simp at h1 ⊢; omega
        · have hm : m ≠ 0 := by
            intro z; subst z; simp at h2 h1; omega
          have : 2 ^ m = 2 ^ (m - 1) * 2 := by rw [← Nat.pow_succ]; congr 1; omega
          simp only [Nat.add_sub_cancel]
          rw [this]
          omega
theorem bits_lt {x m k : Nat} (h : IsBits x m) : m ≤ k ↔ x < 2 ^ k := by
  constructor
  · intro hk
    exact Nat.lt_of_lt_of_le h.1 (Nat.pow_le_pow_right (by decide) hk)
  · intro hk
    exact h.le hk
def packU (P : Nat) (emax : Int) (E : Nat) (ex : Bool) (c : Int) (S : Nat) (q : Int) : Option Nat :=
  if c = 1 then some 0
  else if c = 2 then some S
  else if c = 3 then (if 1 ≤ q + emax + P - 1 ∧ q + emax + P - 1 < ((2 ^ E - 1 : Nat) : Int) then some (S % 2 ^ fracN P ex ||| (q + emax + P - 1).toNat * 2 ^ fracN P ex) else none)
  else if c = 4 then some (if ex = true then ((2 ^ E - 1) * 2 ^ fracN P ex ||| 2 ^ (P - 1)) else (2 ^ E - 1) * 2 ^ fracN P ex)
  else if c = 5 then some ((if ex = true then ((2 ^ E - 1) * 2 ^ fracN P ex ||| 2 ^ (P - 1)) else (2 ^ E - 1) * 2 ^ fracN P ex) ||| 2 ^ (P - 2))
  else some 0
theorem lor_add {a b i : Nat} (h : b < 2 ^ i) : b ||| a * 2 ^ i = b + a * 2 ^ i := by
  have := Nat.two_pow_add_eq_or_of_lt h a
  rw [Nat.mul_comm a, Nat.or_comm, ← this, Nat.add_comm]
theorem lor_add' {a b i : Nat} (h : b < 2 ^ i) : a * 2 ^ i ||| b = a * 2 ^ i + b := by rw [Nat.or_comm, lor_add h, Nat.add_comm]
theorem lor_top {b i : Nat} (h : b < 2 ^ i) : b ||| 2 ^ i = b + 2 ^ i := by
  have := lor_add (a := 1) h
  rwa [Nat.one_mul] at this
section
variable {P : Nat} {emin emax : Int} {W E : Nat} {ex : Bool}
theorem sign_make (h : Fmt P emin emax W E ex) (neg lead : Bool) (e r u : Nat) (he : e < 2 ^ E) (hr : r < 2 ^ (P - 1)) (hu : u = r + (if ex = true ∧ lead = true then 2 ^ (P - 1) else 0) + e * 2 ^ fracN P ex) :
    (if neg = true then u ||| 2 ^ (W - 1) else u) = makeN P W ex neg lead e r := by
  have hw1 := h.w1
  have h0 : makeN P W ex false lead e r = u := by rw [hu]; unfold makeN; rw [if_neg (show ¬ false = true by decide), Nat.add_zero]
  have hlt : u < 2 ^ (W - 1) := by
    have hl := makeN_lt h true lead e r he hr
    have h1 : makeN P W ex true lead e r = u + 2 ^ (W - 1) := by rw [hu]; unfold makeN; rw [if_pos rfl]
    rw [h1] at hl
    have h5 : 2 ^ W = 2 ^ (W - 1) * 2 := by rw [← Nat.pow_succ]; congr 1; omega
    omega
  cases neg with
  | true =>
    rw [if_pos rfl, lor_top hlt, hu]
    unfold makeN
    rw [if_pos rfl]
  | false => rw [if_neg (by decide), h0]
theorem packU_none (h : Fmt2 P emin emax W E ex) {c : Int} {neg : Bool} {S : Nat} {q : Int} (hu : packU P emax E ex c S q = none) : packR P emin emax W E ex c neg S q = (0, false) := by
  unfold packU at hu
  split at hu
  · cases hu
  · split at hu
    · cases hu
    · split at hu
      · rename_i h1 h2 h3
        split at hu
        · cases hu
        · rename_i h4
          refine packR_none ?_
          unfold packN
          rw [if_neg h1, if_neg (by omega), if_neg (by omega), if_neg h2, if_pos h3, if_neg (fun z => h4 z.2)]
      · split at hu
        · cases hu
        · split at hu
          · cases hu
          · cases hu
theorem packU_some (h : Fmt2 P emin emax W E ex) {c : Int} {neg : Bool} {S : Nat} {q : Int} {u : Nat} (hu : packU P emax E ex c S q = some u) :
    packR P emin emax W E ex c neg S q = if unpN P emin emax W E ex (if neg = true then u ||| 2 ^ (W - 1) else u) = (c, neg, hiI S, loI S, q) then ((if neg = true then u ||| 2 ^ (W - 1) else u), true) else (0, false) := by
  have h1 := h.toFmt
  have p3 := h.p3
  have e0 : 0 < 2 ^ E := Nat.pow_pos (by decide)
  have e1 : 2 ^ E - 1 < 2 ^ E := by omega
  have z0 : 0 < 2 ^ (P - 1) := Nat.pow_pos (by decide)
  have r2 : 2 ^ (P - 2) < 2 ^ (P - 1) := Nat.pow_lt_pow_right (by decide) (by omega)
  have hP : 2 ^ P = 2 ^ (P - 1) * 2 := by rw [← Nat.pow_succ]; congr 1; omega
  have hfr : 2 ^ (P - 1) ≤ 2 ^ fracN P ex := Nat.pow_le_pow_right (by decide) (by unfold fracN; split <;> omega)
  -- the sign bit alone
  have zero : ∀ n : Bool, unpN P emin emax W E ex (if n = true then 0 ||| 2 ^ (W - 1) else 0) = (1, n, 0, 0, 0) := by
    intro n
    rw [sign_make h1 n false 0 0 0 e0 z0 (by simp)]
    have := unp_make h1 n 0 0 e0 z0
    simp only [ne_eq, not_true, decide_false] at this
    rw [this]
    unfold partsOf
    have hE := h1.e0
    have : (2 : Nat) ≤ 2 ^ E := by
      have := Nat.pow_le_pow_right (n := 2) (by decide) hE
      simpa using this
    rw [if_neg (by omega), if_pos rfl, if_pos rfl]
  have tb : (if ex = true then ((2 ^ E - 1) * 2 ^ fracN P ex ||| 2 ^ (P - 1)) else (2 ^ E - 1) * 2 ^ fracN P ex) = (if ex = true ∧ true = true then 2 ^ (P - 1) else 0) + (2 ^ E - 1) * 2 ^ fracN P ex := by
    cases hex : ex with
    | true =>
      rw [if_pos rfl, if_pos ⟨rfl, rfl⟩, lor_add' (by unfold fracN; rw [if_pos rfl]; omega), Nat.add_comm]
    | false => rw [if_neg (by decide), if_neg (fun z => absurd z.1 (by decide)), Nat.zero_add]
  refine packR_of ?_
  unfold packU at hu
  by_cases c1 : c = 1
  · rw [if_pos c1] at hu
    cases hu
    exact .inl (by unfold packN; rw [if_pos c1, sign_make h1 neg false 0 0 0 e0 z0 (by simp)])
  rw [if_neg c1] at hu
  by_cases c2 : c = 2
  · rw [if_pos c2] at hu
    cases hu
    have hpk : packN P emax W E ex c neg S q = if S < 2 ^ (P - 1) then some (makeN P W ex neg false 0 S) else none := by unfold packN; rw [if_neg c1, if_neg (by omega), if_neg (by omega), if_pos c2]
    by_cases hS : S < 2 ^ (P - 1)
    · exact .inl (by rw [hpk, if_pos hS, sign_make h1 neg false 0 S S e0 hS (by simp)])
    · refine .inr ⟨packR_none (by rw [hpk, if_neg hS]), fun he => hS ((unp_sig h1 he).1 c2)⟩
  rw [if_neg c2] at hu
  by_cases c3 : c = 3
  · rw [if_pos c3] at hu
    have hpk : packN P emax W E ex c neg S q = if (2 ^ (P - 1) ≤ S ∧ S < 2 ^ P) ∧ 1 ≤ q + emax + P - 1 ∧ q + emax + P - 1 < ((2 ^ E - 1 : Nat) : Int) then some (makeN P W ex neg true (q + emax + P - 1).toNat (S % 2 ^ (P - 1))) else none := by unfold packN; rw [if_neg c1, if_neg (by omega), if_neg (by omega), if_neg c2, if_pos c3]
    split at hu
    · rename_i hr
      cases hu
      have he3 : (q + emax + P - 1).toNat < 2 ^ E := by omega
      by_cases hS : 2 ^ (P - 1) ≤ S ∧ S < 2 ^ P
      · refine .inl ?_
        rw [hpk, if_pos ⟨hS, hr⟩, sign_make h1 neg true _ (S % 2 ^ (P - 1)) _ he3 (Nat.mod_lt _ z0) ?_]
        rw [lor_add (Nat.mod_lt _ (Nat.pow_pos (by decide)))]
        congr 1
        cases hex : ex with
        | true =>
          have : fracN P true = P := rfl
          rw [this, if_pos ⟨rfl, rfl⟩, Nat.mod_eq_of_lt hS.2, Nat.mod_eq_sub_mod hS.1, Nat.mod_eq_of_lt (by omega)]
          omega
        | false =>
          have : fracN P false = P - 1 := rfl
          rw [this, if_neg (fun z => absurd z.1 (by decide)), Nat.add_zero]
      · exact .inr ⟨packR_none (by rw [hpk, if_neg (fun z => hS z.1)]), fun he => hS ((unp_sig h1 he).2 c3)⟩
    · cases hu
  rw [if_neg c3] at hu
  by_cases c4 : c = 4
  · rw [if_pos c4] at hu
    cases hu
    exact .inl (by unfold packN; rw [if_neg c1, if_pos c4, sign_make h1 neg true (2 ^ E - 1) 0 _ e1 z0 (by rw [tb, Nat.zero_add])])
  rw [if_neg c4] at hu
  by_cases c5 : c = 5
  · rw [if_pos c5] at hu
    injection hu with hu
    have hu2 : u = 2 ^ (P - 2) + (if ex = true ∧ true = true then 2 ^ (P - 1) else 0) + (2 ^ E - 1) * 2 ^ fracN P ex := by
      rw [← hu, tb]
      cases hex : ex with
      | true =>
        have hf : fracN P true = P := rfl
        rw [if_pos ⟨rfl, rfl⟩, hf]
        have e5 : 2 ^ (P - 1) + (2 ^ E - 1) * 2 ^ P = (1 + (2 ^ E - 1) * 2) * 2 ^ (P - 1) := by rw [hP, Nat.add_mul, Nat.one_mul, Nat.mul_comm (2 ^ (P - 1)) 2, Nat.mul_assoc]
        rw [Nat.add_assoc, e5, lor_add' r2, Nat.add_comm]
      | false =>
        rw [if_neg (fun z => absurd z.1 (by decide)), Nat.zero_add, Nat.add_zero, lor_add' (by have : fracN P false = P - 1 := rfl; rw [this]; exact r2), Nat.add_comm]
    have hm : (if neg = true then u ||| 2 ^ (W - 1) else u) = makeN P W ex neg true (2 ^ E - 1) (2 ^ (P - 2)) := sign_make h1 neg true _ _ _ e1 r2 hu2
    rw [hm]
    have hpk : packN P emax W E ex c neg S q = some (makeN P W ex false true (2 ^ E - 1) (2 ^ (P - 2))) := by unfold packN; rw [if_neg c1, if_neg c4, if_pos c5]
    have hE := h1.e0
    have hE2 : (2 : Nat) ≤ 2 ^ E := by
      have := Nat.pow_le_pow_right (n := 2) (by decide) hE
      simpa using this
    have hun : ∀ n, unpN P emin emax W E ex (makeN P W ex n true (2 ^ E - 1) (2 ^ (P - 2))) = (5, false, 0, 0, 0) := by
      intro n
      have := unp_make h1 n (2 ^ E - 1) (2 ^ (P - 2)) e1 r2
      have hd : decide (2 ^ E - 1 ≠ 0) = true := by simp; omega
      rw [hd] at this
      rw [this]
      unfold partsOf
      rw [if_pos rfl, if_neg (Nat.ne_of_gt (Nat.pow_pos (by decide)))]
    cases neg with
    | false => exact .inl hpk
    | true =>
      refine .inr ⟨?_, ?_⟩
      · rw [packR_some hpk, hun false, if_neg]
        intro z
        simp at z
      · rw [hun true]
        intro z
        simp at z
  rw [if_neg c5] at hu
  cases hu
  refine .inr ⟨packR_none (by unfold packN; rw [if_neg c1, if_neg c4, if_neg c5, if_neg c2, if_neg c3]), ?_⟩
  rw [zero neg]
  intro z
  exact c1 (congrArg Prod.fst z).symm
end
end Go.Proofs.YtdbnmdchecacdaaDoor.M
end
section
namespace Go.Proofs.YtdbnmdchecacdaaDoor.M
open Go.RowKit Go.Proofs.YtdbnmdchecacdaaDoor.G Go.Proofs.YtdbnmdchecacdaaDoorV.PrintWords Go.Proofs.YtdbnmdchecacdaaDoorV.PrintLast Go.Proofs.YtdbnmdchecacdaaDoor.X
set_option linter.unusedVariables false
set_option linter.unusedSimpArgs false
def VP (P : Nat) (emin emax : Int) (c : Int) (S : Nat) (q : Int) : Prop :=
  (c = 1 ∧ S = 0 ∧ q = 0) ∨ (c = 4 ∧ S = 0 ∧ q = 0) ∨ (c = 2 ∧ 0 < S ∧ S < 2 ^ (P - 1) ∧ q = emin - P + 1) ∨ (c = 3 ∧ 2 ^ (P - 1) ≤ S ∧ S < 2 ^ P ∧ emin - P + 1 ≤ q ∧ q ≤ emax - P + 1)
section
variable {P : Nat} {emin emax : Int} {W E : Nat} {ex : Bool}
theorem two_P (h : Fmt P emin emax W E ex) : 2 ^ P = 2 * 2 ^ (P - 1) := by
  have := h.p0
  rw [Nat.mul_comm, ← Nat.pow_succ]
  congr 1
  omega
theorem hi0 : hiI 0 = 0 := rfl
theorem unp_form (h : Fmt2 P emin emax W E ex) (w : Nat) : unpN P emin emax W E ex w = badP ∨ unpN P emin emax W E ex w = (5, false, 0, 0, 0) ∨ ∃ c neg S q, unpN P emin emax W E ex w = (c, neg, hiI S, loI S, q) ∧ S < 2 ^ P ∧ VP P emin emax c S q := by
  have t2 := two_P h.toFmt
  have hp := Nat.pow_pos (n := P - 1) (show 0 < 2 by decide)
  have tp := h.top
  have mn := h.mn
  rcases unp_cases (P := P) (emin := emin) (emax := emax) (W := W) (E := E) (ex := ex) w with hb | ⟨e, neg, rest, he, hr, hu⟩
  · exact .inl hb
  · refine .inr ?_
    rw [hu]
    unfold partsOf
    by_cases h1 : e = 2 ^ E - 1
    · rw [if_pos h1]
      by_cases h2 : rest = 0
      · rw [if_pos h2]
        exact .inr ⟨4, neg, 0, 0, rfl, by omega, .inr (.inl ⟨rfl, rfl, rfl⟩)⟩
      · rw [if_neg h2]
        exact .inl rfl
    · rw [if_neg h1]
      refine .inr ?_
      by_cases h2 : e = 0
      · rw [if_pos h2]
        by_cases h3 : rest = 0
        · rw [if_pos h3]
          exact ⟨1, neg, 0, 0, rfl, by omega, .inl ⟨rfl, rfl, rfl⟩⟩
        · rw [if_neg h3]
          exact ⟨2, neg, rest, _, rfl, by omega, .inr (.inr (.inl ⟨rfl, by omega, hr, rfl⟩))⟩
      · rw [if_neg h2]
        exact ⟨3, neg, rest + 2 ^ (P - 1), _, rfl, by omega, .inr (.inr (.inr ⟨rfl, by omega, by omega, by omega, by omega⟩))⟩
theorem pack_ok (h : Fmt2 P emin emax W E ex) {c : Int} {neg : Bool} {S : Nat} {q : Int} (hv : VP P emin emax c S q) : (packR P emin emax W E ex c neg S q).2 = true := by
  have t2 := two_P h.toFmt
  have hp := Nat.pow_pos (n := P - 1) (show 0 < 2 by decide)
  have hE := Nat.pow_le_pow_right (n := 2) (by decide) h.e0
  have tp := h.top
  have mn := h.mn
  rcases hv with ⟨rfl, rfl, rfl⟩ | ⟨rfl, rfl, rfl⟩ | ⟨rfl, h1, h2, rfl⟩ | ⟨rfl, h1, h2, h3, h4⟩
  · rw [packR_some (w := makeN P W ex neg false 0 0) (by unfold packN; rw [if_pos rfl]), if_pos]
    have := unp_make h.toFmt neg 0 0 (by omega) hp
    rw [show decide ((0 : Nat) ≠ 0) = false from rfl] at this
    rw [this, partsOf, if_neg (by omega), if_pos rfl, if_pos rfl]
    rfl
  · rw [packR_some (w := makeN P W ex neg true (2 ^ E - 1) 0) (by unfold packN; rw [if_neg (by decide), if_pos rfl]), if_pos]
    have := unp_make h.toFmt neg (2 ^ E - 1) 0 (by omega) hp
    rw [decide_eq_true (show 2 ^ E - 1 ≠ 0 by omega)] at this
    rw [this, partsOf, if_pos rfl, if_pos rfl]
    rfl
  · rw [packR_some (w := makeN P W ex neg false 0 S) (by unfold packN; rw [if_neg (by decide), if_neg (by decide), if_neg (by decide), if_pos rfl, if_pos h2]), if_pos]
    have := unp_make h.toFmt neg 0 S (by omega) h2
    rw [show decide ((0 : Nat) ≠ 0) = false from rfl] at this
    rw [this, partsOf, if_neg (by omega), if_pos rfl, if_neg (by omega)]
  · have hS : S % 2 ^ (P - 1) = S - 2 ^ (P - 1) := by rw [Nat.mod_eq_sub_mod h1, Nat.mod_eq_of_lt (by omega)]
    obtain ⟨e, he⟩ : ∃ e : Nat, (e : Int) = q + emax + P - 1 := ⟨(q + emax + P - 1).toNat, by omega⟩
    have hen : (q + emax + P - 1).toNat = e := by omega
    rw [packR_some (w := makeN P W ex neg true e (S % 2 ^ (P - 1))) (by unfold packN; rw [if_neg (by decide), if_neg (by decide), if_neg (by decide), if_neg (by decide), if_pos rfl, if_pos ⟨⟨h1, h2⟩, by omega, by omega⟩, hen]), if_pos]
    have := unp_make h.toFmt neg e (S % 2 ^ (P - 1)) (by omega) (by omega)
    rw [decide_eq_true (show e ≠ 0 by omega)] at this
    rw [this, partsOf, if_neg (by omega), if_neg (by omega), hS, show S - 2 ^ (P - 1) + 2 ^ (P - 1) = S by omega, show (e : Int) - emax - P + 1 = q by omega]
end
end Go.Proofs.YtdbnmdchecacdaaDoor.M
end
section
namespace Go.Proofs.YtdbnmdchecacdaaDoor.M
open Go.RowKit Go.Proofs.YtdbnmdchecacdaaDoor.G Go.Proofs.YtdbnmdchecacdaaDoorV.PrintWords Go.Proofs.YtdbnmdchecacdaaDoorV.PrintLast Go.Proofs.YtdbnmdchecacdaaDoor.X
set_option linter.unusedVariables false
set_option linter.unusedSimpArgs false
theorem below_iff (x y : Nat) (k : Int) : below x y k = true ↔ x * 2 ^ (-k).toNat < y * 2 ^ k.toNat := by
  unfold below
  by_cases h : 0 ≤ k
  · rw [if_pos h, show (-k).toNat = 0 by omega, Nat.pow_zero, Nat.mul_one]
    simp
  · rw [if_neg h, show k.toNat = 0 by omega, Nat.pow_zero, Nat.mul_one]
    simp
theorem scale_lt {x y : Nat} {j q : Int} {P : Nat} (h : x * 2 ^ (-j).toNat < y * 2 ^ j.toNat) (hq : j ≤ q + P) : x * 2 ^ (-q).toNat < y * 2 ^ q.toNat * 2 ^ P := by
  have h1 := Nat.mul_lt_mul_of_pos_right h (Nat.pow_pos (n := (-q).toNat) (show 0 < 2 by decide))
  have h2 : 2 ^ (j.toNat + (-q).toNat) ≤ 2 ^ (q.toNat + P + (-j).toNat) := Nat.pow_le_pow_right (by decide) (by omega)
  have h3 := Nat.mul_le_mul_left y h2
  rw [Nat.mul_assoc y, ← Nat.pow_add] at h1
  have h4 : x * 2 ^ (-q).toNat * 2 ^ (-j).toNat < y * 2 ^ q.toNat * 2 ^ P * 2 ^ (-j).toNat := by
    rw [Nat.mul_assoc y, ← Nat.pow_add, Nat.mul_assoc y, ← Nat.pow_add, Nat.mul_right_comm]
    exact Nat.lt_of_lt_of_le h1 h3
  exact Nat.lt_of_mul_lt_mul_right h4
def rrK (x y m n : Nat) : Int := if below x y ((m : Int) - (n : Int)) = true then (m : Int) - (n : Int) - 1 else (m : Int) - (n : Int)
theorem rrK_lt {x y m n : Nat} (hm : IsBits x m) (hn : IsBits y n) (hy : 0 < y) : x * 2 ^ (-(rrK x y m n + 1)).toNat < y * 2 ^ (rrK x y m n + 1).toNat := by
  unfold rrK
  by_cases h : below x y ((m : Int) - (n : Int)) = true
  · rw [if_pos h, Int.sub_add_cancel]
    exact (below_iff x y _).1 h
  · rw [if_neg h]
    have hn0 := hn.pos hy
    have h1 : 2 ^ (n - 1) ≤ y := by
      rcases hn.2 with h3 | h3
      · omega
      · exact h3
    have h2 := Nat.mul_lt_mul_of_pos_right hm.1 (Nat.pow_pos (n := (-((m : Int) - (n : Int) + 1)).toNat) (show 0 < 2 by decide))
    have h3 := Nat.mul_le_mul_right (2 ^ ((m : Int) - (n : Int) + 1).toNat) h1
    rw [← Nat.pow_add] at h2 h3
    have h4 : 2 ^ (m + (-((m : Int) - (n : Int) + 1)).toNat) ≤ 2 ^ (n - 1 + ((m : Int) - (n : Int) + 1).toNat) := Nat.pow_le_pow_right (by decide) (by omega)
    omega
def rrE (P : Nat) (emin : Int) (k : Int) : Int := max (k - P + 1) (emin - P + 1)
def rrN (x : Nat) (q : Int) : Nat := x * 2 ^ (-q).toNat
def rrD (y : Nat) (q : Int) : Nat := y * 2 ^ q.toNat
theorem rr_quot {x y m n P : Nat} {emin : Int} (hm : IsBits x m) (hn : IsBits y n) (hy : 0 < y) : rrN x (rrE P emin (rrK x y m n)) / rrD y (rrE P emin (rrK x y m n)) < 2 ^ P := by
  have hd : 0 < rrD y (rrE P emin (rrK x y m n)) := Nat.mul_pos hy (Nat.pow_pos (by decide))
  rw [Nat.div_lt_iff_lt_mul hd, Nat.mul_comm (2 ^ P)]
  exact scale_lt (rrK_lt hm hn hy) (by unfold rrE; omega)
def rrUp (n d : Nat) : Bool := decide (d < n % d * 2) || (decide (n % d * 2 = d) && decide (n / d % 2 = 1))
def rrS (n d : Nat) : Nat := if rrUp n d = true then n / d + 1 else n / d
def rrSQ (P : Nat) (emin : Int) (x y m n : Nat) : Nat × Int :=
  let q := rrE P emin (rrK x y m n)
  let s := rrS (rrN x q) (rrD y q)
  if 2 ^ P ≤ s then (s / 2, q + 1) else (s, q)
def rrC (P : Nat) (emax : Int) (u : Nat × Int) : Int × Int :=
  if 2 ^ (P - 1) ≤ u.1 ∧ u.2 + P - 1 > emax then (4, 1) else if u.1 = 0 then (1, 2) else if u.1 < 2 ^ (P - 1) then (2, 2) else (3, 0)
theorem rrK_ge {x y m n : Nat} (hm : IsBits x m) (hn : IsBits y n) (hx : 0 < x) : y * 2 ^ (rrK x y m n).toNat ≤ x * 2 ^ (-(rrK x y m n)).toNat := by
  unfold rrK
  by_cases h : below x y ((m : Int) - (n : Int)) = true
  · rw [if_pos h]
    have hm0 := hm.pos hx
    have h1 : 2 ^ (m - 1) ≤ x := by
      rcases hm.2 with h3 | h3
      · omega
      · exact h3
    have h2 := Nat.mul_le_mul_right (2 ^ ((m : Int) - (n : Int) - 1).toNat) (Nat.le_of_lt hn.1)
    have h3 := Nat.mul_le_mul_right (2 ^ (-((m : Int) - (n : Int) - 1)).toNat) h1
    rw [← Nat.pow_add] at h2 h3
    have h4 : 2 ^ (n + ((m : Int) - (n : Int) - 1).toNat) ≤ 2 ^ (m - 1 + (-((m : Int) - (n : Int) - 1)).toNat) := Nat.pow_le_pow_right (by decide) (by omega)
    omega
  · rw [if_neg h]
    exact Nat.le_of_not_lt (fun z => h ((below_iff x y _).2 z))
theorem scale_ge {x y : Nat} {j q : Int} {P : Nat} (h : y * 2 ^ j.toNat ≤ x * 2 ^ (-j).toNat) (hq : q + P ≤ j) : y * 2 ^ q.toNat * 2 ^ P ≤ x * 2 ^ (-q).toNat := by
  have h1 := Nat.mul_le_mul_right (2 ^ (-q).toNat) h
  have h2 : 2 ^ (q.toNat + P + (-j).toNat) ≤ 2 ^ (j.toNat + (-q).toNat) := Nat.pow_le_pow_right (by decide) (by omega)
  have h3 := Nat.mul_le_mul_left y h2
  rw [Nat.mul_assoc y, ← Nat.pow_add] at h1
  have h4 : y * 2 ^ q.toNat * 2 ^ P * 2 ^ (-j).toNat ≤ x * 2 ^ (-q).toNat * 2 ^ (-j).toNat := by
    rw [Nat.mul_assoc y, ← Nat.pow_add, Nat.mul_assoc y, ← Nat.pow_add, Nat.mul_right_comm]
    exact Nat.le_trans h3 h1
  exact Nat.le_of_mul_le_mul_right h4 (Nat.pow_pos (by decide))
theorem rrS_le (n d : Nat) : n / d ≤ rrS n d ∧ rrS n d ≤ n / d + 1 := by
  unfold rrS
  split <;> omega
theorem rrE_ge (P : Nat) (emin k : Int) : emin - P + 1 ≤ rrE P emin k := by unfold rrE; omega
theorem rr_lo {x y m n P : Nat} {emin : Int} (hm : IsBits x m) (hn : IsBits y n) (hx : 0 < x) (hy : 0 < y) (hP : 1 ≤ P) (hq : emin - P + 1 < rrE P emin (rrK x y m n)) : 2 ^ (P - 1) ≤ rrN x (rrE P emin (rrK x y m n)) / rrD y (rrE P emin (rrK x y m n)) := by
  have hd : 0 < rrD y (rrE P emin (rrK x y m n)) := Nat.mul_pos hy (Nat.pow_pos (by decide))
  rw [Nat.le_div_iff_mul_le hd, Nat.mul_comm (2 ^ (P - 1))]
  have he : rrE P emin (rrK x y m n) = rrK x y m n - P + 1 := by unfold rrE at hq ⊢; omega
  rw [he]
  exact scale_ge (rrK_ge hm hn hx) (by omega)
theorem rrSQ_form {x y m n P : Nat} {emin : Int} (hm : IsBits x m) (hn : IsBits y n) (hx : 0 < x) (hy : 0 < y) (hP : 1 ≤ P) :
    (rrSQ P emin x y m n).1 < 2 ^ P ∧ emin - P + 1 ≤ (rrSQ P emin x y m n).2 ∧ ((rrSQ P emin x y m n).1 < 2 ^ (P - 1) → (rrSQ P emin x y m n).2 = emin - P + 1) := by
  have h1 := rr_quot (P := P) (emin := emin) hm hn hy
  have h2 := rrS_le (rrN x (rrE P emin (rrK x y m n))) (rrD y (rrE P emin (rrK x y m n)))
  have h3 := rrE_ge P emin (rrK x y m n)
  have t2 : 2 ^ P = 2 * 2 ^ (P - 1) := by rw [Nat.mul_comm, ← Nat.pow_succ]; congr 1; omega
  have hp := Nat.pow_pos (n := P - 1) (show 0 < 2 by decide)
  unfold rrSQ
  dsimp only
  by_cases h4 : 2 ^ P ≤ rrS (rrN x (rrE P emin (rrK x y m n))) (rrD y (rrE P emin (rrK x y m n)))
  · rw [if_pos h4]
    dsimp only
    generalize rrN x (rrE P emin (rrK x y m n)) / rrD y (rrE P emin (rrK x y m n)) = Q at *
    refine ⟨by omega, by omega, fun h5 => ?_⟩
    omega
  · rw [if_neg h4]
    dsimp only
    refine ⟨by omega, by omega, fun h5 => ?_⟩
    by_cases h6 : emin - P + 1 < rrE P emin (rrK x y m n)
    · have := rr_lo hm hn hx hy hP h6
      omega
    · omega
def rrW (P : Nat) (emin emax : Int) (W E : Nat) (ex : Bool) (neg : Bool) (u : Nat × Int) : Nat × Int :=
  if (rrC P emax u).1 = 1 ∨ (rrC P emax u).1 = 4 then ((packR P emin emax W E ex (rrC P emax u).1 neg 0 0).1, (rrC P emax u).2)
  else ((packR P emin emax W E ex (rrC P emax u).1 neg u.1 u.2).1, (rrC P emax u).2)
def roundN (P : Nat) (emin emax : Int) (W E : Nat) (ex : Bool) (neg : Bool) (x y m n : Nat) : Nat × Int :=
  if x = 0 then ((packR P emin emax W E ex 1 neg 0 0).1, 0) else rrW P emin emax W E ex neg (rrSQ P emin x y m n)
section
variable {P : Nat} {emin emax : Int} {W E : Nat} {ex neg : Bool} {U : Nat} {Q : Int}
theorem rrW_inf (h : 2 ^ (P - 1) ≤ U) (h2 : Q + P - 1 > emax) : rrW P emin emax W E ex neg (U, Q) = ((packR P emin emax W E ex 4 neg 0 0).1, 1) := by
  have e : rrC P emax (U, Q) = (4, 1) := by unfold rrC; exact if_pos ⟨h, h2⟩
  unfold rrW
  rw [e, if_pos (.inr rfl)]
theorem rrW_norm (h : 2 ^ (P - 1) ≤ U) (h2 : ¬ Q + P - 1 > emax) : rrW P emin emax W E ex neg (U, Q) = ((packR P emin emax W E ex 3 neg U Q).1, 0) := by
  have hp := Nat.pow_pos (n := P - 1) (show 0 < 2 by decide)
  have e : rrC P emax (U, Q) = (3, 0) := by
    unfold rrC
    dsimp only
    rw [if_neg (fun z => h2 z.2), if_neg (by omega), if_neg (by omega)]
  unfold rrW
  rw [e, if_neg (by decide)]
theorem rrW_zero (h : U = 0) : rrW P emin emax W E ex neg (U, Q) = ((packR P emin emax W E ex 1 neg 0 0).1, 2) := by
  have hp := Nat.pow_pos (n := P - 1) (show 0 < 2 by decide)
  have e : rrC P emax (U, Q) = (1, 2) := by
    unfold rrC
    dsimp only
    rw [if_neg (fun z => by omega), if_pos h]
  unfold rrW
  rw [e, if_pos (.inl rfl)]
theorem rrW_sub (h : U < 2 ^ (P - 1)) (h2 : U ≠ 0) : rrW P emin emax W E ex neg (U, Q) = ((packR P emin emax W E ex 2 neg U Q).1, 2) := by
  have e : rrC P emax (U, Q) = (2, 2) := by
    unfold rrC
    dsimp only
    rw [if_neg (fun z => by omega), if_neg h2, if_pos h]
  unfold rrW
  rw [e, if_neg (by decide)]
theorem rrSQ_hi {x y m n : Nat} (hm : m ≤ 80000) (hn : n ≤ 80000) (h : emin ≤ 20000) : (rrSQ P emin x y m n).2 ≤ 100002 := by
  have hK : rrK x y m n ≤ 80000 := by unfold rrK; split <;> omega
  have hE : rrE P emin (rrK x y m n) ≤ 100001 := by unfold rrE; omega
  unfold rrSQ
  dsimp only
  split
  · dsimp only
    omega
  · dsimp only
    omega
end
end Go.Proofs.YtdbnmdchecacdaaDoor.M
end
section
namespace Go.Proofs.YtdbnmdchecacdaaDoor.M
open Go.RowKit Go.Proofs.YtdbnmdchecacdaaDoor.G Go.Proofs.YtdbnmdchecacdaaDoorV.PrintWords Go.Proofs.YtdbnmdchecacdaaDoorV.PrintLast Go.Proofs.YtdbnmdchecacdaaDoor.X
set_option linter.unusedVariables false
set_option linter.unusedSimpArgs false
theorem field_up (x s n E : Nat) (h : n + 1 ≤ E) : x / 2 ^ (s + (n + 1)) % 2 ^ (E - (n + 1)) * 2 + x / 2 ^ (s + n) % 2 = x / 2 ^ (s + n) % 2 ^ (E - n) := by
 have e1 : x / 2 ^ (s + (n + 1)) = x / 2 ^ (s + n) / 2 := by rw [Nat.div_div_eq_div_mul, ← Nat.pow_succ]; rfl
 have e2 : (2 : Nat) ^ (E - n) = 2 * 2 ^ (E - (n + 1)) := by rw [Nat.mul_comm, ← Nat.pow_succ]; congr 1; omega
 rw [e1, e2, Nat.mod_mul, Nat.add_comm, Nat.mul_comm]
theorem ct_spec_Unpack {P : Nat} {emin emax : Int} {W E : Nat} {ex : Bool} (h : Fmt P emin emax W E ex) (f : Int) (hf : spec_Describe.f f = some ((P : Int), emin, emax, (W : Int), (E : Int), ex)) (x : Nat) (hx : x < B128) : CtV Tryd.prog 15 [.int .i64 f, .agg #[.int .u64 (hiI x), .int .u64 (loI x)]] [] (prtV (unpN P emin emax W E ex x)) := by
 refine ct_of Tryd.func15 rfl (by kernel_rfl) (fun B w0 => ?_)
 have p0 := h.p0
 have p1 := h.p1
 have w1 := h.w1
 have w2 := h.w2
 have e1 := h.e1
 obtain ⟨m, hm⟩ := bits_ex x
 have hb := bits_lt (k := W) hm
 have sm : Sm x := sm128 (Nat.lt_of_lt_of_le hx (by decide))
 have fN : fracN P ex ≤ P := by unfold fracN; split <;> omega
 have sf : Sm (x % 2 ^ fracN P ex) := sm.mono (Nat.mod_le _ _)
 refine xg ?_
 refine xb 3 [.int .u64 (hiI x), .int .u64 (loI x)] 25 (fun g0 => ?_)
 refine xb 4 [.int .i64 0, .bool false, .int .u64 0, .int .u64 0, .int .i64 0] 27 (fun g1 => ?_)
 refine xz [] [] ?_
 refine xg ?_
 refine xn 1 [] [(16, .int .i64 f)] ?_
 refine xcv 17 (ct_spec_Describe (f) hf) zs0 ?_
 refine xb 5 [.int .i64 0, .int .i64 0, .int .i64 0, .int .i64 0, .int .i64 0, .bool false] 83 (fun g2 => ?_)
 refine xy [(3, [2])] [] [(2, [.int .i64 (P : Int), .int .i64 emin, .int .i64 emax, .int .i64 (W : Int), .int .i64 (E : Int), .bool ex])] ?_
 refine SW_seq ?_
 refine xr [(1, [2])] [(20, .bool ((P : Int) == 0))] ?_
 refine xs ((P : Int) == 0) (fun q0 => ?_) (fun q0 => ?_)
 ·exfalso
  have := beq_iff_eq.1 q0
  omega
 ·refine SW_skip ?_
  refine xg ?_
  refine xn 1 [(0, [0])] [(22, .agg #[.int .u64 (hiI x), .int .u64 (loI x)])] ?_
  refine xcr 23 (ct_spec_l2Of (x) hx) zs0 (fun A0 k0 => ?_)
  refine xz [] [(6, .slice A0 (List.length (ofN B32 x)) k0)] ?_
  refine SW_seq ?_
  refine xd (fun hB => ?_)
  refine xdk [(0, []), (2, []), (3, [2])] [(27, .int .i64 (W : Int)), (24, .slice A0 (List.length (ofN B32 x)) k0)] hB ?_
  refine xdv 1 25 (ct_spec_l1Bits (x) (A0) (k0) sm (m) hm) (zsS zi0 zs0) ?_
  refine xdk [(4, [])] [(28, .bool (decide ((m : Int) > (W : Int))))] hB ?_
  refine xdz ?_
  refine xs (decide ((m : Int) > (W : Int))) (fun q1 => ?_) (fun q1 => ?_)
  ·refine xq [(1, [1])] [] [] ?_
   refine SW_ret ?_
   refine xe () (.agg #[.int .i64 0, .bool false, .int .u64 0, .int .u64 0, .int .i64 0]) [1] ?_ trivial
   rw [unpN, if_pos]
   ·rfl
   ·have := of_decide_eq_true q1
    exact Nat.le_of_not_lt (fun z => by have := hb.2 z; omega)
  ·have hW : x < 2 ^ W := hb.1 (by have := of_decide_eq_false q1; omega)
   refine SW_skip ?_
   refine xr [(1, [2])] [(7, .int .i64 (IntKind.wrap IntKind.i64 ((P : Int) - 1)))] ?_
   refine SW_cut (fun s' => ∃ a, Nn a (fracN P ex) ∧ Weak s' ⟨[(0, .int .i64 f), (4, .pointer (some ⟨g1, 0, none⟩)), (5, .pointer (some ⟨g2, 0, none⟩)), (6, .slice A0 (ofN B32 x).length k0), (7, .int .i64 a)], [⟨g0, [.int .u64 (hiI x), .int .u64 (loI x)], 25⟩, ⟨g1, [.int .i64 0, .bool false, .int .u64 0, .int .u64 0, .int .i64 0], 27⟩, ⟨g2, [.int .i64 P, .int .i64 emin, .int .i64 emax, .int .i64 W, .int .i64 E, .bool ex], 83⟩], [Row .u64 A0 k0 (ofN B32 x)]⟩) ?_ ?_
   ·refine xr [(1, [2])] [(34, .bool ex)] ?_
    refine xs (ex) (fun q2 => ?_) (fun q2 => ?_)
    ·refine xrl [(1, [2])] [(7, .int .i64 (P : Int))] ?_
     exact ⟨(P : Int), ⟨by unfold fracN; rw [if_pos q2]⟩, Weak.mk' (by kernel_rfl) rfl (zsS zi0 zs0)⟩
    ·refine SW_skip ?_
     exact ⟨IntKind.i64.wrap ((P : Int) - 1), Nn.wrap (by unfold fracN; rw [q2, if_neg (by decide)]; omega) (by omega), Weak.mk' (by kernel_rfl) rfl (zsS zi0 zs0)⟩
   ·rintro s' ⟨a, na, hw⟩
    refine SW_weak hw ?_
    refine xg ?_
    refine xn 2 [] [(38, .int .i64 a), (37, .slice A0 (List.length (ofN B32 x)) k0)] ?_
    refine xcr 39 (ct_spec_l2Low (x) (A0) (k0) (a) (fracN P ex) na (by omega) sm) (zsS zi0 zs0) (fun A1 k1 => ?_)
    refine xz [] [(8, .slice A1 (List.length (ofN B32 (x % 2 ^ fracN P ex))) k1)] ?_
    refine xr [] [(9, .int .i64 0)] ?_
    refine SW_seq ?_
    refine xr [(1, [2])] [(10, .int .i64 (IntKind.wrap IntKind.i64 ((E : Int) - 1)))] ?_
    refine SW_block ?_
    refine SW_loopn (fun n s' => n ≤ E ∧ ∃ e i, e = ((x / 2 ^ (fracN P ex + n) % 2 ^ (E - n) : Nat) : Int) ∧ i = (n : Int) - 1 ∧ Weak s' ⟨[(4, .pointer (some ⟨g1, 0, none⟩)), (5, .pointer (some ⟨g2, 0, none⟩)), (6, .slice A0 (ofN B32 x).length k0), (7, .int .i64 a), (8, .slice A1 (ofN B32 (x % 2 ^ fracN P ex)).length k1), (9, .int .i64 e), (10, .int .i64 i)], [⟨g0, [.int .u64 (hiI x), .int .u64 (loI x)], 25⟩, ⟨g1, [.int .i64 0, .bool false, .int .u64 0, .int .u64 0, .int .i64 0], 27⟩, ⟨g2, [.int .i64 P, .int .i64 emin, .int .i64 emax, .int .i64 W, .int .i64 E, .bool ex], 83⟩], [Row .u64 A0 k0 (ofN B32 x), Row .u64 A1 k1 (ofN B32 (x % 2 ^ fracN P ex))]⟩) E ?_ ?_
    ·exact ⟨Nat.le_refl _, _, _, by rw [Nat.sub_self, Nat.pow_zero, Nat.mod_one], wsi (by omega), Weak.mk' (by kernel_rfl) rfl (zsS (ziS zi0) (zsS zi0 zs0))⟩
    ·rintro n s' ⟨hn, e, i, he, hi, hw⟩
     refine SW_weak hw ?_
     refine SW_seq ?_
     refine xr [] [(44, .bool (decide (i ≥ 0)))] ?_
     refine xs (decide (i ≥ 0)) (fun q2 => ?_) (fun q2 => ?_)
     ·have hi0 : 0 ≤ i := of_decide_eq_true q2
      obtain ⟨j, rfl⟩ : ∃ j, n = j + 1 := ⟨n - 1, by omega⟩
      have nb : Nn (IntKind.i64.wrap (a + i)) (fracN P ex + j) := Nn.wrap (by rw [na.out]; omega) (by omega)
      refine SW_skip ?_
      refine SW_seq ?_
      refine SW_block ?_
      refine SW_region ?_
      refine xn 6 [] [(52, .int .i64 (IntKind.wrap IntKind.i64 (a + i))), (49, .slice A0 (List.length (ofN B32 x)) k0), (48, .int .i64 (IntKind.wrap IntKind.i64 (e * 2)))] ?_
      refine xcv 53 (ct_spec_l1Bit (x) (A0) (k0) (IntKind.wrap IntKind.i64 (a + i)) (fracN P ex + j) nb (by omega) sm) (zsS zi0 zs0) ?_
      refine xz [] [(9, .int .i64 (IntKind.wrap IntKind.i64 (IntKind.wrap IntKind.i64 (e * 2) + IntKind.wrap IntKind.i64 (((x / 2 ^ (fracN P ex + j) % 2) : Nat) : Int))))] ?_
      refine xrl [] [(10, .int .i64 (IntKind.wrap IntKind.i64 (i - 1)))] ?_
      refine ⟨j, Nat.lt_succ_self j, by omega, ?_⟩
      refine ⟨(IntKind.wrap IntKind.i64 (IntKind.wrap IntKind.i64 (e * 2) + IntKind.wrap IntKind.i64 (((x / 2 ^ (fracN P ex + j) % 2) : Nat) : Int)) : Int), (IntKind.wrap IntKind.i64 (i - 1) : Int), ?_, ?_, xw (zsS zi0 (zsS (ziS zi0) zs0))⟩
      ·have hp : x / 2 ^ (fracN P ex + (j + 1)) % 2 ^ (E - (j + 1)) < 2 ^ (E - (j + 1)) := Nat.mod_lt _ (Nat.pow_pos (by decide))
       have hp2 : 2 ^ (E - (j + 1)) ≤ 2 ^ 15 := Nat.pow_le_pow_right (by decide) (by omega)
       have hp3 : x / 2 ^ (fracN P ex + j) % 2 < 2 := Nat.mod_lt _ (by decide)
       rw [← field_up x _ _ _ hn, he, wsi (x := _ * 2) (by omega), wsi (x := ((_ % 2 : Nat) : Int)) (by omega), wsi (by omega)]
       omega
      ·rw [wsi (by omega)]
       omega
     ·have hi0 : ¬ 0 ≤ i := of_decide_eq_false q2
      obtain rfl : n = 0 := by omega
      have nW : Nn (IntKind.i64.wrap ((W : Int) - 1)) (W - 1) := Nn.wrap (by omega) (by omega)
      obtain ⟨F, hF⟩ : ∃ F, F = x / 2 ^ fracN P ex % 2 ^ E := ⟨_, rfl⟩
      obtain ⟨ng, hng⟩ : ∃ ng : Bool, ng = (((x / 2 ^ (W - 1) % 2 : Nat) : Int) == 1) := ⟨_, rfl⟩
      have heF : e = (F : Int) := by rw [he, hF]; rfl
      refine SW_exit ?_
      refine xg ?_
      refine xn 4 [(2, [2])] [(59, .int .i64 (IntKind.wrap IntKind.i64 ((W : Int) - 1))), (56, .slice A0 (List.length (ofN B32 x)) k0)] ?_
      refine xcv 60 (ct_spec_l1Bit (x) (A0) (k0) (IntKind.wrap IntKind.i64 ((W : Int) - 1)) (W - 1) nW (by omega) sm) (zsS zi0 zs0) ?_
      refine xn 7 [] [(62, .agg #[.int .i64 0, .bool ((((x / 2 ^ (W - 1) % 2) : Nat) : Int) == 1), .int .u64 0, .int .u64 0, .int .i64 0])] ?_
      refine xb 11 [.int .i64 0, .bool false, .int .u64 0, .int .u64 0, .int .i64 0] 27 (fun g3 => ?_)
      refine xy [(8, [3])] [] [(3, [.int .i64 0, .bool ((((x / 2 ^ (W - 1) % 2) : Nat) : Int) == 1), .int .u64 0, .int .u64 0, .int .i64 0])] ?_
      refine xr [] [(12, .int .i64 1)] ?_
      refine SW_seq ?_
      refine xr [] [(13, .int .i64 0)] ?_
      refine SW_block ?_
      refine SW_loopn (fun n s' => n ≤ E ∧ ∃ t i, t = ((2 ^ (E - n) : Nat) : Int) ∧ i = ((E - n : Nat) : Int) ∧ Weak s' ⟨[(4, .pointer (some ⟨g1, 0, none⟩)), (5, .pointer (some ⟨g2, 0, none⟩)), (8, .slice A1 (ofN B32 (x % 2 ^ fracN P ex)).length k1), (9, .int .i64 e), (11, .pointer (some ⟨g3, 0, none⟩)), (12, .int .i64 t), (13, .int .i64 i)], [⟨g0, [.int .u64 (hiI x), .int .u64 (loI x)], 25⟩, ⟨g1, [.int .i64 0, .bool false, .int .u64 0, .int .u64 0, .int .i64 0], 27⟩, ⟨g2, [.int .i64 P, .int .i64 emin, .int .i64 emax, .int .i64 W, .int .i64 E, .bool ex], 83⟩, ⟨g3, [.int .i64 0, .bool ng, .int .u64 0, .int .u64 0, .int .i64 0], 27⟩], [Row .u64 A1 k1 (ofN B32 (x % 2 ^ fracN P ex))]⟩) E ?_ ?_
      ·refine ⟨Nat.le_refl _, ?_⟩
       rw [hng]
       refine ⟨(1 : Int), (0 : Int), ?_, ?_, xw (zsS (ziS zi0) zs0)⟩
       ·rw [Nat.sub_self]; rfl
       ·rw [Nat.sub_self]; rfl
      ·rintro n s' ⟨hn, t, i, ht, hi, hw⟩
       refine SW_weak hw ?_
       have h2 : 2 ^ (E - n) ≤ 2 ^ 15 := Nat.pow_le_pow_right (by decide) (by omega)
       refine SW_seq ?_
       refine xr [(2, [2])] [(66, .bool (decide (i < (E : Int))))] ?_
       refine xs (decide (i < (E : Int))) (fun q3 => ?_) (fun q3 => ?_)
       ·have hlt : i < E := of_decide_eq_true q3
        refine SW_skip ?_
        refine SW_seq ?_
        refine SW_block ?_
        refine xrl [] [(12, .int .i64 (IntKind.wrap IntKind.i64 (t * 2)))] ?_
        refine xrl [] [(13, .int .i64 (IntKind.wrap IntKind.i64 (i + 1)))] ?_
        refine ⟨n - 1, by omega, by omega, ?_⟩
        refine ⟨(IntKind.wrap IntKind.i64 (t * 2) : Int), (IntKind.wrap IntKind.i64 (i + 1) : Int), ?_, ?_, xw (zsS zi0 zs0)⟩
        ·have h3 : 2 ^ (E - (n - 1)) = 2 ^ (E - n) * 2 := by rw [show E - (n - 1) = (E - n) + 1 by omega, Nat.pow_succ]
         rw [ht, h3]
         generalize 2 ^ (E - n) = v at h2 ⊢
         have h4 : (2 : Nat) ^ 15 = 32768 := rfl
         rw [wsi (by omega)]
         omega
        ·rw [wsi (by omega)]; omega
       ·have hge : ¬ i < E := of_decide_eq_false q3
        obtain rfl : n = 0 := by omega
        rw [Nat.sub_zero] at ht h2
        have hT0 : 2 ≤ 2 ^ E := Nat.pow_le_pow_right (n := 2) (by decide) h.e0
        have htop : IntKind.i64.wrap (t - 1) = ((2 ^ E - 1 : Nat) : Int) := by
         rw [ht]
         have h4 : (2 : Nat) ^ 15 = 32768 := rfl
         generalize 2 ^ E = v at h2 hT0
         rw [wsi (by omega)]
         omega
        have nP : Nn (IntKind.i64.wrap ((P : Int) - 1)) (P - 1) := Nn.wrap (by omega) (by omega)
        have hng2 : ng = decide (x / 2 ^ (W - 1) % 2 = 1) := by
         rw [hng, Bool.eq_iff_iff, beq_iff_eq, decide_eq_true_iff]
         omega
        refine SW_exit ?_
        refine xr [] [(12, .int .i64 (IntKind.wrap IntKind.i64 (t - 1)))] ?_
        refine xr [] [(14, .bool true)] ?_
        refine xr [] [(15, .slice A1 (List.length (ofN B32 (x % 2 ^ fracN P ex))) k1)] ?_
        refine SW_cut (fun s' => ∃ A c, unpN P emin emax W E ex x = partsOf P emin emax E F ng (x % 2 ^ (P - 1)) ∧ Weak s' ⟨[(4, .pointer (some ⟨g1, 0, none⟩)), (5, .pointer (some ⟨g2, 0, none⟩)), (9, .int .i64 e), (11, .pointer (some ⟨g3, 0, none⟩)), (12, .int .i64 (IntKind.i64.wrap (t - 1))), (15, .slice A (ofN B32 (x % 2 ^ (P - 1))).length c)], [⟨g0, [.int .u64 (hiI x), .int .u64 (loI x)], 25⟩, ⟨g1, [.int .i64 0, .bool false, .int .u64 0, .int .u64 0, .int .i64 0], 27⟩, ⟨g2, [.int .i64 P, .int .i64 emin, .int .i64 emax, .int .i64 W, .int .i64 E, .bool ex], 83⟩, ⟨g3, [.int .i64 0, .bool ng, .int .u64 0, .int .u64 0, .int .i64 0], 27⟩], [Row .u64 A c (ofN B32 (x % 2 ^ (P - 1)))]⟩) ?_ ?_
        ·refine xr [(1, [2])] [(75, .bool ex)] ?_
         refine xs (ex) (fun q4 => ?_) (fun q4 => ?_)
         ·have hf2 : fracN P ex = P := by unfold fracN; rw [if_pos q4]
          have hmm : x % 2 ^ P % 2 ^ (P - 1) = x % 2 ^ (P - 1) := Nat.mod_mod_of_dvd _ (Nat.pow_dvd_pow 2 (by omega))
          rw [hf2] at sf hF
          rw [hf2]
          have hbit : (((x % 2 ^ P / 2 ^ (P - 1) % 2 : Nat) : Int) == 1) = decide (2 ^ (P - 1) ≤ x % 2 ^ P) := by
           rw [bit_top (v := x % 2 ^ P) (m := P - 1) (by rw [show P - 1 + 1 = P by omega]; exact Nat.mod_lt _ (Nat.pow_pos (by decide)))]
           by_cases hL : 2 ^ (P - 1) ≤ x % 2 ^ P
           ·rw [if_pos hL, decide_eq_true hL]; rfl
           ·rw [if_neg hL, decide_eq_false hL]; rfl
          have hbad : ¬ (2 ^ (P - 1) ≤ x % 2 ^ P ↔ F ≠ 0) → unpN P emin emax W E ex x = badP := by
           intro hn
           rw [unpN, if_neg (by omega), if_pos q4, ← hF, if_neg hn]
          have hgood : (2 ^ (P - 1) ≤ x % 2 ^ P ↔ F ≠ 0) → unpN P emin emax W E ex x = partsOf P emin emax E F ng (x % 2 ^ P % 2 ^ (P - 1)) := by
           intro hn
           rw [unpN, if_neg (by omega), if_pos q4, ← hF, if_pos hn, hng2]
          by_cases hF0 : F = 0
          ·have z1 : (e == 0) = true := by rw [heF, hF0]; rfl
           have z2 : decide (e > 0) = false := decide_eq_false (by omega)
           by_cases hL : 2 ^ (P - 1) ≤ x % 2 ^ P
           ·have z3 := hbit.trans (decide_eq_true hL)
            refine xg ?_
            refine xn 4 [(2, [2])] [(79, .int .i64 (IntKind.wrap IntKind.i64 ((P : Int) - 1))), (76, .slice A1 (List.length (ofN B32 (x % 2 ^ P))) k1)] ?_
            refine xcv 80 (ct_spec_l1Bit (x % 2 ^ P) (A1) (k1) (IntKind.wrap IntKind.i64 ((P : Int) - 1)) (P - 1) nP (by omega) sf) (zsS zi0 zs0) ?_
            refine xz [] [(14, .bool ((((x % 2 ^ P / 2 ^ (P - 1) % 2) : Nat) : Int) == 1))] ?_
            refine xg ?_
            refine xn 4 [(2, [2])] [(85, .int .i64 (IntKind.wrap IntKind.i64 ((P : Int) - 1))), (82, .slice A1 (List.length (ofN B32 (x % 2 ^ P))) k1)] ?_
            refine xcr 86 (ct_spec_l2Low (x % 2 ^ P) (A1) (k1) (IntKind.wrap IntKind.i64 ((P : Int) - 1)) (P - 1) nP (by omega) sf) (zsS zi0 zs0) (fun A2 k2 => ?_)
            refine xz [] [(15, .slice A2 (List.length (ofN B32 (x % 2 ^ P % 2 ^ (P - 1)))) k2)] ?_
            refine xg ?_
            refine xn 3 [] [(89, .bool (e == 0))] ?_
            refine xkt 89 z1 ?_
            refine xn 6 [] [(92, .bool ((((x % 2 ^ P / 2 ^ (P - 1) % 2) : Nat) : Int) == 1))] ?_
            refine xkt 92 z3 ?_
            refine xz [] [(99, .bool true)] ?_
            refine xs1 ?_
            refine xq [(1, [1])] [] [] ?_
            refine SW_ret ?_
            refine xe () (.agg #[.int .i64 0, .bool false, .int .u64 0, .int .u64 0, .int .i64 0]) [1] ?_ trivial
            rw [hbad (fun z => z.1 hL hF0)]
            rfl
           ·have z3 := hbit.trans (decide_eq_false hL)
            refine xg ?_
            refine xn 4 [(2, [2])] [(79, .int .i64 (IntKind.wrap IntKind.i64 ((P : Int) - 1))), (76, .slice A1 (List.length (ofN B32 (x % 2 ^ P))) k1)] ?_
            refine xcv 80 (ct_spec_l1Bit (x % 2 ^ P) (A1) (k1) (IntKind.wrap IntKind.i64 ((P : Int) - 1)) (P - 1) nP (by omega) sf) (zsS zi0 zs0) ?_
            refine xz [] [(14, .bool ((((x % 2 ^ P / 2 ^ (P - 1) % 2) : Nat) : Int) == 1))] ?_
            refine xg ?_
            refine xn 4 [(2, [2])] [(85, .int .i64 (IntKind.wrap IntKind.i64 ((P : Int) - 1))), (82, .slice A1 (List.length (ofN B32 (x % 2 ^ P))) k1)] ?_
            refine xcr 86 (ct_spec_l2Low (x % 2 ^ P) (A1) (k1) (IntKind.wrap IntKind.i64 ((P : Int) - 1)) (P - 1) nP (by omega) sf) (zsS zi0 zs0) (fun A2 k2 => ?_)
            refine xz [] [(15, .slice A2 (List.length (ofN B32 (x % 2 ^ P % 2 ^ (P - 1)))) k2)] ?_
            refine xg ?_
            refine xn 3 [] [(89, .bool (e == 0))] ?_
            refine xkt 89 z1 ?_
            refine xn 6 [] [(92, .bool ((((x % 2 ^ P / 2 ^ (P - 1) % 2) : Nat) : Int) == 1))] ?_
            refine xkf 92 z3 ?_
            refine xn 9 [] [(95, .bool (decide (e > 0)))] ?_
            refine xkf 95 z2 ?_
            refine xz [] [(99, .bool false)] ?_
            refine xs0 ?_
            refine SW_skip ?_
            rw [← hmm]
            refine ⟨(A2), (k2), ?_, xw (zsS zi0 zs0)⟩
            exact hgood ⟨fun z => absurd z hL, fun z => absurd hF0 z⟩
          ·have z1 : (e == 0) = false := by rw [heF, beq_eq_false_iff_ne]; omega
           have z2 : decide (e > 0) = true := decide_eq_true (by omega)
           by_cases hL : 2 ^ (P - 1) ≤ x % 2 ^ P
           ·have z3 := hbit.trans (decide_eq_true hL)
            have z4 : (!(((x % 2 ^ P / 2 ^ (P - 1) % 2 : Nat) : Int) == 1)) = false := by rw [z3]; rfl
            refine xg ?_
            refine xn 4 [(2, [2])] [(79, .int .i64 (IntKind.wrap IntKind.i64 ((P : Int) - 1))), (76, .slice A1 (List.length (ofN B32 (x % 2 ^ P))) k1)] ?_
            refine xcv 80 (ct_spec_l1Bit (x % 2 ^ P) (A1) (k1) (IntKind.wrap IntKind.i64 ((P : Int) - 1)) (P - 1) nP (by omega) sf) (zsS zi0 zs0) ?_
            refine xz [] [(14, .bool ((((x % 2 ^ P / 2 ^ (P - 1) % 2) : Nat) : Int) == 1))] ?_
            refine xg ?_
            refine xn 4 [(2, [2])] [(85, .int .i64 (IntKind.wrap IntKind.i64 ((P : Int) - 1))), (82, .slice A1 (List.length (ofN B32 (x % 2 ^ P))) k1)] ?_
            refine xcr 86 (ct_spec_l2Low (x % 2 ^ P) (A1) (k1) (IntKind.wrap IntKind.i64 ((P : Int) - 1)) (P - 1) nP (by omega) sf) (zsS zi0 zs0) (fun A2 k2 => ?_)
            refine xz [] [(15, .slice A2 (List.length (ofN B32 (x % 2 ^ P % 2 ^ (P - 1)))) k2)] ?_
            refine xg ?_
            refine xn 3 [] [(89, .bool (e == 0))] ?_
            refine xkf 89 z1 ?_
            refine xn 9 [] [(95, .bool (decide (e > 0))), (92, .bool false)] ?_
            refine xkt 95 z2 ?_
            refine xz [] [(99, .bool !(((x % 2 ^ P / 2 ^ (P - 1) % 2) : Nat) : Int) == 1)] ?_
            refine xsf z4 ?_
            refine SW_skip ?_
            rw [← hmm]
            refine ⟨(A2), (k2), ?_, xw (zsS zi0 zs0)⟩
            exact hgood ⟨fun _ => hF0, fun _ => hL⟩
           ·have z3 := hbit.trans (decide_eq_false hL)
            have z4 : (!(((x % 2 ^ P / 2 ^ (P - 1) % 2 : Nat) : Int) == 1)) = true := by rw [z3]; rfl
            refine xg ?_
            refine xn 4 [(2, [2])] [(79, .int .i64 (IntKind.wrap IntKind.i64 ((P : Int) - 1))), (76, .slice A1 (List.length (ofN B32 (x % 2 ^ P))) k1)] ?_
            refine xcv 80 (ct_spec_l1Bit (x % 2 ^ P) (A1) (k1) (IntKind.wrap IntKind.i64 ((P : Int) - 1)) (P - 1) nP (by omega) sf) (zsS zi0 zs0) ?_
            refine xz [] [(14, .bool ((((x % 2 ^ P / 2 ^ (P - 1) % 2) : Nat) : Int) == 1))] ?_
            refine xg ?_
            refine xn 4 [(2, [2])] [(85, .int .i64 (IntKind.wrap IntKind.i64 ((P : Int) - 1))), (82, .slice A1 (List.length (ofN B32 (x % 2 ^ P))) k1)] ?_
            refine xcr 86 (ct_spec_l2Low (x % 2 ^ P) (A1) (k1) (IntKind.wrap IntKind.i64 ((P : Int) - 1)) (P - 1) nP (by omega) sf) (zsS zi0 zs0) (fun A2 k2 => ?_)
            refine xz [] [(15, .slice A2 (List.length (ofN B32 (x % 2 ^ P % 2 ^ (P - 1)))) k2)] ?_
            refine xg ?_
            refine xn 3 [] [(89, .bool (e == 0))] ?_
            refine xkf 89 z1 ?_
            refine xn 9 [] [(95, .bool (decide (e > 0))), (92, .bool false)] ?_
            refine xkt 95 z2 ?_
            refine xz [] [(99, .bool !(((x % 2 ^ P / 2 ^ (P - 1) % 2) : Nat) : Int) == 1)] ?_
            refine xst z4 ?_
            refine xq [(1, [1])] [] [] ?_
            refine SW_ret ?_
            refine xe () (.agg #[.int .i64 0, .bool false, .int .u64 0, .int .u64 0, .int .i64 0]) [1] ?_ trivial
            rw [hbad (fun z => hL (z.2 hF0))]
            rfl
         ·have hf2 : fracN P ex = P - 1 := by unfold fracN; rw [q4]; rfl
          refine SW_skip ?_
          rw [← hf2]
          refine ⟨(A1), (k1), ?_, xw (zsS zi0 zs0)⟩
          rw [unpN, if_neg (by omega), if_neg (by rw [q4]; decide), ← hf2, hng2, hF]
        ·rintro s' ⟨A, c, hU, hw⟩
         refine SW_weak hw ?_
         rw [hU]
         have bR : x % 2 ^ (P - 1) < B128 := Nat.lt_of_le_of_lt (Nat.mod_le _ _) hx
         have sR : Sm (x % 2 ^ (P - 1)) := sm.mono (Nat.mod_le _ _)
         have sT : Sm (2 ^ (P - 1)) := Sm.of (k := P) (Nat.pow_lt_pow_right (by decide) (by omega)) (by omega)
         have bS : x % 2 ^ (P - 1) + 2 ^ (P - 1) < B128 := by
          have y1 := Nat.mod_lt x (Nat.pow_pos (n := P - 1) (show 0 < 2 by decide))
          have y2 : 2 ^ P = 2 * 2 ^ (P - 1) := by rw [Nat.mul_comm, ← Nat.pow_succ]; congr 1; omega
          have y3 : 2 ^ P ≤ 2 ^ 127 := Nat.pow_le_pow_right (by decide) (by omega)
          have y4 : (2 : Nat) ^ 127 < B128 := by decide
          omega
         have hz : ((((ofN B32 (x % 2 ^ (P - 1))).length : Nat) : Int) == 0) = decide (x % 2 ^ (P - 1) = 0) := by
          have y := ofN_zero B32_2 (x % 2 ^ (P - 1))
          rw [Bool.eq_iff_iff, beq_iff_eq, decide_eq_true_iff, ← y]
          omega
         have hm0 := h.m0
         have hm1 := h.m1
         have hFl : F < 2 ^ E := by rw [hF]; exact Nat.mod_lt _ (Nat.pow_pos (by decide))
         have hE2 : (2 : Nat) ^ 15 = 32768 := rfl
         by_cases c1 : F = 2 ^ E - 1
         ·have z1 : (e == IntKind.i64.wrap (t - 1)) = true := by rw [htop, heF, c1]; exact beq_self_eq_true _
          by_cases c2 : x % 2 ^ (P - 1) = 0
          ·have z2 := hz.trans (decide_eq_true c2)
           refine SW_seq ?_
           refine SW_block ?_
           refine xg ?_
           refine xn 4 [] [(123, .bool (e == IntKind.wrap IntKind.i64 (t - 1)))] ?_
           refine xkt 123 z1 ?_
           refine xz [] [(119, .bool ((((List.length (ofN B32 (x % 2 ^ (P - 1)))) : Nat) : Int) == 0))] ?_
           refine xst z2 ?_
           refine xql [(1, [3])] [] [(3, [.int .i64 4, .bool ng, .int .u64 0, .int .u64 0, .int .i64 0])] ?_
           refine xq [(0, [3]), (1, [1])] [] [(1, [.int .i64 4, .bool ng, .int .u64 0, .int .u64 0, .int .i64 0])] ?_
           refine SW_ret ?_
           refine xe () (.agg #[.int .i64 4, .bool ng, .int .u64 0, .int .u64 0, .int .i64 0]) [1] ?_ trivial
           rw [partsOf, if_pos c1, if_pos c2]
           rfl
          ·have z2 := hz.trans (decide_eq_false c2)
           refine SW_seq ?_
           refine SW_block ?_
           refine xg ?_
           refine xn 4 [] [(123, .bool (e == IntKind.wrap IntKind.i64 (t - 1)))] ?_
           refine xkt 123 z1 ?_
           refine xz [] [(119, .bool ((((List.length (ofN B32 (x % 2 ^ (P - 1)))) : Nat) : Int) == 0))] ?_
           refine xsf z2 ?_
           refine xr [] [(129, .bool (e == IntKind.wrap IntKind.i64 (t - 1)))] ?_
           refine xst z1 ?_
           refine xq [(1, [1])] [] [(1, [.int .i64 5, .bool false, .int .u64 0, .int .u64 0, .int .i64 0])] ?_
           refine SW_ret ?_
           refine xe () (.agg #[.int .i64 5, .bool false, .int .u64 0, .int .u64 0, .int .i64 0]) [1] ?_ trivial
           rw [partsOf, if_pos c1, if_neg c2]
           rfl
         ·have z1 : (e == IntKind.i64.wrap (t - 1)) = false := by rw [htop, heF, beq_eq_false_iff_ne]; omega
          by_cases c3 : F = 0
          ·have z3 : (e == 0) = true := by rw [heF, c3]; rfl
           by_cases c2 : x % 2 ^ (P - 1) = 0
           ·have z2 := hz.trans (decide_eq_true c2)
            refine SW_seq ?_
            refine SW_block ?_
            refine xg ?_
            refine xn 4 [] [(123, .bool (e == IntKind.wrap IntKind.i64 (t - 1)))] ?_
            refine xkf 123 z1 ?_
            refine xz [] [(119, .bool false)] ?_
            refine xs0 ?_
            refine xr [] [(129, .bool (e == IntKind.wrap IntKind.i64 (t - 1)))] ?_
            refine xsf z1 ?_
            refine xg ?_
            refine xn 3 [] [(137, .bool (e == 0))] ?_
            refine xkt 137 z3 ?_
            refine xz [] [(134, .bool ((((List.length (ofN B32 (x % 2 ^ (P - 1)))) : Nat) : Int) == 0))] ?_
            refine xst z2 ?_
            refine xql [(1, [3])] [] [(3, [.int .i64 1, .bool ng, .int .u64 0, .int .u64 0, .int .i64 0])] ?_
            refine xq [(0, [3]), (1, [1])] [] [(1, [.int .i64 1, .bool ng, .int .u64 0, .int .u64 0, .int .i64 0])] ?_
            refine SW_ret ?_
            refine xe () (.agg #[.int .i64 1, .bool ng, .int .u64 0, .int .u64 0, .int .i64 0]) [1] ?_ trivial
            rw [partsOf, if_neg c1, if_pos c3, if_pos c2]
            rfl
           ·have z2 := hz.trans (decide_eq_false c2)
            refine SW_seq ?_
            refine SW_block ?_
            refine xg ?_
            refine xn 4 [] [(123, .bool (e == IntKind.wrap IntKind.i64 (t - 1)))] ?_
            refine xkf 123 z1 ?_
            refine xz [] [(119, .bool false)] ?_
            refine xs0 ?_
            refine xr [] [(129, .bool (e == IntKind.wrap IntKind.i64 (t - 1)))] ?_
            refine xsf z1 ?_
            refine xg ?_
            refine xn 3 [] [(137, .bool (e == 0))] ?_
            refine xkt 137 z3 ?_
            refine xz [] [(134, .bool ((((List.length (ofN B32 (x % 2 ^ (P - 1)))) : Nat) : Int) == 0))] ?_
            refine xsf z2 ?_
            refine xr [] [(143, .bool (e == 0))] ?_
            refine xst z3 ?_
            refine xq [(1, [3])] [] [(3, [.int .i64 2, .bool ng, .int .u64 0, .int .u64 0, .int .i64 0])] ?_
            refine xg ?_
            refine xn 1 [] [(147, .slice A (List.length (ofN B32 (x % 2 ^ (P - 1)))) c)] ?_
            refine xcv 148 (ct_spec_l2Word (x % 2 ^ (P - 1)) (A) (c) bR) (zsS zi0 zs0) ?_
            refine xy [(3, [3])] [] [(3, [.int .i64 2, .bool ng, .int .u64 (hiI (x % 2 ^ (P - 1))), .int .u64 (loI (x % 2 ^ (P - 1))), .int .i64 0])] ?_
            refine xql [(1, [2]), (3, [2]), (7, [3])] [] [(3, [.int .i64 2, .bool ng, .int .u64 (hiI (x % 2 ^ (P - 1))), .int .u64 (loI (x % 2 ^ (P - 1))), .int .i64 (IntKind.wrap IntKind.i64 (IntKind.wrap IntKind.i64 (emin - (P : Int)) + 1))])] ?_
            refine xq [(0, [3]), (1, [1])] [] [(1, [.int .i64 2, .bool ng, .int .u64 (hiI (x % 2 ^ (P - 1))), .int .u64 (loI (x % 2 ^ (P - 1))), .int .i64 (IntKind.wrap IntKind.i64 (IntKind.wrap IntKind.i64 (emin - (P : Int)) + 1))])] ?_
            refine SW_ret ?_
            refine xe () (.agg #[.int .i64 2, .bool ng, .int .u64 (hiI (x % 2 ^ (P - 1))), .int .u64 (loI (x % 2 ^ (P - 1))), .int .i64 (IntKind.wrap IntKind.i64 (IntKind.wrap IntKind.i64 (emin - (P : Int)) + 1))]) [1] ?_ trivial
            rw [partsOf, if_neg c1, if_pos c3, if_neg c2, wsi (x := emin - _) (by omega), wsi (by omega)]
            rfl
          ·have z3 : (e == 0) = false := by rw [heF, beq_eq_false_iff_ne]; omega
           refine SW_seq ?_
           refine SW_block ?_
           refine xg ?_
           refine xn 4 [] [(123, .bool (e == IntKind.wrap IntKind.i64 (t - 1)))] ?_
           refine xkf 123 z1 ?_
           refine xz [] [(119, .bool false)] ?_
           refine xs0 ?_
           refine xr [] [(129, .bool (e == IntKind.wrap IntKind.i64 (t - 1)))] ?_
           refine xsf z1 ?_
           refine xg ?_
           refine xn 3 [] [(137, .bool (e == 0))] ?_
           refine xkf 137 z3 ?_
           refine xz [] [(134, .bool false)] ?_
           refine xs0 ?_
           refine xr [] [(143, .bool (e == 0))] ?_
           refine xsf z3 ?_
           refine xq [(1, [3])] [] [(3, [.int .i64 3, .bool ng, .int .u64 0, .int .u64 0, .int .i64 0])] ?_
           refine xg ?_
           refine xn 4 [(2, [2])] [(105, .int .i64 (IntKind.wrap IntKind.i64 ((P : Int) - 1))), (102, .slice A (List.length (ofN B32 (x % 2 ^ (P - 1)))) c)] ?_
           refine xcr 106 (ct_spec_l2Two (IntKind.wrap IntKind.i64 ((P : Int) - 1)) (P - 1) nP (by omega)) zs0 (fun A2 k2 => ?_)
           refine xcr 107 (ct_spec_l1Add (x % 2 ^ (P - 1)) (2 ^ (P - 1)) (A) (A2) (c) (k2) sR sT) (zsS (ziS zi0) (zsS zi0 zs0)) (fun A3 k3 => ?_)
           refine xcv 108 (ct_spec_l2Word (x % 2 ^ (P - 1) + 2 ^ (P - 1)) (A3) (k3) bS) (zsS zi0 zs0) ?_
           refine xy [(8, [3])] [] [(3, [.int .i64 3, .bool ng, .int .u64 (hiI (x % 2 ^ (P - 1) + 2 ^ (P - 1))), .int .u64 (loI (x % 2 ^ (P - 1) + 2 ^ (P - 1))), .int .i64 0])] ?_
           refine xql [(2, [2]), (5, [2]), (9, [3])] [] [(3, [.int .i64 3, .bool ng, .int .u64 (hiI (x % 2 ^ (P - 1) + 2 ^ (P - 1))), .int .u64 (loI (x % 2 ^ (P - 1) + 2 ^ (P - 1))), .int .i64 (IntKind.wrap IntKind.i64 (IntKind.wrap IntKind.i64 (IntKind.wrap IntKind.i64 (e - emax) - (P : Int)) + 1))])] ?_
           refine xq [(0, [3]), (1, [1])] [] [(1, [.int .i64 3, .bool ng, .int .u64 (hiI (x % 2 ^ (P - 1) + 2 ^ (P - 1))), .int .u64 (loI (x % 2 ^ (P - 1) + 2 ^ (P - 1))), .int .i64 (IntKind.wrap IntKind.i64 (IntKind.wrap IntKind.i64 (IntKind.wrap IntKind.i64 (e - emax) - (P : Int)) + 1))])] ?_
           refine SW_ret ?_
           refine xe () (.agg #[.int .i64 3, .bool ng, .int .u64 (hiI (x % 2 ^ (P - 1) + 2 ^ (P - 1))), .int .u64 (loI (x % 2 ^ (P - 1) + 2 ^ (P - 1))), .int .i64 (IntKind.wrap IntKind.i64 (IntKind.wrap IntKind.i64 (IntKind.wrap IntKind.i64 (e - emax) - (P : Int)) + 1))]) [1] ?_ trivial
           have hF15 : F < 32768 := Nat.lt_of_lt_of_le hFl h2
           rw [partsOf, if_neg c1, if_neg c3, heF, wsi (x := (F : Int) - _) (by omega), wsi (x := (F : Int) - _ - _) (by omega), wsi (by omega)]
           rfl
end Go.Proofs.YtdbnmdchecacdaaDoor.M
end
section
namespace Go.Proofs.YtdbnmdchecacdaaDoor.M
open Go.RowKit Go.Proofs.YtdbnmdchecacdaaDoor.G Go.Proofs.YtdbnmdchecacdaaDoorV.PrintWords Go.Proofs.YtdbnmdchecacdaaDoorV.PrintLast Go.Proofs.YtdbnmdchecacdaaDoor.X
set_option linter.unusedVariables false
set_option linter.unusedSimpArgs false
theorem ct_spec_l2Top {P : Nat} {emin emax : Int} {W E : Nat} {ex : Bool} (h : Fmt2 P emin emax W E ex) : CtV Tryd.prog 79 [dscV P emin emax W E ex] [] (.int .i64 ((2 ^ E - 1 : Nat) : Int)) := by
 have m1 := h.m1
 refine ct_of Tryd.func79 rfl (by kernel_rfl) (fun B w0 => ?_)
 refine xg ?_
 refine xb 1 [.int .i64 (P : Int), .int .i64 emin, .int .i64 emax, .int .i64 (W : Int), .int .i64 (E : Int), .bool ex] 83 (fun g0 => ?_)
 refine xz [] [(2, .int .i64 0)] ?_
 refine xr [(1, [0])] [(2, .int .i64 (IntKind.wrap IntKind.i64 (IntKind.wrap IntKind.i64 (2 * emax) + 1)))] ?_
 refine SW_ret ?_
 refine xe () (.int .i64 (IntKind.wrap IntKind.i64 (IntKind.wrap IntKind.i64 (2 * emax) + 1))) [] ?_ trivial
 rw [wsi (x := 2 * emax) (by omega), wsi (by omega), h.top]
theorem ct_spec_Pack {P : Nat} {emin emax : Int} {W E : Nat} {ex : Bool} (h : Fmt2 P emin emax W E ex) (f : Int) (hf : spec_Describe.f f = some ((P : Int), emin, emax, (W : Int), (E : Int), ex)) (c : Int) (neg : Bool) (S : Nat) (hS : S < B128) (q : Int) (hq : -9223372036854775808 ≤ q ∧ q ≤ 9223372036854775807) :
  CtV Tryd.prog 21 [.int .i64 f, .agg #[.int .i64 c, .bool neg, .int .u64 (hiI S), .int .u64 (loI S), .int .i64 q]] [] (.tuple #[.agg #[.int .u64 (hiI (packR P emin emax W E ex c neg S q).1), .int .u64 (loI (packR P emin emax W E ex c neg S q).1)], .bool (packR P emin emax W E ex c neg S q).2]) := by
 have h1 := h.toFmt
 refine ct_of Tryd.func21 rfl (by kernel_rfl) (fun B w0 => ?_)
 have p3 := h.p3
 have p1 := h.p1
 refine xg ?_
 refine xb 3 [.int .i64 c, .bool neg, .int .u64 (hiI S), .int .u64 (loI S), .int .i64 q] 27 (fun g0 => ?_)
 refine xb 4 [.int .u64 0, .int .u64 0] 25 (fun g1 => ?_)
 refine xz [] [(5, .bool false)] ?_
 refine xg ?_
 refine xn 1 [] [(10, .int .i64 f)] ?_
 refine xcv 11 (ct_spec_Describe (f) hf) zs0 ?_
 refine xb 6 [.int .i64 0, .int .i64 0, .int .i64 0, .int .i64 0, .int .i64 0, .bool false] 83 (fun g2 => ?_)
 refine xy [(3, [2])] [] [(2, [.int .i64 (P : Int), .int .i64 emin, .int .i64 emax, .int .i64 (W : Int), .int .i64 (E : Int), .bool ex])] ?_
 refine SW_seq ?_
 refine xr [(1, [2])] [(14, .bool ((P : Int) == 0))] ?_
 refine xs ((P : Int) == 0) (fun q0 => ?_) (fun q0 => ?_)
 ·exfalso
  have := beq_iff_eq.1 q0
  omega
 ·refine SW_skip ?_
  refine xg ?_
  refine xn 1 [] [(16, .agg #[.int .u64 0, .int .u64 0])] ?_
  refine xb 7 [.int .u64 0, .int .u64 0] 25 (fun g3 => ?_)
  refine xy [(2, [3])] [] [] ?_
  refine xg ?_
  refine xn 2 [(1, [0])] [(18, .agg #[.int .u64 (hiI S), .int .u64 (loI S)])] ?_
  refine xcr 19 (ct_spec_l2Of (S) hS) zs0 (fun A0 k0 => ?_)
  refine xz [] [(8, .slice A0 (List.length (ofN B32 S)) k0)] ?_
  have e0 : 0 < 2 ^ E := Nat.pow_pos (by decide)
  have e1 : 2 ^ E - 1 < 2 ^ E := by omega
  have nP2 : Nn (IntKind.i64.wrap ((P : Int) - 2)) (P - 2) := Nn.wrap (by omega) (by omega)
  have r2 : 2 ^ (P - 2) < 2 ^ (P - 1) := Nat.pow_lt_pow_right (by decide) (by omega)
  have nP1 : Nn (IntKind.i64.wrap ((P : Int) - 1)) (P - 1) := Nn.wrap (by omega) (by omega)
  have hlow : S % 2 ^ (P - 1) < 2 ^ (P - 1) := Nat.mod_lt _ (Nat.pow_pos (by decide))
  have h128 : 2 ^ W ≤ B128 := Nat.pow_le_pow_right (n := 2) (by decide) h1.w2
  have mk : ∀ n l e r, e < 2 ^ E → r < 2 ^ (P - 1) → makeN P W ex n l e r < B128 := fun n l e r he hr => Nat.lt_of_lt_of_le (makeN_lt h1 n l e r he hr) h128
  have z0 : 0 < 2 ^ (P - 1) := Nat.pow_pos (by decide)
  obtain ⟨m, hm⟩ := bits_ex S
  have sS : Sm S := sm128 (Nat.lt_of_lt_of_le hS (by decide))
  refine SW_cut (fun s' => ∃ x, x < B128 ∧ packN P emax W E ex c neg S q = some x ∧ Weak s' ⟨[(0, .int .i64 f), (3, .pointer (some ⟨g0, 0, none⟩)), (4, .pointer (some ⟨g1, 0, none⟩)), (7, .pointer (some ⟨g3, 0, none⟩))], [⟨g0, [.int .i64 c, .bool neg, .int .u64 (hiI S), .int .u64 (loI S), .int .i64 q], 27⟩, ⟨g1, [.int .u64 0, .int .u64 0], 25⟩, ⟨g2, [.int .i64 (P : Int), .int .i64 emin, .int .i64 emax, .int .i64 (W : Int), .int .i64 (E : Int), .bool ex], 83⟩, ⟨g3, [.int .u64 (hiI x), .int .u64 (loI x)], 25⟩], []⟩) ?_ ?_
  ·refine xr [(1, [0])] [(21, .int .i64 c)] ?_
   refine SW_block ?_
   refine xr [] [(23, .bool (c == 1))] ?_
   refine xs (c == 1) (fun q1 => ?_) (fun q1 => ?_)
   ·refine SW_region ?_
    refine xn 3 [(0, [2]), (2, [0])] [(27, .bool neg), (25, .agg #[.int .i64 (P : Int), .int .i64 emin, .int .i64 emax, .int .i64 (W : Int), .int .i64 (E : Int), .bool ex])] ?_
    refine xcv 28 (ct_spec_l2Make' h1 (neg) (false) (0) e0 (0) ⟨rfl⟩) zs0 ?_
    refine xy [(4, [3])] [] [(3, [.int .u64 (hiI (makeN P W ex neg false 0 0)), .int .u64 (loI (makeN P W ex neg false 0 0))])] ?_
    have hc : c = 1 := by simpa using q1
    exact ⟨_, mk neg false 0 0 e0 z0, by unfold packN; rw [if_pos hc], Weak.mk' (by kernel_rfl) rfl zs0⟩
   have hc1 : c ≠ 1 := by simpa using q1
   refine xr [] [(29, .bool (c == 4))] ?_
   refine xs (c == 4) (fun q2 => ?_) (fun q2 => ?_)
   ·refine xdl (fun hB => ?_)
    refine xdk [(0, [2]), (1, []), (2, [0]), (3, [2])] [(34, .agg #[.int .i64 (P : Int), .int .i64 emin, .int .i64 emax, .int .i64 (W : Int), .int .i64 (E : Int), .bool ex]), (33, .bool neg), (31, .agg #[.int .i64 (P : Int), .int .i64 emin, .int .i64 emax, .int .i64 (W : Int), .int .i64 (E : Int), .bool ex])] hB ?_
    refine xdv 4 35 (ct_spec_l2Top h) zs0 ?_
    refine xdv 5 36 (ct_spec_l2Make' h1 (neg) (true) (2 ^ E - 1) e1 ((((2 ^ E - 1) : Nat) : Int)) ⟨rfl⟩) zs0 ?_
    refine xds 6 [3] [(3, [.int .u64 (hiI (makeN P W ex neg true (2 ^ E - 1) 0)), .int .u64 (loI (makeN P W ex neg true (2 ^ E - 1) 0))])] ?_
    refine xdz ?_
    have hc : c = 4 := by simpa using q2
    exact ⟨_, mk neg true _ 0 e1 z0, by unfold packN; rw [if_neg hc1, if_pos hc], Weak.mk' (by kernel_rfl) rfl zs0⟩
   have hc4 : c ≠ 4 := by simpa using q2
   refine xr [] [(37, .bool (c == 5))] ?_
   refine xs (c == 5) (fun q3 => ?_) (fun q3 => ?_)
   ·refine xdl (fun hB => ?_)
    refine xdk [(0, [2]), (1, [2]), (3, []), (4, [2]), (5, [])] [(44, .int .i64 (IntKind.wrap IntKind.i64 ((P : Int) - 2))), (40, .agg #[.int .i64 (P : Int), .int .i64 emin, .int .i64 emax, .int .i64 (W : Int), .int .i64 (E : Int), .bool ex]), (39, .agg #[.int .i64 (P : Int), .int .i64 emin, .int .i64 emax, .int .i64 (W : Int), .int .i64 (E : Int), .bool ex])] hB ?_
    refine xdv 2 41 (ct_spec_l2Top h) zs0 ?_
    refine xdr 6 45 (ct_spec_l2Two (IntKind.wrap IntKind.i64 ((P : Int) - 2)) (P - 2) nP2 (by omega)) zs0 (fun A1 k1 => ?_)
    refine xdv 7 46 (ct_spec_l2Make h1 (false) (true) (2 ^ E - 1) (2 ^ (P - 2)) e1 r2 ((((2 ^ E - 1) : Nat) : Int)) ⟨rfl⟩ (A1) (k1)) (zsS zi0 zs0) ?_
    refine xds 8 [3] [(3, [.int .u64 (hiI (makeN P W ex false true (2 ^ E - 1) (2 ^ (P - 2)))), .int .u64 (loI (makeN P W ex false true (2 ^ E - 1) (2 ^ (P - 2))))])] ?_
    refine xdz ?_
    have hc : c = 5 := by simpa using q3
    exact ⟨_, mk false true _ _ e1 r2, by unfold packN; rw [if_neg hc1, if_neg hc4, if_pos hc], Weak.mk' (by kernel_rfl) rfl zs0⟩
   have hc5 : c ≠ 5 := by simpa using q3
   refine xr [] [(47, .bool (c == 2))] ?_
   refine xs (c == 2) (fun q4 => ?_) (fun q4 => ?_)
   ·have hc : c = 2 := by simpa using q4
    have hpk : packN P emax W E ex c neg S q = if S < 2 ^ (P - 1) then some (makeN P W ex neg false 0 S) else none := by unfold packN; rw [if_neg hc1, if_neg hc4, if_neg hc5, if_pos hc]
    have hb := bits_lt (k := P - 1) hm
    refine SW_seq ?_
    refine xd (fun hB => ?_)
    refine xdk [(0, []), (2, []), (3, [2])] [(52, .int .i64 (P : Int)), (49, .slice A0 (List.length (ofN B32 S)) k0)] hB ?_
    refine xdv 1 50 (ct_spec_l1Bits (S) (A0) (k0) sS (m) hm) (zsS zi0 zs0) ?_
    refine xdk [(4, [])] [(53, .bool (decide ((m : Int) ≥ (P : Int))))] hB ?_
    refine xdz ?_
    refine xs (decide ((m : Int) ≥ (P : Int))) (fun q5 => ?_) (fun q5 => ?_)
    ·refine xq [(1, [1])] [(5, .bool false)] [] ?_
     refine SW_ret ?_
     refine xe () (.tuple #[.agg #[.int .u64 0, .int .u64 0], .bool false]) [1] ?_ trivial
     have hge : P ≤ m := by simpa using q5
     rw [packR_none (by rw [hpk, if_neg (by rw [← hb]; omega)])]
     rfl
    have hlt : m < P := by simpa using q5
    have hS2 : S < 2 ^ (P - 1) := hb.1 (by omega)
    refine SW_skip ?_
    refine SW_region ?_
    refine xn 4 [(0, [2]), (2, [0])] [(58, .slice A0 (List.length (ofN B32 S)) k0), (57, .bool neg), (55, .agg #[.int .i64 (P : Int), .int .i64 emin, .int .i64 emax, .int .i64 (W : Int), .int .i64 (E : Int), .bool ex])] ?_
    refine xcv 59 (ct_spec_l2Make h1 (neg) (false) (0) (S) e0 hS2 (0) ⟨rfl⟩ (A0) (k0)) (zsS zi0 zs0) ?_
    refine xy [(5, [3])] [] [(3, [.int .u64 (hiI (makeN P W ex neg false 0 S)), .int .u64 (loI (makeN P W ex neg false 0 S))])] ?_
    exact ⟨_, mk neg false 0 S e0 hS2, by rw [hpk, if_pos hS2], Weak.mk' (by kernel_rfl) rfl zs0⟩
   have hc2 : c ≠ 2 := by simpa using q4
   refine xr [] [(60, .bool (c == 3))] ?_
   refine xs (c == 3) (fun q5 => ?_) (fun q5 => ?_)
   ·have hc : c = 3 := by simpa using q5
    have hpk : packN P emax W E ex c neg S q = if (2 ^ (P - 1) ≤ S ∧ S < 2 ^ P) ∧ 1 ≤ q + emax + P - 1 ∧ q + emax + P - 1 < ((2 ^ E - 1 : Nat) : Int) then some (makeN P W ex neg true (q + emax + P - 1).toNat (S % 2 ^ (P - 1))) else none := by unfold packN; rw [if_neg hc1, if_neg hc4, if_neg hc5, if_neg hc2, if_pos hc]
    have m1 := h.m1
    have tp := h.top
    have wE := wrapE q emax P hq (by omega) m1.2 p1 (by omega)
    have hbP : m = P ↔ 2 ^ (P - 1) ≤ S ∧ S < 2 ^ P := ⟨fun e => by subst e; exact ⟨hm.2.resolve_left (by omega), hm.1⟩, fun e => hm.uniq ⟨e.2, .inr e.1⟩⟩
    have nope : ∀ x : Int, x = IntKind.i64.wrap (IntKind.i64.wrap (IntKind.i64.wrap (q + emax) + (P : Int)) - 1) → ¬ (m = P ∧ 1 ≤ x ∧ x < ((2 ^ E - 1 : Nat) : Int)) → packR P emin emax W E ex c neg S q = (0, false) := by
     intro x hx hn
     refine packR_none ?_
     rw [hpk, if_neg]
     intro hh
     rw [← hx] at wE
     refine hn ⟨hbP.2 hh.1, ?_⟩
     omega
    refine xr [(1, [0]), (3, [2]), (6, [2])] [(9, .int .i64 (IntKind.wrap IntKind.i64 (IntKind.wrap IntKind.i64 (IntKind.wrap IntKind.i64 (q + emax) + (P : Int)) - 1)))] ?_
    refine SW_seq ?_
    refine xd (fun hB => ?_)
    refine xdk [(0, []), (2, []), (3, [2])] [(74, .int .i64 (P : Int)), (71, .slice A0 (List.length (ofN B32 S)) k0)] hB ?_
    refine xdv 1 72 (ct_spec_l1Bits (S) (A0) (k0) sS (m) hm) (zsS zi0 zs0) ?_
    refine xdk [(4, []), (5, [])] [(76, .bool ((m : Int) != (P : Int)))] hB ?_
    refine xdn 76 ((m : Int) != (P : Int)) (fun q6 => ?_) (fun q6 => ?_)
    ·refine xdk [(6, []), (7, []), (8, []), (9, []), (10, []), (11, [2]), (12, []), (13, []), (14, [])] [(85, .bool true)] hB ?_
     refine xdz ?_
     refine xs1 ?_
     refine xq [(1, [1])] [(5, .bool false)] [] ?_
     refine SW_ret ?_
     refine xe () (.tuple #[.agg #[.int .u64 0, .int .u64 0], .bool false]) [1] ?_ trivial
     rw [nope _ rfl (fun z => by rw [z.1] at q6; simp at q6)]
     rfl
    ·have hmP : m = P := by
      have z : (m : Int) = P := by simpa using q6
      omega
     refine xdk [(6, []), (7, []), (8, []), (9, [])] [(80, .bool (decide (IntKind.wrap IntKind.i64 (IntKind.wrap IntKind.i64 (IntKind.wrap IntKind.i64 (q + emax) + (P : Int)) - 1) < 1)))] hB ?_
     refine xdn 80 (decide (IntKind.wrap IntKind.i64 (IntKind.wrap IntKind.i64 (IntKind.wrap IntKind.i64 (q + emax) + (P : Int)) - 1) < 1)) (fun q7 => ?_) (fun q7 => ?_)
     ·refine xdk [(10, []), (11, [2]), (12, []), (13, []), (14, [])] [(85, .bool true)] hB ?_
      refine xdz ?_
      refine xs1 ?_
      refine xq [(1, [1])] [(5, .bool false)] [] ?_
      refine SW_ret ?_
      refine xe () (.tuple #[.agg #[.int .u64 0, .int .u64 0], .bool false]) [1] ?_ trivial
      rw [nope _ rfl (fun z => by have := of_decide_eq_true q7; omega)]
      rfl
     ·refine xdk [(10, []), (11, [2])] [(82, .agg #[.int .i64 (P : Int), .int .i64 emin, .int .i64 emax, .int .i64 (W : Int), .int .i64 (E : Int), .bool ex]), (81, .int .i64 (IntKind.wrap IntKind.i64 (IntKind.wrap IntKind.i64 (IntKind.wrap IntKind.i64 (q + emax) + (P : Int)) - 1)))] hB ?_
      refine xdv 12 83 (ct_spec_l2Top h) zs0 ?_
      refine xdk [(13, []), (14, [])] [(85, .bool (decide (IntKind.wrap IntKind.i64 (IntKind.wrap IntKind.i64 (IntKind.wrap IntKind.i64 (q + emax) + (P : Int)) - 1) ≥ (((2 ^ E - 1) : Nat) : Int))))] hB ?_
      refine xdz ?_
      refine xs (decide (IntKind.wrap IntKind.i64 (IntKind.wrap IntKind.i64 (IntKind.wrap IntKind.i64 (q + emax) + (P : Int)) - 1) ≥ (((2 ^ E - 1) : Nat) : Int))) (fun q8 => ?_) (fun q8 => ?_)
      ·refine xq [(1, [1])] [(5, .bool false)] [] ?_
       refine SW_ret ?_
       refine xe () (.tuple #[.agg #[.int .u64 0, .int .u64 0], .bool false]) [1] ?_ trivial
       rw [nope _ rfl (fun z => by have := of_decide_eq_true q8; omega)]
       rfl
      ·have a1 := of_decide_eq_false q7
       have a2 := of_decide_eq_false q8
       have wE2 : IntKind.i64.wrap (IntKind.i64.wrap (IntKind.i64.wrap (q + emax) + (P : Int)) - 1) = q + emax + P - 1 := by
        rcases wE with e | e
        ·exact e
        ·exact absurd e.1 a1
       rw [wE2] at a1 a2
       have nE : Nn (IntKind.i64.wrap (IntKind.i64.wrap (IntKind.i64.wrap (q + emax) + (P : Int)) - 1)) (q + emax + P - 1).toNat := ⟨by rw [wE2]; omega⟩
       have e3 : (q + emax + P - 1).toNat < 2 ^ E := by omega
       clear wE2 wE nope
       refine SW_skip ?_
       refine xdl (fun hB => ?_)
       refine xdk [(0, [2]), (1, []), (2, [0]), (3, []), (4, []), (5, []), (6, [2]), (7, [])] [(94, .int .i64 (IntKind.wrap IntKind.i64 ((P : Int) - 1))), (91, .slice A0 (List.length (ofN B32 S)) k0), (90, .int .i64 (IntKind.wrap IntKind.i64 (IntKind.wrap IntKind.i64 (IntKind.wrap IntKind.i64 (q + emax) + (P : Int)) - 1))), (89, .bool neg), (87, .agg #[.int .i64 (P : Int), .int .i64 emin, .int .i64 emax, .int .i64 (W : Int), .int .i64 (E : Int), .bool ex])] hB ?_
       refine xdr 8 95 (ct_spec_l2Low (S) (A0) (k0) (IntKind.wrap IntKind.i64 ((P : Int) - 1)) (P - 1) nP1 (by omega) sS) (zsS zi0 zs0) (fun A1 k1 => ?_)
       refine xdv 9 96 (ct_spec_l2Make h1 (neg) (true) (Int.toNat (q + emax + (P : Int) - 1)) (S % 2 ^ (P - 1)) e3 hlow (IntKind.wrap IntKind.i64 (IntKind.wrap IntKind.i64 (IntKind.wrap IntKind.i64 (q + emax) + (P : Int)) - 1)) nE (A1) (k1)) (zsS zi0 zs0) ?_
       refine xds 10 [3] [(3, [.int .u64 (hiI (makeN P W ex neg true (Int.toNat (q + emax + (P : Int) - 1)) (S % 2 ^ (P - 1)))), .int .u64 (loI (makeN P W ex neg true (Int.toNat (q + emax + (P : Int) - 1)) (S % 2 ^ (P - 1))))])] ?_
       refine xdz ?_
       exact ⟨_, mk neg true _ _ e3 hlow, by rw [hpk, if_pos ⟨hbP.1 hmP, by omega, by omega⟩], Weak.mk' (by kernel_rfl) rfl zs0⟩
   ·have hc3 : c ≠ 3 := by simpa using q5
    refine xq [(1, [1])] [(5, .bool false)] [] ?_
    refine SW_ret ?_
    refine xe () (.tuple #[.agg #[.int .u64 0, .int .u64 0], .bool false]) [1] ?_ trivial
    rw [packR_none (by unfold packN; rw [if_neg hc1, if_neg hc4, if_neg hc5, if_neg hc2, if_neg hc3])]
    rfl
  ·rintro s' ⟨x, hx, hpk, hw⟩
   refine SW_weak hw ?_
   rw [packR_some hpk]
   refine SW_seq ?_
   refine xd (fun hB => ?_)
   refine xdk [(0, []), (1, [3]), (3, [0])] [(100, .agg #[.int .i64 c, .bool neg, .int .u64 (hiI S), .int .u64 (loI S), .int .i64 q]), (98, .agg #[.int .u64 (hiI x), .int .u64 (loI x)]), (97, .int .i64 f)] hB ?_
   refine xdv 2 99 (ct_spec_Unpack h1 (f) hf (x) hx) zs0 ?_
   refine xdw 4 101 (.bool (!(((fun α β self => self.1) Int (Bool × Int × Int × Int) (unpN P emin emax W E ex x) == c) && (((fun α β self => self.1) Bool (Int × Int × Int) ((fun α β self => self.2) Int (Bool × Int × Int × Int) (unpN P emin emax W E ex x)) == neg) && ((((fun α β self => self.1) Int (Int × Int) ((fun α β self => self.2) Bool (Int × Int × Int) ((fun α β self => self.2) Int (Bool × Int × Int × Int) (unpN P emin emax W E ex x))) == hiI S) && ((fun α β self => self.1) Int Int ((fun α β self => self.2) Int (Int × Int) ((fun α β self => self.2) Bool (Int × Int × Int) ((fun α β self => self.2) Int (Bool × Int × Int × Int) (unpN P emin emax W E ex x)))) == loI S)) && ((fun α β self => self.2) Int Int ((fun α β self => self.2) Int (Int × Int) ((fun α β self => self.2) Bool (Int × Int × Int) ((fun α β self => self.2) Int (Bool × Int × Int × Int) (unpN P emin emax W E ex x)))) == q)))))) hB (fun w _ _ => run_neq rfl (by kernel_rfl) (by kernel_rfl) (by kernel_rfl) w (eq_parts _ _ _ _ _ _ _ _ _ _ _ w)) ?_
   refine xdz ?_
   refine xs (!((fun α β self => self.1) Int (Bool × Int × Int × Int) (unpN P emin emax W E ex x) == c && ((fun α β self => self.1) Bool (Int × Int × Int) ((fun α β self => self.2) Int (Bool × Int × Int × Int) (unpN P emin emax W E ex x)) == neg && ((fun α β self => self.1) Int (Int × Int) ((fun α β self => self.2) Bool (Int × Int × Int) ((fun α β self => self.2) Int (Bool × Int × Int × Int) (unpN P emin emax W E ex x))) == hiI S && (fun α β self => self.1) Int Int ((fun α β self => self.2) Int (Int × Int) ((fun α β self => self.2) Bool (Int × Int × Int) ((fun α β self => self.2) Int (Bool × Int × Int × Int) (unpN P emin emax W E ex x)))) == loI S && (fun α β self => self.2) Int Int ((fun α β self => self.2) Int (Int × Int) ((fun α β self => self.2) Bool (Int × Int × Int) ((fun α β self => self.2) Int (Bool × Int × Int × Int) (unpN P emin emax W E ex x)))) == q)))) (fun q1 => ?_) (fun q1 => ?_)
   ·refine xq [(1, [1])] [(5, .bool false)] [] ?_
    refine SW_ret ?_
    refine xe () (.tuple #[.agg #[.int .u64 0, .int .u64 0], .bool false]) [1] ?_ trivial
    rw [if_neg]
    ·rfl
    ·intro hu
     rw [hu] at q1
     simp at q1
   ·refine SW_skip ?_
    refine xq [(0, [3]), (1, [1])] [(5, .bool true)] [(1, [.int .u64 (hiI x), .int .u64 (loI x)])] ?_
    refine SW_ret ?_
    refine xe () (.tuple #[.agg #[.int .u64 (hiI x), .int .u64 (loI x)], .bool true]) [1] ?_ trivial
    rw [if_pos]
    have hq : (!eqb (unpN P emin emax W E ex x) (c, neg, hiI S, loI S, q)) = false := q1
    exact (eqb_iff _ _).1 (by simpa using hq)
end Go.Proofs.YtdbnmdchecacdaaDoor.M
end
section
namespace Go.Proofs.YtdbnmdchecacdaaDoor.M
open Go.RowKit Go.Proofs.YtdbnmdchecacdaaDoor.G Go.Proofs.YtdbnmdchecacdaaDoorV.PrintWords Go.Proofs.YtdbnmdchecacdaaDoorV.PrintLast Go.Proofs.YtdbnmdchecacdaaDoor.X
set_option linter.unusedVariables false
set_option linter.unusedSimpArgs false
structure Zn (a q : Int) : Prop where
 out : a = q
 lo : -9223372036854775808 ≤ q
 hi : q ≤ 9223372036854775807
theorem Zn.wrap {x q : Int} (h : x = q) (hq : -9223372036854775808 ≤ q ∧ q ≤ 9223372036854775807) : Zn (IntKind.i64.wrap x) q := ⟨by rw [wsi (by omega)]; exact h, hq.1, hq.2⟩
theorem ct_spec_Pack' {P : Nat} {emin emax : Int} {W E : Nat} {ex : Bool} (h : Fmt2 P emin emax W E ex) (f : Int) (hf : spec_Describe.f f = some ((P : Int), emin, emax, (W : Int), (E : Int), ex)) (c : Int) (neg : Bool) (hi lo : Int) (S : Nat) (hw : Wd hi lo S) (hS : S < B128) (a q : Int) (hq : Zn a q) :
  CtV Tryd.prog 21 [.int .i64 f, .agg #[.int .i64 c, .bool neg, .int .u64 hi, .int .u64 lo, .int .i64 a]] [] (.tuple #[.agg #[.int .u64 (hiI (packR P emin emax W E ex c neg S q).1), .int .u64 (loI (packR P emin emax W E ex c neg S q).1)], .bool (packR P emin emax W E ex c neg S q).2]) := by
 obtain ⟨rfl, rfl⟩ := hw
 obtain ⟨rfl, h1, h2⟩ := hq
 exact ct_spec_Pack h f hf c neg S hS _ ⟨h1, h2⟩
end Go.Proofs.YtdbnmdchecacdaaDoor.M
end
section
namespace Go.Proofs.YtdbnmdchecacdaaDoor.M
open Go.RowKit Go.Proofs.YtdbnmdchecacdaaDoor.G Go.Proofs.YtdbnmdchecacdaaDoorV.PrintWords Go.Proofs.YtdbnmdchecacdaaDoorV.PrintLast Go.Proofs.YtdbnmdchecacdaaDoor.X
set_option linter.unusedVariables false
set_option linter.unusedSimpArgs false
theorem ct_impl_Unpack {P : Nat} {emin emax : Int} {W E : Nat} {ex : Bool} (h : Fmt P emin emax W E ex) (f : Int) (hf : impl_layoutOf.f f = some ((P : Int), emin, emax, (W : Int), (E : Int), ex, true)) (x : Nat) (hx : x < B128) : CtV Tryd.prog 17 [.int .i64 f, .agg #[.int .u64 (hiI x), .int .u64 (loI x)]] [Tabled] (prtV (unpN P emin emax W E ex x)) := by
 refine ct_of Tryd.func17 rfl (by kernel_rfl) (fun B w0 => ?_)
 have p0 := h.p0
 have p1 := h.p1
 have w1 := h.w1
 have w2 := h.w2
 have e1 := h.e1
 have fN : fracN P ex ≤ P := by unfold fracN; split <;> omega
 have nW : Nn (IntKind.i64.wrap ((W : Int) - 1)) (W - 1) := Nn.wrap (by omega) (by omega)
 have nP : Nn (IntKind.i64.wrap ((P : Int) - 1)) (P - 1) := Nn.wrap (by omega) (by omega)
 have bd : ∀ i, x / i < B128 := fun i => Nat.lt_of_le_of_lt (Nat.div_le_self _ _) hx
 have bm : ∀ i, x % i < B128 := fun i => Nat.lt_of_le_of_lt (Nat.mod_le _ _) hx
 have hq : (!(hiI (x / 2 ^ W) == 0 && (loI (x / 2 ^ W) == 0))) = decide (2 ^ W ≤ x) := by
  rw [word_eq0, Bool.eq_iff_iff, Bool.not_eq_true', decide_eq_false_iff_not, decide_eq_true_iff]
  have := Nat.pow_pos (n := W) (show 0 < 2 by decide)
  exact ⟨fun hn => Nat.le_of_not_lt (fun z => hn (Nat.div_eq_of_lt z)), fun hn z => by have := Nat.div_pos hn this; omega⟩
 refine xg ?_
 refine xb 3 [.int .u64 (hiI x), .int .u64 (loI x)] 25 (fun g0 => ?_)
 refine xb 4 [.int .i64 0, .bool false, .int .u64 0, .int .u64 0, .int .i64 0] 27 (fun g1 => ?_)
 refine xz [] [] ?_
 refine xg ?_
 refine xn 1 [] [(14, .int .i64 f)] ?_
 refine xcv 15 (ct_impl_layoutOf (f) hf) (zsS zi0 zs0) ?_
 refine xn 5 [] [(17, .bool true), (16, .agg #[.int .i64 (P : Int), .int .i64 emin, .int .i64 emax, .int .i64 (W : Int), .int .i64 (E : Int), .bool ex])] ?_
 refine xb 5 [.int .i64 0, .int .i64 0, .int .i64 0, .int .i64 0, .int .i64 0, .bool false] 91 (fun g2 => ?_)
 refine xy [(6, [2])] [(6, .bool true)] [(2, [.int .i64 (P : Int), .int .i64 emin, .int .i64 emax, .int .i64 (W : Int), .int .i64 (E : Int), .bool ex])] ?_
 refine SW_cut (fun s' => x < 2 ^ W ∧ Weak s' ⟨[(0, .int .i64 f), (3, .pointer (some ⟨g0, 0, none⟩)), (4, .pointer (some ⟨g1, 0, none⟩)), (5, .pointer (some ⟨g2, 0, none⟩))], [⟨g0, [.int .u64 (hiI x), .int .u64 (loI x)], 25⟩, ⟨g1, [.int .i64 0, .bool false, .int .u64 0, .int .u64 0, .int .i64 0], 27⟩, ⟨g2, [.int .i64 P, .int .i64 emin, .int .i64 emax, .int .i64 W, .int .i64 E, .bool ex], 91⟩], [Tabled]⟩) ?_ ?_
 ·by_cases hW : W < 128
  ·have z1 : decide ((W : Int) < 128) = true := decide_eq_true (by omega)
   by_cases hx2 : 2 ^ W ≤ x
   ·have z2 := hq.trans (decide_eq_true hx2)
    refine xg ?_
    refine xn 8 [(5, [2])] [(25, .bool (decide ((W : Int) < 128))), (20, .bool false)] ?_
    refine xkt 25 z1 ?_
    refine xn 12 [(8, [0]), (11, [2])] [(29, .int .i64 (W : Int)), (26, .agg #[.int .u64 (hiI x), .int .u64 (loI x)])] ?_
    refine xcv 30 (ct_impl_Word_right (x) ((W : Int)) (W) ⟨rfl⟩ (by omega) hx) zs0 ?_
    refine xn 14 [] [(31, .agg #[.int .u64 0, .int .u64 0])] ?_
    refine xv 32 (.bool (!((hiI (x / 2 ^ W) == 0) && (loI (x / 2 ^ W) == 0)))) (fun w _ _ => run_neq rfl (by kernel_rfl) (by kernel_rfl) (by kernel_rfl) w (eq_word _ _ _ _ _ w)) ?_
    refine xz [] [(34, .bool !(hiI (x / 2 ^ W) == 0 && loI (x / 2 ^ W) == 0))] ?_
    refine xst z2 ?_
    refine xq [(1, [1])] [] [] ?_
    refine SW_ret ?_
    refine xe () (.agg #[.int .i64 0, .bool false, .int .u64 0, .int .u64 0, .int .i64 0]) [1] ?_ trivial
    rw [unpN, if_pos hx2]
    rfl
   ·have z2 := hq.trans (decide_eq_false hx2)
    refine xg ?_
    refine xn 8 [(5, [2])] [(25, .bool (decide ((W : Int) < 128))), (20, .bool false)] ?_
    refine xkt 25 z1 ?_
    refine xn 12 [(8, [0]), (11, [2])] [(29, .int .i64 (W : Int)), (26, .agg #[.int .u64 (hiI x), .int .u64 (loI x)])] ?_
    refine xcv 30 (ct_impl_Word_right (x) ((W : Int)) (W) ⟨rfl⟩ (by omega) hx) zs0 ?_
    refine xn 14 [] [(31, .agg #[.int .u64 0, .int .u64 0])] ?_
    refine xv 32 (.bool (!((hiI (x / 2 ^ W) == 0) && (loI (x / 2 ^ W) == 0)))) (fun w _ _ => run_neq rfl (by kernel_rfl) (by kernel_rfl) (by kernel_rfl) w (eq_word _ _ _ _ _ w)) ?_
    refine xz [] [(34, .bool !(hiI (x / 2 ^ W) == 0 && loI (x / 2 ^ W) == 0))] ?_
    refine xsf z2 ?_
    refine SW_skip ?_
    refine ⟨?_, xw (zsS zi0 zs0)⟩
    omega
  ·have z1 : decide ((W : Int) < 128) = false := decide_eq_false (by omega)
   have hx2 : x < 2 ^ W := by rw [show W = 128 by omega]; exact hx
   refine xg ?_
   refine xn 8 [(5, [2])] [(25, .bool (decide ((W : Int) < 128))), (20, .bool false)] ?_
   refine xkf 25 z1 ?_
   refine xz [(8, [0])] [(34, .bool false)] ?_
   refine xs0 ?_
   refine SW_skip ?_
   refine ⟨?_, xw (zsS zi0 zs0)⟩
   exact hx2
 ·rintro s' ⟨hxW, hw⟩
  refine SW_weak hw ?_
  clear hw
  have sR : x / 2 ^ fracN P ex % 2 ^ E < 2 ^ 64 := Nat.lt_of_lt_of_le (Nat.mod_lt _ (Nat.pow_pos (by decide))) (Nat.pow_le_pow_right (by decide) (by omega))
  obtain ⟨e, he⟩ : ∃ e, e = x / 2 ^ fracN P ex % 2 ^ E := ⟨_, rfl⟩
  have hel : e < 2 ^ E := by rw [he]; exact Nat.mod_lt _ (Nat.pow_pos (by decide))
  have he9 : IntKind.i64.wrap (loI e) = (e : Int) := by
   have h4 : 2 ^ E ≤ 2 ^ 15 := Nat.pow_le_pow_right (by decide) e1
   have h5 : e < 32768 := Nat.lt_of_lt_of_le hel h4
   unfold loI
   rw [Nat.mod_eq_of_lt (by omega)]
   exact wsi (by omega)
  have be : e < B128 := by rw [he]; exact Nat.lt_of_le_of_lt (Nat.mod_le _ _) (bd _)
  have hng : (!(hiI (x / 2 ^ (W - 1)) == 0 && (loI (x / 2 ^ (W - 1)) == 0))) = decide (x / 2 ^ (W - 1) % 2 = 1) := by
   have h2 : x / 2 ^ (W - 1) < 2 := Nat.div_lt_of_lt_mul (by rw [← Nat.pow_succ, show (W - 1).succ = W by omega]; exact hxW)
   rw [word_eq0, Bool.eq_iff_iff, Bool.not_eq_true', decide_eq_false_iff_not, decide_eq_true_iff]
   exact small2 _ h2
  have lP : ∀ y, y % 2 ^ (P - 1) < 2 ^ (P - 1) := fun y => Nat.mod_lt _ (Nat.pow_pos (by decide))
  rw [show unpN P emin emax W E ex x = if ex = true then (if (2 ^ (P - 1) ≤ x % 2 ^ P ↔ e ≠ 0) then partsOf P emin emax E e (decide (x / 2 ^ (W - 1) % 2 = 1)) (x % 2 ^ P % 2 ^ (P - 1)) else badP) else partsOf P emin emax E e (decide (x / 2 ^ (W - 1) % 2 = 1)) (x % 2 ^ (P - 1)) by
   rw [unpN, if_neg (by omega), he]
   cases ex <;> rfl]
  rw [← hng]
  refine xg ?_
  refine xn 1 [(0, [2])] [(36, .agg #[.int .i64 (P : Int), .int .i64 emin, .int .i64 emax, .int .i64 (W : Int), .int .i64 (E : Int), .bool ex])] ?_
  refine xcv 37 (ct_impl_layout_fracBits h) zs0 ?_
  refine xz [] [(7, .int .i64 (((fracN P ex) : Nat) : Int))] ?_
  refine xg ?_
  refine xn 2 [(0, [0])] [(39, .int .i64 (((fracN P ex) : Nat) : Int)), (38, .agg #[.int .u64 (hiI x), .int .u64 (loI x)])] ?_
  refine xcv 40 (ct_impl_Word_low (x) ((((fracN P ex) : Nat) : Int)) (fracN P ex) ⟨rfl⟩ (by omega) hx) zs0 ?_
  refine xb 8 [.int .u64 0, .int .u64 0] 25 (fun g3 => ?_)
  refine xy [(4, [3])] [] [(3, [.int .u64 (hiI (x % 2 ^ fracN P ex)), .int .u64 (loI (x % 2 ^ fracN P ex))])] ?_
  refine xd (fun hB => ?_)
  refine xdk [(0, [0]), (1, []), (3, []), (4, []), (5, [2])] [(46, .int .i64 (E : Int)), (42, .int .i64 (((fracN P ex) : Nat) : Int)), (41, .agg #[.int .u64 (hiI x), .int .u64 (loI x)])] hB ?_
  refine xdv 2 43 (ct_impl_Word_right (x) ((((fracN P ex) : Nat) : Int)) (fracN P ex) ⟨rfl⟩ (by omega) hx) zs0 ?_
  refine xdv 6 47 (ct_impl_Word_low (x / 2 ^ fracN P ex) ((E : Int)) (E) ⟨rfl⟩ (by omega) (bd _)) zs0 ?_
  refine xdk [(7, []), (8, []), (9, [])] [(9, .int .i64 (IntKind.wrap IntKind.i64 (loI (x / 2 ^ fracN P ex % 2 ^ E))))] hB ?_
  refine xdz ?_
  refine xg ?_
  refine xn 5 [(0, [0]), (3, [2])] [(54, .int .i64 (IntKind.wrap IntKind.i64 ((W : Int) - 1))), (50, .agg #[.int .u64 (hiI x), .int .u64 (loI x)])] ?_
  refine xcv 55 (ct_impl_Word_right (x) (IntKind.wrap IntKind.i64 ((W : Int) - 1)) (W - 1) nW (by omega) hx) zs0 ?_
  refine xn 7 [] [(56, .agg #[.int .u64 0, .int .u64 0])] ?_
  refine xv 57 (.bool (!((hiI (x / 2 ^ (W - 1)) == 0) && (loI (x / 2 ^ (W - 1)) == 0)))) (fun w _ _ => run_neq rfl (by kernel_rfl) (by kernel_rfl) (by kernel_rfl) w (eq_word _ _ _ _ _ w)) ?_
  refine xz [] [(10, .bool !(hiI (x / 2 ^ (W - 1)) == 0 && loI (x / 2 ^ (W - 1)) == 0))] ?_
  refine xg ?_
  refine xn 1 [(0, [3])] [(58, .agg #[.int .u64 (hiI (x % 2 ^ fracN P ex)), .int .u64 (loI (x % 2 ^ fracN P ex))])] ?_
  refine xb 11 [.int .u64 0, .int .u64 0] 25 (fun g4 => ?_)
  refine xy [(2, [4])] [] [(4, [.int .u64 (hiI (x % 2 ^ fracN P ex)), .int .u64 (loI (x % 2 ^ fracN P ex))])] ?_
  rw [← he]
  refine SW_cut (fun s' => ∃ R F, (if ex = true then (if (2 ^ (P - 1) ≤ x % 2 ^ P ↔ e ≠ 0) then partsOf P emin emax E e (!(hiI (x / 2 ^ (W - 1)) == 0 && (loI (x / 2 ^ (W - 1)) == 0))) (x % 2 ^ P % 2 ^ (P - 1)) else badP) else partsOf P emin emax E e (!(hiI (x / 2 ^ (W - 1)) == 0 && (loI (x / 2 ^ (W - 1)) == 0))) (x % 2 ^ (P - 1))) = partsOf P emin emax E e (!(hiI (x / 2 ^ (W - 1)) == 0 && (loI (x / 2 ^ (W - 1)) == 0))) R ∧ R < 2 ^ (P - 1) ∧ F < B128 ∧ (e = 0 → F = R) ∧ (e ≠ 0 → F ||| 2 ^ (P - 1) = R + 2 ^ (P - 1)) ∧ Weak s' ⟨[(4, .pointer (some ⟨g1, 0, none⟩)), (5, .pointer (some ⟨g2, 0, none⟩)), (8, .pointer (some ⟨g3, 0, none⟩)), (9, .int .i64 (IntKind.i64.wrap (loI e))), (10, .bool (!(hiI (x / 2 ^ (W - 1)) == 0 && (loI (x / 2 ^ (W - 1)) == 0)))), (11, .pointer (some ⟨g4, 0, none⟩))], [⟨g0, [.int .u64 (hiI x), .int .u64 (loI x)], 25⟩, ⟨g1, [.int .i64 0, .bool false, .int .u64 0, .int .u64 0, .int .i64 0], 27⟩, ⟨g2, [.int .i64 P, .int .i64 emin, .int .i64 emax, .int .i64 W, .int .i64 E, .bool ex], 91⟩, ⟨g3, [.int .u64 (hiI F), .int .u64 (loI F)], 25⟩, ⟨g4, [.int .u64 (hiI R), .int .u64 (loI R)], 25⟩], [Tabled]⟩) ?_ ?_
  ·cases ex with
   | true =>
    have f2 : fracN P true = P := rfl
    rw [f2] at *
    have hj : (!(hiI (x % 2 ^ P / 2 ^ (P - 1)) == 0 && (loI (x % 2 ^ P / 2 ^ (P - 1)) == 0))) = decide (2 ^ (P - 1) ≤ x % 2 ^ P) := by
     rw [word_eq0, Bool.eq_iff_iff, Bool.not_eq_true', decide_eq_false_iff_not, decide_eq_true_iff]
     have := Nat.pow_pos (n := P - 1) (show 0 < 2 by decide)
     exact ⟨fun hn => Nat.le_of_not_lt (fun z => hn (Nat.div_eq_of_lt z)), fun hn z => by have := Nat.div_pos hn this; omega⟩
    have hz : (!((!(hiI (x % 2 ^ P / 2 ^ (P - 1)) == 0 && (loI (x % 2 ^ P / 2 ^ (P - 1)) == 0))) == (IntKind.i64.wrap (loI e) != 0))) = decide (¬ (2 ^ (P - 1) ≤ x % 2 ^ P ↔ e ≠ 0)) := by
     rw [hj, he9]
     have : ((e : Int) != 0) = decide (e ≠ 0) := by
      rw [Bool.eq_iff_iff, bne_iff_ne, decide_eq_true_iff]
      omega
     rw [this]
     by_cases a : 2 ^ (P - 1) ≤ x % 2 ^ P <;> by_cases b : e = 0 <;> simp [a, b]
    by_cases hg : (2 ^ (P - 1) ≤ x % 2 ^ P ↔ e ≠ 0)
    ·have z1 := hz.trans (decide_eq_false (not_not_intro hg))
     refine xr [(2, [2])] [(61, .bool true)] ?_
     refine xs1 ?_
     refine xg ?_
     refine xn 5 [(0, [3]), (3, [2])] [(66, .int .i64 (IntKind.wrap IntKind.i64 ((P : Int) - 1))), (62, .agg #[.int .u64 (hiI (x % 2 ^ P)), .int .u64 (loI (x % 2 ^ P))])] ?_
     refine xcv 67 (ct_impl_Word_right (x % 2 ^ P) (IntKind.wrap IntKind.i64 ((P : Int) - 1)) (P - 1) nP (by omega) (bm _)) zs0 ?_
     refine xn 7 [] [(68, .agg #[.int .u64 0, .int .u64 0])] ?_
     refine xv 69 (.bool (!((hiI (x % 2 ^ P / 2 ^ (P - 1)) == 0) && (loI (x % 2 ^ P / 2 ^ (P - 1)) == 0)))) (fun w _ _ => run_neq rfl (by kernel_rfl) (by kernel_rfl) (by kernel_rfl) w (eq_word _ _ _ _ _ w)) ?_
     refine xz [] [(12, .bool !(hiI (x % 2 ^ P / 2 ^ (P - 1)) == 0 && loI (x % 2 ^ P / 2 ^ (P - 1)) == 0))] ?_
     refine SW_seq ?_
     refine xr [] [(73, .bool !(!(hiI (x % 2 ^ P / 2 ^ (P - 1)) == 0 && loI (x % 2 ^ P / 2 ^ (P - 1)) == 0)) == (IntKind.wrap IntKind.i64 (loI e) != 0))] ?_
     refine xsf z1 ?_
     refine SW_skip ?_
     refine SW_region ?_
     refine xn 5 [(0, [3]), (3, [2])] [(79, .int .i64 (IntKind.wrap IntKind.i64 ((P : Int) - 1))), (75, .agg #[.int .u64 (hiI (x % 2 ^ P)), .int .u64 (loI (x % 2 ^ P))])] ?_
     refine xcv 80 (ct_impl_Word_low (x % 2 ^ P) (IntKind.wrap IntKind.i64 ((P : Int) - 1)) (P - 1) nP (by omega) (bm _)) zs0 ?_
     refine xy [(6, [4])] [] [(4, [.int .u64 (hiI (x % 2 ^ P % 2 ^ (P - 1))), .int .u64 (loI (x % 2 ^ P % 2 ^ (P - 1)))])] ?_
     refine ⟨(x % 2 ^ P % 2 ^ (P - 1)), (x % 2 ^ P), ?_, ?_, ?_, ?_, ?_, xw (zsS zi0 zs0)⟩
     ·rw [if_pos rfl, if_pos hg]
     ·exact lP _
     ·exact bm _
     ·intro h0
      exact (Nat.mod_eq_of_lt (Nat.lt_of_not_le (fun z => hg.1 z h0))).symm
     ·intro h0
      have hl := hg.2 h0
      have y1 := Nat.mod_lt x (Nat.pow_pos (n := P) (show 0 < 2 by decide))
      have y2 : 2 ^ P = 2 * 2 ^ (P - 1) := by rw [Nat.mul_comm, ← Nat.pow_succ]; congr 1; omega
      have y3 : x % 2 ^ P = x % 2 ^ P % 2 ^ (P - 1) + 2 ^ (P - 1) := by
       rw [Nat.mod_eq_sub_mod hl, Nat.mod_eq_of_lt (show x % 2 ^ P - 2 ^ (P - 1) < 2 ^ (P - 1) by omega)]
       omega
      have y4 := lor_top (lP (x % 2 ^ P))
      rw [← y3] at y4
      rw [← y4, Nat.or_assoc, Nat.or_self, y4, ← y3]
    ·have z1 := hz.trans (decide_eq_true hg)
     refine xr [(2, [2])] [(61, .bool true)] ?_
     refine xs1 ?_
     refine xg ?_
     refine xn 5 [(0, [3]), (3, [2])] [(66, .int .i64 (IntKind.wrap IntKind.i64 ((P : Int) - 1))), (62, .agg #[.int .u64 (hiI (x % 2 ^ P)), .int .u64 (loI (x % 2 ^ P))])] ?_
     refine xcv 67 (ct_impl_Word_right (x % 2 ^ P) (IntKind.wrap IntKind.i64 ((P : Int) - 1)) (P - 1) nP (by omega) (bm _)) zs0 ?_
     refine xn 7 [] [(68, .agg #[.int .u64 0, .int .u64 0])] ?_
     refine xv 69 (.bool (!((hiI (x % 2 ^ P / 2 ^ (P - 1)) == 0) && (loI (x % 2 ^ P / 2 ^ (P - 1)) == 0)))) (fun w _ _ => run_neq rfl (by kernel_rfl) (by kernel_rfl) (by kernel_rfl) w (eq_word _ _ _ _ _ w)) ?_
     refine xz [] [(12, .bool !(hiI (x % 2 ^ P / 2 ^ (P - 1)) == 0 && loI (x % 2 ^ P / 2 ^ (P - 1)) == 0))] ?_
     refine SW_seq ?_
     refine xr [] [(73, .bool !(!(hiI (x % 2 ^ P / 2 ^ (P - 1)) == 0 && loI (x % 2 ^ P / 2 ^ (P - 1)) == 0)) == (IntKind.wrap IntKind.i64 (loI e) != 0))] ?_
     refine xst z1 ?_
     refine xq [(1, [1])] [] [] ?_
     refine SW_ret ?_
     refine xe () (.agg #[.int .i64 0, .bool false, .int .u64 0, .int .u64 0, .int .i64 0]) [1] ?_ trivial
     rw [if_pos rfl, if_neg hg]
     rfl
   | false =>
    have f2 : fracN P false = P - 1 := rfl
    rw [f2] at *
    refine xr [(2, [2])] [(61, .bool false)] ?_
    refine xs0 ?_
    refine SW_skip ?_
    refine ⟨(x % 2 ^ (P - 1)), (x % 2 ^ (P - 1)), ?_, ?_, ?_, ?_, ?_, xw (zsS zi0 zs0)⟩
    ·rfl
    ·exact lP _
    ·exact bm _
    ·intro _; rfl
    ·intro _; exact lor_top (lP _)
  ·rintro s' ⟨R, F, hU, hR, hF, hF0, hF1, hw⟩
   refine SW_weak hw ?_
   rw [hU]
   have z2 := word_eq0 R
   have z4 := word_eq0 F
   have bP : 2 ^ (P - 1) < B128 := Nat.pow_lt_pow_right (a := 2) (n := 128) (by decide) (by omega)
   have hm0 := h.m0
   have hm1 := h.m1
   by_cases c1 : e = 2 ^ E - 1
   ·have z1 : (IntKind.i64.wrap (loI e) == ((2 ^ E - 1 : Nat) : Int)) = true := by rw [he9, c1]; exact beq_self_eq_true _
    by_cases c2 : R = 0
    ·rw [decide_eq_true c2] at z2
     refine SW_seq ?_
     refine SW_block ?_
     refine xg ?_
     refine xn 2 [(1, [2])] [(83, .agg #[.int .i64 (P : Int), .int .i64 emin, .int .i64 emax, .int .i64 (W : Int), .int .i64 (E : Int), .bool ex]), (82, .int .i64 (IntKind.wrap IntKind.i64 (loI e)))] ?_
     refine xcv 84 (ct_impl_layout_top h) zs0 ?_
     refine xn 5 [] [(86, .bool (IntKind.wrap IntKind.i64 (loI e) == (((2 ^ E - 1) : Nat) : Int)))] ?_
     refine xkt 86 z1 ?_
     refine xn 7 [(5, [4])] [(88, .agg #[.int .u64 0, .int .u64 0]), (87, .agg #[.int .u64 (hiI R), .int .u64 (loI R)])] ?_
     refine xv 89 (.bool ((hiI R == 0) && (loI R == 0))) (fun w _ _ => run_eql rfl (by kernel_rfl) (by kernel_rfl) (by kernel_rfl) w (eq_word _ _ _ _ _ w)) ?_
     refine xz [] [(81, .bool (hiI R == 0 && loI R == 0))] ?_
     refine xst z2 ?_
     refine xq [(2, [1])] [] [(1, [.int .i64 4, .bool !(hiI (x / 2 ^ (W - 1)) == 0 && loI (x / 2 ^ (W - 1)) == 0), .int .u64 0, .int .u64 0, .int .i64 0])] ?_
     refine SW_ret ?_
     refine xe () (.agg #[.int .i64 4, .bool !(hiI (x / 2 ^ (W - 1)) == 0 && loI (x / 2 ^ (W - 1)) == 0), .int .u64 0, .int .u64 0, .int .i64 0]) [1] ?_ trivial
     rw [partsOf, if_pos c1, if_pos c2]
     rfl
    ·rw [decide_eq_false c2] at z2
     refine SW_seq ?_
     refine SW_block ?_
     refine xg ?_
     refine xn 2 [(1, [2])] [(83, .agg #[.int .i64 (P : Int), .int .i64 emin, .int .i64 emax, .int .i64 (W : Int), .int .i64 (E : Int), .bool ex]), (82, .int .i64 (IntKind.wrap IntKind.i64 (loI e)))] ?_
     refine xcv 84 (ct_impl_layout_top h) zs0 ?_
     refine xn 5 [] [(86, .bool (IntKind.wrap IntKind.i64 (loI e) == (((2 ^ E - 1) : Nat) : Int)))] ?_
     refine xkt 86 z1 ?_
     refine xn 7 [(5, [4])] [(88, .agg #[.int .u64 0, .int .u64 0]), (87, .agg #[.int .u64 (hiI R), .int .u64 (loI R)])] ?_
     refine xv 89 (.bool ((hiI R == 0) && (loI R == 0))) (fun w _ _ => run_eql rfl (by kernel_rfl) (by kernel_rfl) (by kernel_rfl) w (eq_word _ _ _ _ _ w)) ?_
     refine xz [] [(81, .bool (hiI R == 0 && loI R == 0))] ?_
     refine xsf z2 ?_
     refine xg ?_
     refine xn 2 [(1, [2])] [(95, .agg #[.int .i64 (P : Int), .int .i64 emin, .int .i64 emax, .int .i64 (W : Int), .int .i64 (E : Int), .bool ex]), (94, .int .i64 (IntKind.wrap IntKind.i64 (loI e)))] ?_
     refine xcv 96 (ct_impl_layout_top h) zs0 ?_
     refine xz [] [(93, .bool (IntKind.wrap IntKind.i64 (loI e) == (((2 ^ E - 1) : Nat) : Int)))] ?_
     refine xst z1 ?_
     refine xq [(1, [1])] [] [(1, [.int .i64 5, .bool false, .int .u64 0, .int .u64 0, .int .i64 0])] ?_
     refine SW_ret ?_
     refine xe () (.agg #[.int .i64 5, .bool false, .int .u64 0, .int .u64 0, .int .i64 0]) [1] ?_ trivial
     rw [partsOf, if_pos c1, if_neg c2]
     rfl
   ·have z1 : (IntKind.i64.wrap (loI e) == ((2 ^ E - 1 : Nat) : Int)) = false := by rw [he9, beq_eq_false_iff_ne]; omega
    by_cases c3 : e = 0
    ·have z3 : (IntKind.i64.wrap (loI e) == 0) = true := by rw [he9, c3]; rfl
     have hFR := hF0 c3
     by_cases c2 : R = 0
     ·rw [decide_eq_true (hFR.trans c2)] at z4
      refine SW_seq ?_
      refine SW_block ?_
      refine xg ?_
      refine xn 2 [(1, [2])] [(83, .agg #[.int .i64 (P : Int), .int .i64 emin, .int .i64 emax, .int .i64 (W : Int), .int .i64 (E : Int), .bool ex]), (82, .int .i64 (IntKind.wrap IntKind.i64 (loI e)))] ?_
      refine xcv 84 (ct_impl_layout_top h) zs0 ?_
      refine xn 5 [] [(86, .bool (IntKind.wrap IntKind.i64 (loI e) == (((2 ^ E - 1) : Nat) : Int)))] ?_
      refine xkf 86 z1 ?_
      refine xz [(5, [4])] [(81, .bool false)] ?_
      refine xs0 ?_
      refine xg ?_
      refine xn 2 [(1, [2])] [(95, .agg #[.int .i64 (P : Int), .int .i64 emin, .int .i64 emax, .int .i64 (W : Int), .int .i64 (E : Int), .bool ex]), (94, .int .i64 (IntKind.wrap IntKind.i64 (loI e)))] ?_
      refine xcv 96 (ct_impl_layout_top h) zs0 ?_
      refine xz [] [(93, .bool (IntKind.wrap IntKind.i64 (loI e) == (((2 ^ E - 1) : Nat) : Int)))] ?_
      refine xsf z1 ?_
      refine xg ?_
      refine xn 3 [] [(102, .bool (IntKind.wrap IntKind.i64 (loI e) == 0))] ?_
      refine xkt 102 z3 ?_
      refine xn 5 [(3, [3])] [(104, .agg #[.int .u64 0, .int .u64 0]), (103, .agg #[.int .u64 (hiI F), .int .u64 (loI F)])] ?_
      refine xv 105 (.bool ((hiI F == 0) && (loI F == 0))) (fun w _ _ => run_eql rfl (by kernel_rfl) (by kernel_rfl) (by kernel_rfl) w (eq_word _ _ _ _ _ w)) ?_
      refine xz [] [(99, .bool (hiI F == 0 && loI F == 0))] ?_
      refine xst z4 ?_
      refine xq [(2, [1])] [] [(1, [.int .i64 1, .bool !(hiI (x / 2 ^ (W - 1)) == 0 && loI (x / 2 ^ (W - 1)) == 0), .int .u64 0, .int .u64 0, .int .i64 0])] ?_
      refine SW_ret ?_
      refine xe () (.agg #[.int .i64 1, .bool !(hiI (x / 2 ^ (W - 1)) == 0 && loI (x / 2 ^ (W - 1)) == 0), .int .u64 0, .int .u64 0, .int .i64 0]) [1] ?_ trivial
      rw [partsOf, if_neg c1, if_pos c3, if_pos c2]
      rfl
     ·rw [decide_eq_false (fun z => c2 (hFR.symm.trans z))] at z4
      refine SW_seq ?_
      refine SW_block ?_
      refine xg ?_
      refine xn 2 [(1, [2])] [(83, .agg #[.int .i64 (P : Int), .int .i64 emin, .int .i64 emax, .int .i64 (W : Int), .int .i64 (E : Int), .bool ex]), (82, .int .i64 (IntKind.wrap IntKind.i64 (loI e)))] ?_
      refine xcv 84 (ct_impl_layout_top h) zs0 ?_
      refine xn 5 [] [(86, .bool (IntKind.wrap IntKind.i64 (loI e) == (((2 ^ E - 1) : Nat) : Int)))] ?_
      refine xkf 86 z1 ?_
      refine xz [(5, [4])] [(81, .bool false)] ?_
      refine xs0 ?_
      refine xg ?_
      refine xn 2 [(1, [2])] [(95, .agg #[.int .i64 (P : Int), .int .i64 emin, .int .i64 emax, .int .i64 (W : Int), .int .i64 (E : Int), .bool ex]), (94, .int .i64 (IntKind.wrap IntKind.i64 (loI e)))] ?_
      refine xcv 96 (ct_impl_layout_top h) zs0 ?_
      refine xz [] [(93, .bool (IntKind.wrap IntKind.i64 (loI e) == (((2 ^ E - 1) : Nat) : Int)))] ?_
      refine xsf z1 ?_
      refine xg ?_
      refine xn 3 [] [(102, .bool (IntKind.wrap IntKind.i64 (loI e) == 0))] ?_
      refine xkt 102 z3 ?_
      refine xn 5 [(3, [3])] [(104, .agg #[.int .u64 0, .int .u64 0]), (103, .agg #[.int .u64 (hiI F), .int .u64 (loI F)])] ?_
      refine xv 105 (.bool ((hiI F == 0) && (loI F == 0))) (fun w _ _ => run_eql rfl (by kernel_rfl) (by kernel_rfl) (by kernel_rfl) w (eq_word _ _ _ _ _ w)) ?_
      refine xz [] [(99, .bool (hiI F == 0 && loI F == 0))] ?_
      refine xsf z4 ?_
      refine xr [] [(109, .bool (IntKind.wrap IntKind.i64 (loI e) == 0))] ?_
      refine xst z3 ?_
      refine xd (fun hB => ?_)
      refine xdk [(0, []), (1, [3]), (2, [2])] [(114, .agg #[.int .i64 (P : Int), .int .i64 emin, .int .i64 emax, .int .i64 (W : Int), .int .i64 (E : Int), .bool ex]), (113, .agg #[.int .u64 (hiI F), .int .u64 (loI F)]), (112, .bool !(hiI (x / 2 ^ (W - 1)) == 0 && loI (x / 2 ^ (W - 1)) == 0))] hB ?_
      refine xdv 3 115 (ct_impl_layout_qMin h) zs0 ?_
      refine xdk [(4, [])] [(116, .agg #[.int .i64 2, .bool !(hiI (x / 2 ^ (W - 1)) == 0 && loI (x / 2 ^ (W - 1)) == 0), .int .u64 (hiI F), .int .u64 (loI F), .int .i64 (emin - (P : Int) + 1)])] hB ?_
      refine xds 5 [1] [(1, [.int .i64 2, .bool !(hiI (x / 2 ^ (W - 1)) == 0 && loI (x / 2 ^ (W - 1)) == 0), .int .u64 (hiI F), .int .u64 (loI F), .int .i64 (emin - (P : Int) + 1)])] ?_
      refine xdz ?_
      refine SW_ret ?_
      refine xe () (.agg #[.int .i64 2, .bool !(hiI (x / 2 ^ (W - 1)) == 0 && loI (x / 2 ^ (W - 1)) == 0), .int .u64 (hiI F), .int .u64 (loI F), .int .i64 (emin - (P : Int) + 1)]) [1] ?_ trivial
      rw [partsOf, if_neg c1, if_pos c3, if_neg c2, hFR]
      kernel_rfl
    ·have z3 : (IntKind.i64.wrap (loI e) == 0) = false := by rw [he9, beq_eq_false_iff_ne]; omega
     refine SW_seq ?_
     refine SW_block ?_
     refine xg ?_
     refine xn 2 [(1, [2])] [(83, .agg #[.int .i64 (P : Int), .int .i64 emin, .int .i64 emax, .int .i64 (W : Int), .int .i64 (E : Int), .bool ex]), (82, .int .i64 (IntKind.wrap IntKind.i64 (loI e)))] ?_
     refine xcv 84 (ct_impl_layout_top h) zs0 ?_
     refine xn 5 [] [(86, .bool (IntKind.wrap IntKind.i64 (loI e) == (((2 ^ E - 1) : Nat) : Int)))] ?_
     refine xkf 86 z1 ?_
     refine xz [(5, [4])] [(81, .bool false)] ?_
     refine xs0 ?_
     refine xg ?_
     refine xn 2 [(1, [2])] [(95, .agg #[.int .i64 (P : Int), .int .i64 emin, .int .i64 emax, .int .i64 (W : Int), .int .i64 (E : Int), .bool ex]), (94, .int .i64 (IntKind.wrap IntKind.i64 (loI e)))] ?_
     refine xcv 96 (ct_impl_layout_top h) zs0 ?_
     refine xz [] [(93, .bool (IntKind.wrap IntKind.i64 (loI e) == (((2 ^ E - 1) : Nat) : Int)))] ?_
     refine xsf z1 ?_
     refine xg ?_
     refine xn 3 [] [(102, .bool (IntKind.wrap IntKind.i64 (loI e) == 0))] ?_
     refine xkf 102 z3 ?_
     refine xz [(3, [3])] [(99, .bool false)] ?_
     refine xs0 ?_
     refine xr [] [(109, .bool (IntKind.wrap IntKind.i64 (loI e) == 0))] ?_
     refine xsf z3 ?_
     refine SW_skip ?_
     refine xd (fun hB => ?_)
     refine xdk [(0, []), (1, [3]), (2, []), (3, []), (4, [2]), (5, []), (8, []), (9, []), (10, []), (11, [2]), (12, []), (13, []), (14, []), (15, [2]), (16, []), (17, [])] [(134, .int .i64 (IntKind.wrap IntKind.i64 (IntKind.wrap IntKind.i64 (IntKind.wrap IntKind.i64 (IntKind.wrap IntKind.i64 (loI e) - emax) - (P : Int)) + 1))), (122, .int .i64 (IntKind.wrap IntKind.i64 ((P : Int) - 1))), (118, .agg #[.int .u64 (hiI F), .int .u64 (loI F)]), (117, .bool !(hiI (x / 2 ^ (W - 1)) == 0 && loI (x / 2 ^ (W - 1)) == 0))] hB ?_
     refine xdv 6 123 (ct_impl_one (IntKind.wrap IntKind.i64 ((P : Int) - 1)) (P - 1) nP (by omega)) zs0 ?_
     refine xdv 7 124 (ct_impl_Word_or (hiI F) (loI F) (hiI (2 ^ (P - 1))) (loI (2 ^ (P - 1))) (F) (2 ^ (P - 1)) ⟨rfl, rfl⟩ ⟨rfl, rfl⟩ hF bP) zs0 ?_
     refine xdk [(18, [])] [(135, .agg #[.int .i64 3, .bool !(hiI (x / 2 ^ (W - 1)) == 0 && loI (x / 2 ^ (W - 1)) == 0), .int .u64 (hiI (F ||| 2 ^ (P - 1))), .int .u64 (loI (F ||| 2 ^ (P - 1))), .int .i64 (IntKind.wrap IntKind.i64 (IntKind.wrap IntKind.i64 (IntKind.wrap IntKind.i64 (IntKind.wrap IntKind.i64 (loI e) - emax) - (P : Int)) + 1))])] hB ?_
     refine xds 19 [1] [(1, [.int .i64 3, .bool !(hiI (x / 2 ^ (W - 1)) == 0 && loI (x / 2 ^ (W - 1)) == 0), .int .u64 (hiI (F ||| 2 ^ (P - 1))), .int .u64 (loI (F ||| 2 ^ (P - 1))), .int .i64 (IntKind.wrap IntKind.i64 (IntKind.wrap IntKind.i64 (IntKind.wrap IntKind.i64 (IntKind.wrap IntKind.i64 (loI e) - emax) - (P : Int)) + 1))])] ?_
     refine xdz ?_
     refine SW_ret ?_
     refine xe () (.agg #[.int .i64 3, .bool !(hiI (x / 2 ^ (W - 1)) == 0 && loI (x / 2 ^ (W - 1)) == 0), .int .u64 (hiI (F ||| 2 ^ (P - 1))), .int .u64 (loI (F ||| 2 ^ (P - 1))), .int .i64 (IntKind.wrap IntKind.i64 (IntKind.wrap IntKind.i64 (IntKind.wrap IntKind.i64 (IntKind.wrap IntKind.i64 (loI e) - emax) - (P : Int)) + 1))]) [1] ?_ trivial
     have hF15 : e < 32768 := Nat.lt_of_lt_of_le hel (show 2 ^ E ≤ 2 ^ 15 from Nat.pow_le_pow_right (by decide) e1)
     rw [partsOf, if_neg c1, if_neg c3, hF1 c3, he9, wsi (x := (e : Int) - _) (by omega), wsi (x := (e : Int) - _ - _) (by omega), wsi (by omega)]
     rfl
end Go.Proofs.YtdbnmdchecacdaaDoor.M
end
section
namespace Go.Proofs.YtdbnmdchecacdaaDoor.M
open Go.RowKit Go.Proofs.YtdbnmdchecacdaaDoor.G Go.Proofs.YtdbnmdchecacdaaDoorV.PrintWords Go.Proofs.YtdbnmdchecacdaaDoorV.PrintLast Go.Proofs.YtdbnmdchecacdaaDoor.X
set_option linter.unusedVariables false
set_option linter.unusedSimpArgs false
theorem ct_impl_Pack {P : Nat} {emin emax : Int} {W E : Nat} {ex : Bool} (h : Fmt2 P emin emax W E ex) (f : Int) (hf : impl_layoutOf.f f = some ((P : Int), emin, emax, (W : Int), (E : Int), ex, true)) (c : Int) (neg : Bool) (S : Nat) (hS : S < B128) (q : Int) (hq : -9223372036854775808 ≤ q ∧ q ≤ 9223372036854775807) :
  CtV Tryd.prog 23 [.int .i64 f, .agg #[.int .i64 c, .bool neg, .int .u64 (hiI S), .int .u64 (loI S), .int .i64 q]] [Tabled] (.tuple #[.agg #[.int .u64 (hiI (packR P emin emax W E ex c neg S q).1), .int .u64 (loI (packR P emin emax W E ex c neg S q).1)], .bool (packR P emin emax W E ex c neg S q).2]) := by
 have h1 := h.toFmt
 refine ct_of Tryd.func23 rfl (by kernel_rfl) (fun B w0 => ?_)
 have p3 := h.p3
 have p1 := h.p1
 have w1 := h1.w1
 have w2 := h1.w2
 have m1 := h.m1
 have tp := h.top
 have hF : fracN P ex ≤ P := by unfold fracN; split <;> omega
 have e0 : 0 < 2 ^ E := Nat.pow_pos (by decide)
 have hE15 : 2 ^ E ≤ 2 ^ 15 := Nat.pow_le_pow_right (by decide) h1.e1
 have nP1 : Nn (IntKind.i64.wrap ((P : Int) - 1)) (P - 1) := Nn.wrap (by omega) (by omega)
 have nP2 : Nn (IntKind.i64.wrap ((P : Int) - 2)) (P - 2) := Nn.wrap (by omega) (by omega)
 have nW1 : Nn (IntKind.i64.wrap ((W : Int) - 1)) (W - 1) := Nn.wrap (by omega) (by omega)
 have hp2 : ∀ i, i < 128 → 2 ^ i < B128 := fun i hi => Nat.pow_lt_pow_right (a := 2) (n := 128) (by decide) hi
 have b1 : 2 ^ (P - 1) < B128 := hp2 _ (by omega)
 have b2 : 2 ^ (P - 2) < B128 := hp2 _ (by omega)
 have b3 : 2 ^ (W - 1) < B128 := hp2 _ (by omega)
 have hlor : ∀ x y, x < B128 → y < B128 → x ||| y < B128 := fun x y hx hy => Nat.or_lt_two_pow (n := 128) hx hy
 have hsh : ∀ e, e < 2 ^ E → e * 2 ^ fracN P ex < B128 := by
  intro e he
  have e1 : 2 ^ (fracN P ex + E) = 2 ^ E * 2 ^ fracN P ex := by rw [← Nat.pow_add, Nat.add_comm]
  have e2 : e * 2 ^ fracN P ex < 2 ^ E * 2 ^ fracN P ex := Nat.mul_lt_mul_of_pos_right he (Nat.pow_pos (by decide))
  rw [← e1] at e2
  exact Nat.lt_trans e2 (hp2 _ (by omega))
 have hmod : ∀ e, e < 2 ^ E → e * 2 ^ fracN P ex % B128 = e * 2 ^ fracN P ex := fun e he => Nat.mod_eq_of_lt (hsh e he)
 have btop : (2 ^ E - 1) * 2 ^ fracN P ex < B128 := hsh _ (by omega)
 have wE := wrapE q emax P hq (by omega) m1.2 p1 (by omega)
 have wT : Wd 0 (IntKind.u64.wrap ((2 ^ E - 1 : Nat) : Int)) (2 ^ E - 1) := ⟨by unfold hiI; omega, by unfold loI; rw [wrap_u64_id (by omega)]; omega⟩
 have eT : 2 ^ E - 1 < B128 := Nat.lt_of_le_of_lt (by omega) (hp2 15 (by decide))
 refine xg ?_
 refine xb 3 [.int .i64 c, .bool neg, .int .u64 (hiI S), .int .u64 (loI S), .int .i64 q] 27 (fun g0 => ?_)
 refine xb 4 [.int .u64 0, .int .u64 0] 25 (fun g1 => ?_)
 refine xz [] [(5, .bool false)] ?_
 refine xg ?_
 refine xn 1 [] [(12, .int .i64 f)] ?_
 refine xcv 13 (ct_impl_layoutOf (f) hf) (zsS zi0 zs0) ?_
 refine xn 5 [] [(15, .bool true), (14, .agg #[.int .i64 (P : Int), .int .i64 emin, .int .i64 emax, .int .i64 (W : Int), .int .i64 (E : Int), .bool ex])] ?_
 refine xb 6 [.int .i64 0, .int .i64 0, .int .i64 0, .int .i64 0, .int .i64 0, .bool false] 91 (fun g2 => ?_)
 refine xy [(6, [2])] [(7, .bool true)] [(2, [.int .i64 (P : Int), .int .i64 emin, .int .i64 emax, .int .i64 (W : Int), .int .i64 (E : Int), .bool ex])] ?_
 refine SW_seq ?_
 refine xr [] [(17, .bool false)] ?_
 refine xs0 ?_
 refine SW_skip ?_
 refine xg ?_
 refine xn 1 [(0, [2])] [(19, .agg #[.int .i64 (P : Int), .int .i64 emin, .int .i64 emax, .int .i64 (W : Int), .int .i64 (E : Int), .bool ex])] ?_
 refine xcv 20 (ct_impl_layout_fracBits h1) zs0 ?_
 refine xz [] [(8, .int .i64 (((fracN P ex) : Nat) : Int))] ?_
 refine xg ?_
 refine xn 1 [] [(21, .agg #[.int .u64 0, .int .u64 0])] ?_
 refine xb 9 [.int .u64 0, .int .u64 0] 25 (fun g3 => ?_)
 refine xy [(2, [3])] [] [] ?_
 refine SW_cut (fun s' => ∃ x, x < B128 ∧ packU P emax E ex c S q = some x ∧ Weak s' ⟨[(0, .int .i64 f), (3, .pointer (some ⟨g0, 0, none⟩)), (4, .pointer (some ⟨g1, 0, none⟩)), (6, .pointer (some ⟨g2, 0, none⟩)), (9, .pointer (some ⟨g3, 0, none⟩))], [⟨g0, [.int .i64 c, .bool neg, .int .u64 (hiI S), .int .u64 (loI S), .int .i64 q], 27⟩, ⟨g1, [.int .u64 0, .int .u64 0], 25⟩, ⟨g2, [.int .i64 (P : Int), .int .i64 emin, .int .i64 emax, .int .i64 (W : Int), .int .i64 (E : Int), .bool ex], 91⟩, ⟨g3, [.int .u64 (hiI x), .int .u64 (loI x)], 25⟩], [Tabled]⟩) ?_ ?_
 ·have ltop : ∀ x, x < B128 → (if ex = true then ((2 ^ E - 1) * 2 ^ fracN P ex ||| 2 ^ (P - 1)) else (2 ^ E - 1) * 2 ^ fracN P ex) ||| x < B128 ∧ (if ex = true then ((2 ^ E - 1) * 2 ^ fracN P ex ||| 2 ^ (P - 1)) else (2 ^ E - 1) * 2 ^ fracN P ex) < B128 := by
   intro x hx
   have : (if ex = true then ((2 ^ E - 1) * 2 ^ fracN P ex ||| 2 ^ (P - 1)) else (2 ^ E - 1) * 2 ^ fracN P ex) < B128 := by
    split
    ·exact hlor _ _ btop b1
    ·exact btop
   exact ⟨hlor _ _ this hx, this⟩
  have mT : (2 ^ E - 1) * 2 ^ fracN P ex % B128 = (2 ^ E - 1) * 2 ^ fracN P ex := hmod _ (by omega)
  have bT : (2 ^ E - 1) * 2 ^ fracN P ex % B128 < B128 := Nat.mod_lt _ (by decide)
  have bT2 : (2 ^ E - 1) * 2 ^ fracN P ex % B128 ||| 2 ^ (P - 1) < B128 := hlor _ _ bT b1
  refine xr [(1, [0])] [(23, .int .i64 c)] ?_
  refine SW_block ?_
  refine xr [] [(24, .bool (c == 1))] ?_
  refine xs (c == 1) (fun q0 => ?_) (fun q0 => ?_)
  ·refine SW_skip ?_
   have hc : c = 1 := by simpa using q0
   exact ⟨0, by decide, by unfold packU; rw [if_pos hc], Weak.mk' (by kernel_rfl) rfl (zsS zi0 zs0)⟩
  have hc1 : c ≠ 1 := by simpa using q0
  refine xr [] [(26, .bool (c == 2))] ?_
  refine xs (c == 2) (fun q1 => ?_) (fun q1 => ?_)
  ·refine xql [(1, [0]), (2, [3])] [] [(3, [.int .u64 (hiI S), .int .u64 (loI S)])] ?_
   have hc : c = 2 := by simpa using q1
   exact ⟨S, hS, by unfold packU; rw [if_neg hc1, if_pos hc], Weak.mk' (by kernel_rfl) rfl (zsS zi0 zs0)⟩
  have hc2 : c ≠ 2 := by simpa using q1
  refine xr [] [(30, .bool (c == 3))] ?_
  refine xs (c == 3) (fun q2 => ?_) (fun q2 => ?_)
  ·have hc : c = 3 := by simpa using q2
   have hpk : packU P emax E ex c S q = if 1 ≤ q + emax + P - 1 ∧ q + emax + P - 1 < ((2 ^ E - 1 : Nat) : Int) then some (S % 2 ^ fracN P ex ||| (q + emax + P - 1).toNat * 2 ^ fracN P ex) else none := by unfold packU; rw [if_neg hc1, if_neg hc2, if_pos hc]
   have nope : ¬ (1 ≤ q + emax + P - 1 ∧ q + emax + P - 1 < ((2 ^ E - 1 : Nat) : Int)) → packR P emin emax W E ex c neg S q = (0, false) := fun hn => packU_none h (by rw [hpk, if_neg hn])
   have nope2 : ∀ x : Int, x = IntKind.i64.wrap (IntKind.i64.wrap (IntKind.i64.wrap (q + emax) + (P : Int)) - 1) → ¬ (1 ≤ x ∧ x < ((2 ^ E - 1 : Nat) : Int)) → packR P emin emax W E ex c neg S q = (0, false) := by
    intro x hx hn
    refine nope (fun z => ?_)
    rw [← hx] at wE
    omega
   refine xr [(1, [0]), (4, [2]), (8, [2])] [(10, .int .i64 (IntKind.wrap IntKind.i64 (IntKind.wrap IntKind.i64 (IntKind.wrap IntKind.i64 (q + emax) + (P : Int)) - 1)))] ?_
   refine SW_seq ?_
   refine xg ?_
   refine xn 4 [(1, [0])] [(46, .bool (decide (q < -1048576)))] ?_
   refine xk 46 (decide (q < -1048576)) (fun q3 => ?_) (fun q3 => ?_)
   ·refine xz [(14, [2])] [(60, .bool true)] ?_
    refine xs1 ?_
    refine xq [(1, [1])] [(5, .bool false)] [] ?_
    refine SW_ret ?_
    refine xe () (.tuple #[.agg #[.int .u64 0, .int .u64 0], .bool false]) [1] ?_ trivial
    have := of_decide_eq_true q3
    rw [nope (by omega)]
    rfl
   ·refine xn 9 [(5, [0])] [(51, .bool (decide (q > 1048576)))] ?_
    refine xk 51 (decide (q > 1048576)) (fun q4 => ?_) (fun q4 => ?_)
    ·refine xz [(14, [2])] [(60, .bool true)] ?_
     refine xs1 ?_
     refine xq [(1, [1])] [(5, .bool false)] [] ?_
     refine SW_ret ?_
     refine xe () (.tuple #[.agg #[.int .u64 0, .int .u64 0], .bool false]) [1] ?_ trivial
     have := of_decide_eq_true q4
     rw [nope (by omega)]
     rfl
    ·refine xn 13 [] [(55, .bool (decide (IntKind.wrap IntKind.i64 (IntKind.wrap IntKind.i64 (IntKind.wrap IntKind.i64 (q + emax) + (P : Int)) - 1) < 1)))] ?_
     refine xk 55 (decide (IntKind.wrap IntKind.i64 (IntKind.wrap IntKind.i64 (IntKind.wrap IntKind.i64 (q + emax) + (P : Int)) - 1) < 1)) (fun q5 => ?_) (fun q5 => ?_)
     ·refine xz [(14, [2])] [(60, .bool true)] ?_
      refine xs1 ?_
      refine xq [(1, [1])] [(5, .bool false)] [] ?_
      refine SW_ret ?_
      refine xe () (.tuple #[.agg #[.int .u64 0, .int .u64 0], .bool false]) [1] ?_ trivial
      rw [nope2 _ rfl (fun z => by have := of_decide_eq_true q5; omega)]
      rfl
     ·refine xn 15 [(14, [2])] [(57, .agg #[.int .i64 (P : Int), .int .i64 emin, .int .i64 emax, .int .i64 (W : Int), .int .i64 (E : Int), .bool ex]), (56, .int .i64 (IntKind.wrap IntKind.i64 (IntKind.wrap IntKind.i64 (IntKind.wrap IntKind.i64 (q + emax) + (P : Int)) - 1)))] ?_
      refine xcv 58 (ct_impl_layout_top h1) zs0 ?_
      refine xz [] [(60, .bool (decide (IntKind.wrap IntKind.i64 (IntKind.wrap IntKind.i64 (IntKind.wrap IntKind.i64 (q + emax) + (P : Int)) - 1) ≥ (((2 ^ E - 1) : Nat) : Int))))] ?_
      refine xs (decide (IntKind.wrap IntKind.i64 (IntKind.wrap IntKind.i64 (IntKind.wrap IntKind.i64 (q + emax) + (P : Int)) - 1) ≥ (((2 ^ E - 1) : Nat) : Int))) (fun q6 => ?_) (fun q6 => ?_)
      ·refine xq [(1, [1])] [(5, .bool false)] [] ?_
       refine SW_ret ?_
       refine xe () (.tuple #[.agg #[.int .u64 0, .int .u64 0], .bool false]) [1] ?_ trivial
       rw [nope2 _ rfl (fun z => by have := of_decide_eq_true q6; omega)]
       rfl
      ·have a1 := of_decide_eq_false q5
       have a2 := of_decide_eq_false q6
       have wE2 : IntKind.i64.wrap (IntKind.i64.wrap (IntKind.i64.wrap (q + emax) + (P : Int)) - 1) = q + emax + P - 1 := by
        rcases wE with e | e
        ·exact e
        ·exact absurd e.1 a1
       rw [wE2] at a1 a2
       have e3 : (q + emax + P - 1).toNat < 2 ^ E := by omega
       have nE : Wd 0 (IntKind.u64.wrap (IntKind.i64.wrap (IntKind.i64.wrap (IntKind.i64.wrap (q + emax) + (P : Int)) - 1))) (q + emax + P - 1).toNat := ⟨by unfold hiI; omega, by rw [wE2, wrap_u64_id (by omega)]; unfold loI; omega⟩
       have e4 : (q + emax + P - 1).toNat < B128 := Nat.lt_trans e3 (Nat.lt_of_le_of_lt hE15 (by decide))
       have mE : (q + emax + P - 1).toNat * 2 ^ fracN P ex % B128 = (q + emax + P - 1).toNat * 2 ^ fracN P ex := hmod _ e3
       have bE : (q + emax + P - 1).toNat * 2 ^ fracN P ex % B128 < B128 := Nat.mod_lt _ (by decide)
       have bS : S % 2 ^ fracN P ex < B128 := Nat.lt_of_le_of_lt (Nat.mod_le _ _) hS
       clear wE2 wE nope nope2
       refine SW_skip ?_
       refine SW_region ?_
       refine xn 3 [(1, [0])] [(64, .int .i64 (((fracN P ex) : Nat) : Int)), (63, .agg #[.int .u64 (hiI S), .int .u64 (loI S)])] ?_
       refine xcv 65 (ct_impl_Word_low (S) ((((fracN P ex) : Nat) : Int)) (fracN P ex) ⟨rfl⟩ (by omega) hS) zs0 ?_
       refine xn 8 [] [(69, .int .i64 (((fracN P ex) : Nat) : Int)), (68, .agg #[.int .u64 0, .int .u64 (IntKind.wrap IntKind.u64 (IntKind.wrap IntKind.i64 (IntKind.wrap IntKind.i64 (IntKind.wrap IntKind.i64 (q + emax) + (P : Int)) - 1)))])] ?_
       refine xcv 70 (ct_impl_Word_left (0) (IntKind.wrap IntKind.u64 (IntKind.wrap IntKind.i64 (IntKind.wrap IntKind.i64 (IntKind.wrap IntKind.i64 (q + emax) + (P : Int)) - 1))) (Int.toNat (q + emax + (P : Int) - 1)) nE ((((fracN P ex) : Nat) : Int)) (fracN P ex) ⟨rfl⟩ (by omega) e4) zs0 ?_
       refine xcv 71 (ct_impl_Word_or (hiI (S % 2 ^ fracN P ex)) (loI (S % 2 ^ fracN P ex)) (hiI (Int.toNat (q + emax + (P : Int) - 1) * 2 ^ fracN P ex % B128)) (loI (Int.toNat (q + emax + (P : Int) - 1) * 2 ^ fracN P ex % B128)) (S % 2 ^ fracN P ex) (Int.toNat (q + emax + (P : Int) - 1) * 2 ^ fracN P ex % B128) ⟨rfl, rfl⟩ ⟨rfl, rfl⟩ bS bE) zs0 ?_
       refine xy [(10, [3])] [] [(3, [.int .u64 (hiI (S % 2 ^ fracN P ex ||| Int.toNat (q + emax + (P : Int) - 1) * 2 ^ fracN P ex % B128)), .int .u64 (loI (S % 2 ^ fracN P ex ||| Int.toNat (q + emax + (P : Int) - 1) * 2 ^ fracN P ex % B128))])] ?_
       refine ⟨_, hlor _ _ bS bE, by rw [hpk, if_pos ⟨by omega, by omega⟩, mE], Weak.mk' (by kernel_rfl) rfl (zsS zi0 zs0)⟩
  have hc3 : c ≠ 3 := by simpa using q2
  refine SW_seq ?_
  refine xr [] [(72, .bool (c == 4))] ?_
  refine xs (c == 4) (fun q3 => ?_) (fun q3 => ?_)
  ·have hc : c = 4 := by simpa using q3
   have hpk : packU P emax E ex c S q = some (if ex = true then ((2 ^ E - 1) * 2 ^ fracN P ex ||| 2 ^ (P - 1)) else (2 ^ E - 1) * 2 ^ fracN P ex) := by unfold packU; rw [if_neg hc1, if_neg hc2, if_neg hc3, if_pos hc]
   have k5 : (c == 5) = false := by rw [hc]; rfl
   refine SW_skip ?_
   refine xst q3 ?_
   refine xg ?_
   refine xn 1 [(0, [2])] [(75, .agg #[.int .i64 (P : Int), .int .i64 emin, .int .i64 emax, .int .i64 (W : Int), .int .i64 (E : Int), .bool ex])] ?_
   refine xcv 76 (ct_impl_layout_top h1) zs0 ?_
   refine xn 5 [] [(79, .int .i64 (((fracN P ex) : Nat) : Int)), (78, .agg #[.int .u64 0, .int .u64 (IntKind.wrap IntKind.u64 (((2 ^ E - 1) : Nat) : Int))])] ?_
   refine xcv 80 (ct_impl_Word_left (0) (IntKind.wrap IntKind.u64 (((2 ^ E - 1) : Nat) : Int)) (2 ^ E - 1) wT ((((fracN P ex) : Nat) : Int)) (fracN P ex) ⟨rfl⟩ (by omega) eT) zs0 ?_
   refine xy [(6, [3])] [] [(3, [.int .u64 (hiI ((2 ^ E - 1) * 2 ^ fracN P ex % B128)), .int .u64 (loI ((2 ^ E - 1) * 2 ^ fracN P ex % B128))])] ?_
   refine SW_seq ?_
   refine xr [(2, [2])] [(83, .bool ex)] ?_
   refine xs (ex) (fun q4 => ?_) (fun q4 => ?_)
   ·refine xdl (fun hB => ?_)
    refine xdk [(0, [3]), (1, []), (2, []), (3, [2]), (4, [])] [(88, .int .i64 (IntKind.wrap IntKind.i64 ((P : Int) - 1))), (84, .agg #[.int .u64 (hiI ((2 ^ E - 1) * 2 ^ fracN P ex % B128)), .int .u64 (loI ((2 ^ E - 1) * 2 ^ fracN P ex % B128))])] hB ?_
    refine xdv 5 89 (ct_impl_one (IntKind.wrap IntKind.i64 ((P : Int) - 1)) (P - 1) nP1 (by omega)) zs0 ?_
    refine xdv 6 90 (ct_impl_Word_or (hiI ((2 ^ E - 1) * 2 ^ fracN P ex % B128)) (loI ((2 ^ E - 1) * 2 ^ fracN P ex % B128)) (hiI (2 ^ (P - 1))) (loI (2 ^ (P - 1))) ((2 ^ E - 1) * 2 ^ fracN P ex % B128) (2 ^ (P - 1)) ⟨rfl, rfl⟩ ⟨rfl, rfl⟩ bT b1) zs0 ?_
    refine xds 7 [3] [(3, [.int .u64 (hiI ((2 ^ E - 1) * 2 ^ fracN P ex % B128 ||| 2 ^ (P - 1))), .int .u64 (loI ((2 ^ E - 1) * 2 ^ fracN P ex % B128 ||| 2 ^ (P - 1)))])] ?_
    refine xdz ?_
    refine xr [(1, [0])] [(93, .bool (c == 5))] ?_
    refine xsf k5 ?_
    refine SW_skip ?_
    exact ⟨_, bT2, by rw [hpk, if_pos q4, mT], Weak.mk' (by kernel_rfl) rfl (zsS zi0 zs0)⟩
   ·refine SW_skip ?_
    refine xr [(1, [0])] [(93, .bool (c == 5))] ?_
    refine xsf k5 ?_
    refine SW_skip ?_
    exact ⟨_, bT, by rw [hpk, if_neg (by rw [q4]; decide), mT], Weak.mk' (by kernel_rfl) rfl (zsS zi0 zs0)⟩
  have hc4 : c ≠ 4 := by simpa using q3
  refine xrl [] [(72, .bool (c == 5))] ?_
  refine xs (c == 5) (fun q4 => ?_) (fun q4 => ?_)
  ·have hc : c = 5 := by simpa using q4
   have hpk : packU P emax E ex c S q = some ((if ex = true then ((2 ^ E - 1) * 2 ^ fracN P ex ||| 2 ^ (P - 1)) else (2 ^ E - 1) * 2 ^ fracN P ex) ||| 2 ^ (P - 2)) := by unfold packU; rw [if_neg hc1, if_neg hc2, if_neg hc3, if_neg hc4, if_pos hc]
   refine xg ?_
   refine xn 1 [(0, [2])] [(75, .agg #[.int .i64 (P : Int), .int .i64 emin, .int .i64 emax, .int .i64 (W : Int), .int .i64 (E : Int), .bool ex])] ?_
   refine xcv 76 (ct_impl_layout_top h1) zs0 ?_
   refine xn 5 [] [(79, .int .i64 (((fracN P ex) : Nat) : Int)), (78, .agg #[.int .u64 0, .int .u64 (IntKind.wrap IntKind.u64 (((2 ^ E - 1) : Nat) : Int))])] ?_
   refine xcv 80 (ct_impl_Word_left (0) (IntKind.wrap IntKind.u64 (((2 ^ E - 1) : Nat) : Int)) (2 ^ E - 1) wT ((((fracN P ex) : Nat) : Int)) (fracN P ex) ⟨rfl⟩ (by omega) eT) zs0 ?_
   refine xy [(6, [3])] [] [(3, [.int .u64 (hiI ((2 ^ E - 1) * 2 ^ fracN P ex % B128)), .int .u64 (loI ((2 ^ E - 1) * 2 ^ fracN P ex % B128))])] ?_
   refine SW_seq ?_
   refine xr [(2, [2])] [(83, .bool ex)] ?_
   refine xs (ex) (fun q5 => ?_) (fun q5 => ?_)
   ·refine xdl (fun hB => ?_)
    refine xdk [(0, [3]), (1, []), (2, []), (3, [2]), (4, [])] [(88, .int .i64 (IntKind.wrap IntKind.i64 ((P : Int) - 1))), (84, .agg #[.int .u64 (hiI ((2 ^ E - 1) * 2 ^ fracN P ex % B128)), .int .u64 (loI ((2 ^ E - 1) * 2 ^ fracN P ex % B128))])] hB ?_
    refine xdv 5 89 (ct_impl_one (IntKind.wrap IntKind.i64 ((P : Int) - 1)) (P - 1) nP1 (by omega)) zs0 ?_
    refine xdv 6 90 (ct_impl_Word_or (hiI ((2 ^ E - 1) * 2 ^ fracN P ex % B128)) (loI ((2 ^ E - 1) * 2 ^ fracN P ex % B128)) (hiI (2 ^ (P - 1))) (loI (2 ^ (P - 1))) ((2 ^ E - 1) * 2 ^ fracN P ex % B128) (2 ^ (P - 1)) ⟨rfl, rfl⟩ ⟨rfl, rfl⟩ bT b1) zs0 ?_
    refine xds 7 [3] [(3, [.int .u64 (hiI ((2 ^ E - 1) * 2 ^ fracN P ex % B128 ||| 2 ^ (P - 1))), .int .u64 (loI ((2 ^ E - 1) * 2 ^ fracN P ex % B128 ||| 2 ^ (P - 1)))])] ?_
    refine xdz ?_
    refine xr [(1, [0])] [(93, .bool (c == 5))] ?_
    refine xst q4 ?_
    refine xdl (fun hB => ?_)
    refine xdk [(0, [3]), (1, []), (2, []), (3, [2]), (4, [])] [(98, .int .i64 (IntKind.wrap IntKind.i64 ((P : Int) - 2))), (94, .agg #[.int .u64 (hiI ((2 ^ E - 1) * 2 ^ fracN P ex % B128 ||| 2 ^ (P - 1))), .int .u64 (loI ((2 ^ E - 1) * 2 ^ fracN P ex % B128 ||| 2 ^ (P - 1)))])] hB ?_
    refine xdv 5 99 (ct_impl_one (IntKind.wrap IntKind.i64 ((P : Int) - 2)) (P - 2) nP2 (by omega)) zs0 ?_
    refine xdv 6 100 (ct_impl_Word_or (hiI ((2 ^ E - 1) * 2 ^ fracN P ex % B128 ||| 2 ^ (P - 1))) (loI ((2 ^ E - 1) * 2 ^ fracN P ex % B128 ||| 2 ^ (P - 1))) (hiI (2 ^ (P - 2))) (loI (2 ^ (P - 2))) ((2 ^ E - 1) * 2 ^ fracN P ex % B128 ||| 2 ^ (P - 1)) (2 ^ (P - 2)) ⟨rfl, rfl⟩ ⟨rfl, rfl⟩ bT2 b2) zs0 ?_
    refine xds 7 [3] [(3, [.int .u64 (hiI ((2 ^ E - 1) * 2 ^ fracN P ex % B128 ||| 2 ^ (P - 1) ||| 2 ^ (P - 2))), .int .u64 (loI ((2 ^ E - 1) * 2 ^ fracN P ex % B128 ||| 2 ^ (P - 1) ||| 2 ^ (P - 2)))])] ?_
    refine xdz ?_
    exact ⟨_, hlor _ _ bT2 b2, by rw [hpk, if_pos q5, mT], Weak.mk' (by kernel_rfl) rfl (zsS zi0 zs0)⟩
   ·refine SW_skip ?_
    refine xr [(1, [0])] [(93, .bool (c == 5))] ?_
    refine xst q4 ?_
    refine xdl (fun hB => ?_)
    refine xdk [(0, [3]), (1, []), (2, []), (3, [2]), (4, [])] [(98, .int .i64 (IntKind.wrap IntKind.i64 ((P : Int) - 2))), (94, .agg #[.int .u64 (hiI ((2 ^ E - 1) * 2 ^ fracN P ex % B128)), .int .u64 (loI ((2 ^ E - 1) * 2 ^ fracN P ex % B128))])] hB ?_
    refine xdv 5 99 (ct_impl_one (IntKind.wrap IntKind.i64 ((P : Int) - 2)) (P - 2) nP2 (by omega)) zs0 ?_
    refine xdv 6 100 (ct_impl_Word_or (hiI ((2 ^ E - 1) * 2 ^ fracN P ex % B128)) (loI ((2 ^ E - 1) * 2 ^ fracN P ex % B128)) (hiI (2 ^ (P - 2))) (loI (2 ^ (P - 2))) ((2 ^ E - 1) * 2 ^ fracN P ex % B128) (2 ^ (P - 2)) ⟨rfl, rfl⟩ ⟨rfl, rfl⟩ bT b2) zs0 ?_
    refine xds 7 [3] [(3, [.int .u64 (hiI ((2 ^ E - 1) * 2 ^ fracN P ex % B128 ||| 2 ^ (P - 2))), .int .u64 (loI ((2 ^ E - 1) * 2 ^ fracN P ex % B128 ||| 2 ^ (P - 2)))])] ?_
    refine xdz ?_
    exact ⟨_, hlor _ _ bT b2, by rw [hpk, if_neg (by rw [q5]; decide), mT], Weak.mk' (by kernel_rfl) rfl (zsS zi0 zs0)⟩
  have hc5 : c ≠ 5 := by simpa using q4
  refine SW_skip ?_
  exact ⟨0, by decide, by unfold packU; rw [if_neg hc1, if_neg hc2, if_neg hc3, if_neg hc4, if_neg hc5], Weak.mk' (by kernel_rfl) rfl (zsS zi0 zs0)⟩
 ·rintro s' ⟨u, hu, hpu, hw⟩
  refine SW_weak hw ?_
  rw [packU_some h hpu]
  refine SW_cut (fun s' => Weak s' ⟨[(0, .int .i64 f), (3, .pointer (some ⟨g0, 0, none⟩)), (4, .pointer (some ⟨g1, 0, none⟩)), (9, .pointer (some ⟨g3, 0, none⟩))], [⟨g0, [.int .i64 c, .bool neg, .int .u64 (hiI S), .int .u64 (loI S), .int .i64 q], 27⟩, ⟨g1, [.int .u64 0, .int .u64 0], 25⟩, ⟨g2, [.int .i64 (P : Int), .int .i64 emin, .int .i64 emax, .int .i64 (W : Int), .int .i64 (E : Int), .bool ex], 91⟩, ⟨g3, [.int .u64 (hiI (if neg = true then u ||| 2 ^ (W - 1) else u)), .int .u64 (loI (if neg = true then u ||| 2 ^ (W - 1) else u))], 25⟩], [Tabled]⟩) ?_ ?_
  ·refine xr [(1, [0])] [(102, .bool neg)] ?_
   refine xs (neg) (fun q0 => ?_) (fun q0 => ?_)
   ·refine xdl (fun hB => ?_)
    refine xdk [(0, [3]), (1, []), (2, []), (3, [2]), (4, [])] [(107, .int .i64 (IntKind.wrap IntKind.i64 ((W : Int) - 1))), (103, .agg #[.int .u64 (hiI u), .int .u64 (loI u)])] hB ?_
    refine xdv 5 108 (ct_impl_one (IntKind.wrap IntKind.i64 ((W : Int) - 1)) (W - 1) nW1 (by omega)) zs0 ?_
    refine xdv 6 109 (ct_impl_Word_or (hiI u) (loI u) (hiI (2 ^ (W - 1))) (loI (2 ^ (W - 1))) (u) (2 ^ (W - 1)) ⟨rfl, rfl⟩ ⟨rfl, rfl⟩ hu b3) zs0 ?_
    refine xds 7 [3] [(3, [.int .u64 (hiI (u ||| 2 ^ (W - 1))), .int .u64 (loI (u ||| 2 ^ (W - 1)))])] ?_
    refine xdz ?_
    rw [if_pos q0]
    exact Weak.mk' (by kernel_rfl) rfl (zsS zi0 zs0)
   ·refine SW_skip ?_
    rw [if_neg (by rw [q0]; decide)]
    exact Weak.mk' (by kernel_rfl) rfl (zsS zi0 zs0)
  ·intro s' hw
   refine SW_weak hw ?_
   have hx : (if neg = true then u ||| 2 ^ (W - 1) else u) < B128 := by
    split
    ·exact hlor _ _ hu b3
    ·exact hu
   generalize (if neg = true then u ||| 2 ^ (W - 1) else u) = x at hx ⊢
   refine SW_seq ?_
   refine xd (fun hB => ?_)
   refine xdk [(0, []), (1, [3]), (3, [0])] [(113, .agg #[.int .i64 c, .bool neg, .int .u64 (hiI S), .int .u64 (loI S), .int .i64 q]), (111, .agg #[.int .u64 (hiI x), .int .u64 (loI x)]), (110, .int .i64 f)] hB ?_
   refine xdv 2 112 (ct_impl_Unpack h1 (f) hf (x) hx) (zsS zi0 zs0) ?_
   refine xdw 4 114 (.bool (!(((fun α β self => self.1) Int (Bool × Int × Int × Int) (unpN P emin emax W E ex x) == c) && (((fun α β self => self.1) Bool (Int × Int × Int) ((fun α β self => self.2) Int (Bool × Int × Int × Int) (unpN P emin emax W E ex x)) == neg) && ((((fun α β self => self.1) Int (Int × Int) ((fun α β self => self.2) Bool (Int × Int × Int) ((fun α β self => self.2) Int (Bool × Int × Int × Int) (unpN P emin emax W E ex x))) == hiI S) && ((fun α β self => self.1) Int Int ((fun α β self => self.2) Int (Int × Int) ((fun α β self => self.2) Bool (Int × Int × Int) ((fun α β self => self.2) Int (Bool × Int × Int × Int) (unpN P emin emax W E ex x)))) == loI S)) && ((fun α β self => self.2) Int Int ((fun α β self => self.2) Int (Int × Int) ((fun α β self => self.2) Bool (Int × Int × Int) ((fun α β self => self.2) Int (Bool × Int × Int × Int) (unpN P emin emax W E ex x)))) == q)))))) hB (fun w _ _ => run_neq rfl (by kernel_rfl) (by kernel_rfl) (by kernel_rfl) w (eq_parts _ _ _ _ _ _ _ _ _ _ _ w)) ?_
   refine xdz ?_
   refine xs (!((fun α β self => self.1) Int (Bool × Int × Int × Int) (unpN P emin emax W E ex x) == c && ((fun α β self => self.1) Bool (Int × Int × Int) ((fun α β self => self.2) Int (Bool × Int × Int × Int) (unpN P emin emax W E ex x)) == neg && ((fun α β self => self.1) Int (Int × Int) ((fun α β self => self.2) Bool (Int × Int × Int) ((fun α β self => self.2) Int (Bool × Int × Int × Int) (unpN P emin emax W E ex x))) == hiI S && (fun α β self => self.1) Int Int ((fun α β self => self.2) Int (Int × Int) ((fun α β self => self.2) Bool (Int × Int × Int) ((fun α β self => self.2) Int (Bool × Int × Int × Int) (unpN P emin emax W E ex x)))) == loI S && (fun α β self => self.2) Int Int ((fun α β self => self.2) Int (Int × Int) ((fun α β self => self.2) Bool (Int × Int × Int) ((fun α β self => self.2) Int (Bool × Int × Int × Int) (unpN P emin emax W E ex x)))) == q)))) (fun q0 => ?_) (fun q0 => ?_)
   ·refine xq [(1, [1])] [(5, .bool false)] [] ?_
    refine SW_ret ?_
    refine xe () (.tuple #[.agg #[.int .u64 0, .int .u64 0], .bool false]) [1] ?_ trivial
    rw [if_neg]
    ·rfl
    ·intro hu
     rw [hu] at q0
     simp at q0
   ·refine SW_skip ?_
    refine xq [(0, [3]), (1, [1])] [(5, .bool true)] [(1, [.int .u64 (hiI x), .int .u64 (loI x)])] ?_
    refine SW_ret ?_
    refine xe () (.tuple #[.agg #[.int .u64 (hiI x), .int .u64 (loI x)], .bool true]) [1] ?_ trivial
    rw [if_pos]
    have hq : (!eqb (unpN P emin emax W E ex x) (c, neg, hiI S, loI S, q)) = false := q0
    exact (eqb_iff _ _).1 (by simpa using hq)
end Go.Proofs.YtdbnmdchecacdaaDoor.M
end
section
namespace Go.Proofs.YtdbnmdchecacdaaDoor.M
open Go.RowKit Go.Proofs.YtdbnmdchecacdaaDoor.G Go.Proofs.YtdbnmdchecacdaaDoorV.PrintWords Go.Proofs.YtdbnmdchecacdaaDoorV.PrintLast Go.Proofs.YtdbnmdchecacdaaDoor.X
set_option linter.unusedVariables false
set_option linter.unusedSimpArgs false
theorem rd_limb (x i : Nat) : rd (ofN B64 x) (i : Int) = ((x / B64 ^ i % B64 : Nat) : Int) := by
 obtain ⟨d, n, v⟩ := ofN_spec B64_2 x
 have h1 := rd_val B64_pos d i
 have h2 := (d.rd B64_pos (i : Int)).1
 rw [v] at h1
 omega
theorem ofN_val_lt (x : Nat) (h : (ofN B64 x).length ≤ 1) : x < 18446744073709551616 := by
 obtain ⟨d, n, v⟩ := ofN_spec B64_2 x
 have h1 := val_lt d
 rw [v] at h1
 exact Nat.lt_of_lt_of_le h1 (Nat.le_trans (Nat.pow_le_pow_right B64_pos h) (by rw [Nat.pow_one]; decide))
theorem ct_impl_wordOf (x : Nat) (A : Option Addr) (c : Nat) (hx : x < B128) : CtV Tryd.prog 147 [.slice A (ofN B64 x).length c] [Row .u64 A c (ofN B64 x)] (.agg #[.int .u64 (hiI x), .int .u64 (loI x)]) := by
 refine ct_of Tryd.func147 rfl (by kernel_rfl) (fun B w0 => ?_)
 have hl2 : (ofN B64 x).length ≤ 2 := ofN_len B64_2 hx
 have h0 := ofN_zero B64_2 x
 by_cases hl : 0 < (ofN B64 x).length
 ·refine SW_know zi0 (fun w h => row_at h hl) (fun h => ?_)
  obtain ⟨ad, rfl⟩ := h
  have z1 : decide (((ofN B64 x).length : Int) > 0) = true := decide_eq_true (by omega)
  by_cases hl1 : 1 < (ofN B64 x).length
  ·have z2 : decide (((ofN B64 x).length : Int) > 1) = true := decide_eq_true (by omega)
   refine xg ?_
   refine xb 2 [.int .u64 0, .int .u64 0] 25 (fun g0 => ?_)
   refine xz [] [] ?_
   refine xg ?_
   refine xn 1 [] [(4, .agg #[.int .u64 0, .int .u64 0])] ?_
   refine xb 3 [.int .u64 0, .int .u64 0] 25 (fun g1 => ?_)
   refine xy [(2, [1])] [] [] ?_
   refine SW_seq ?_
   refine xr [] [(7, .bool (decide ((((List.length (ofN B64 x)) : Nat) : Int) > 0)))] ?_
   refine xst z1 ?_
   refine SW_region ?_
   refine xn 1 [] [(8, .slice (some ad) (List.length (ofN B64 x)) c)] ?_
   refine xfi 9 22 (ad) (List.length (ofN B64 x)) (c) 0 IntKind.i64 (0) ⟨rfl⟩ (by omega) ?_
   refine xfl 10 zi0 (0) (by omega) ?_
   refine xy [(4, [1])] [] [(1, [.int .u64 0, .int .u64 (rd (ofN B64 x) (0 : Int))])] ?_
   refine SW_seq ?_
   refine xr [] [(14, .bool (decide ((((List.length (ofN B64 x)) : Nat) : Int) > 1)))] ?_
   refine xst z2 ?_
   refine SW_region ?_
   refine xn 1 [] [(15, .slice (some ad) (List.length (ofN B64 x)) c)] ?_
   refine xfi 16 22 (ad) (List.length (ofN B64 x)) (c) 1 IntKind.i64 (1) ⟨rfl⟩ (by omega) ?_
   refine xfl 17 zi0 (1) (by omega) ?_
   refine xy [(4, [1])] [] [(1, [.int .u64 (rd (ofN B64 x) (1 : Int)), .int .u64 (rd (ofN B64 x) 0)])] ?_
   refine xq [(0, [1]), (1, [0])] [] [(0, [.int .u64 (rd (ofN B64 x) 1), .int .u64 (rd (ofN B64 x) 0)])] ?_
   refine SW_ret ?_
   refine xe () (.agg #[.int .u64 (rd (ofN B64 x) 1), .int .u64 (rd (ofN B64 x) 0)]) [0] ?_ trivial
   rw [show (1 : Int) = ((1 : Nat) : Int) from rfl, show (0 : Int) = ((0 : Nat) : Int) from rfl, rd_limb, rd_limb, Nat.pow_zero, Nat.div_one, Nat.pow_one]
   unfold hiI loI
   rw [show B64 = 18446744073709551616 from rfl, Nat.mod_eq_of_lt (a := x / 18446744073709551616) (by have : x < 340282366920938463463374607431768211456 := hx; omega)]
  ·have z2 : decide (((ofN B64 x).length : Int) > 1) = false := decide_eq_false (by omega)
   have h1 := ofN_val_lt x (show (ofN B64 x).length ≤ 1 by omega)
   refine xg ?_
   refine xb 2 [.int .u64 0, .int .u64 0] 25 (fun g0 => ?_)
   refine xz [] [] ?_
   refine xg ?_
   refine xn 1 [] [(4, .agg #[.int .u64 0, .int .u64 0])] ?_
   refine xb 3 [.int .u64 0, .int .u64 0] 25 (fun g1 => ?_)
   refine xy [(2, [1])] [] [] ?_
   refine SW_seq ?_
   refine xr [] [(7, .bool (decide ((((List.length (ofN B64 x)) : Nat) : Int) > 0)))] ?_
   refine xst z1 ?_
   refine SW_region ?_
   refine xn 1 [] [(8, .slice (some ad) (List.length (ofN B64 x)) c)] ?_
   refine xfi 9 22 (ad) (List.length (ofN B64 x)) (c) 0 IntKind.i64 (0) ⟨rfl⟩ (by omega) ?_
   refine xfl 10 zi0 (0) (by omega) ?_
   refine xy [(4, [1])] [] [(1, [.int .u64 0, .int .u64 (rd (ofN B64 x) (0 : Int))])] ?_
   refine SW_seq ?_
   refine xr [] [(14, .bool (decide ((((List.length (ofN B64 x)) : Nat) : Int) > 1)))] ?_
   refine xsf z2 ?_
   refine SW_skip ?_
   refine xq [(0, [1]), (1, [0])] [] [(0, [.int .u64 0, .int .u64 (rd (ofN B64 x) 0)])] ?_
   refine SW_ret ?_
   refine xe () (.agg #[.int .u64 0, .int .u64 (rd (ofN B64 x) 0)]) [0] ?_ trivial
   rw [show (0 : Int) = ((0 : Nat) : Int) from rfl, rd_limb, Nat.pow_zero, Nat.div_one]
   unfold hiI loI
   rw [show B64 = 18446744073709551616 from rfl, Nat.div_eq_of_lt h1]
 ·have z1 : decide (((ofN B64 x).length : Int) > 0) = false := decide_eq_false (by omega)
  have z2 : decide (((ofN B64 x).length : Int) > 1) = false := decide_eq_false (by omega)
  have hx0 : x = 0 := h0.1 (by omega)
  refine xg ?_
  refine xb 2 [.int .u64 0, .int .u64 0] 25 (fun g0 => ?_)
  refine xz [] [] ?_
  refine xg ?_
  refine xn 1 [] [(4, .agg #[.int .u64 0, .int .u64 0])] ?_
  refine xb 3 [.int .u64 0, .int .u64 0] 25 (fun g1 => ?_)
  refine xy [(2, [1])] [] [] ?_
  refine SW_seq ?_
  refine xr [] [(7, .bool (decide ((((List.length (ofN B64 x)) : Nat) : Int) > 0)))] ?_
  refine xsf z1 ?_
  refine SW_skip ?_
  refine SW_seq ?_
  refine xr [] [(14, .bool (decide ((((List.length (ofN B64 x)) : Nat) : Int) > 1)))] ?_
  refine xsf z2 ?_
  refine SW_skip ?_
  refine xq [(0, [1]), (1, [0])] [] [] ?_
  refine SW_ret ?_
  refine xe () (.agg #[.int .u64 0, .int .u64 0]) [0] ?_ trivial
  rw [hx0]
  rfl
end Go.Proofs.YtdbnmdchecacdaaDoor.M
end
section
namespace Go.Proofs.YtdbnmdchecacdaaDoor.M
open Go.RowKit Go.Proofs.YtdbnmdchecacdaaDoor.G Go.Proofs.YtdbnmdchecacdaaDoorV.PrintWords Go.Proofs.YtdbnmdchecacdaaDoorV.PrintLast Go.Proofs.YtdbnmdchecacdaaDoor.X
set_option linter.unusedVariables false
set_option linter.unusedSimpArgs false
theorem ct_impl_Pack' {P : Nat} {emin emax : Int} {W E : Nat} {ex : Bool} (h : Fmt2 P emin emax W E ex) (f : Int) (hf : impl_layoutOf.f f = some ((P : Int), emin, emax, (W : Int), (E : Int), ex, true)) (c : Int) (neg : Bool) (hi lo : Int) (S : Nat) (hw : Wd hi lo S) (hS : S < B128) (a q : Int) (hq : Zn a q) :
  CtV Tryd.prog 23 [.int .i64 f, .agg #[.int .i64 c, .bool neg, .int .u64 hi, .int .u64 lo, .int .i64 a]] [Tabled] (.tuple #[.agg #[.int .u64 (hiI (packR P emin emax W E ex c neg S q).1), .int .u64 (loI (packR P emin emax W E ex c neg S q).1)], .bool (packR P emin emax W E ex c neg S q).2]) := by
 obtain ⟨rfl, rfl⟩ := hw
 obtain ⟨rfl, h1, h2⟩ := hq
 exact ct_impl_Pack h f hf c neg S hS _ ⟨h1, h2⟩
abbrev rndV (P : Nat) (emin emax : Int) (W E : Nat) (ex : Bool) (f : Int) (neg : Bool) : Value := .agg #[.int .i64 P, .int .i64 emin, .int .i64 emax, .int .i64 W, .int .i64 E, .bool ex, .int .i64 f, .bool neg]
theorem ct_impl_rounding_packed {P : Nat} {emin emax : Int} {W E : Nat} {ex : Bool} (h : Fmt2 P emin emax W E ex) (f : Int) (hf : impl_layoutOf.f f = some ((P : Int), emin, emax, (W : Int), (E : Int), ex, true)) (neg : Bool) (c : Int) (S : Nat) (A : Option Addr) (k : Nat) (hS : S < B128) (a q : Int) (hq : Zn a q) :
  CtV Tryd.prog 127 [rndV P emin emax W E ex f neg, .int .i64 c, .slice A (ofN B64 S).length k, .int .i64 a] [Tabled, Row .u64 A k (ofN B64 S)] (.agg #[.int .u64 (hiI (packR P emin emax W E ex c neg S q).1), .int .u64 (loI (packR P emin emax W E ex c neg S q).1)]) := by
 refine ct_of Tryd.func127 rfl (by kernel_rfl) (fun B w0 => ?_)
 refine xg ?_
 refine xb 4 [.int .i64 (P : Int), .int .i64 emin, .int .i64 emax, .int .i64 (W : Int), .int .i64 (E : Int), .bool ex, .int .i64 f, .bool neg] 114 (fun g0 => ?_)
 refine xb 8 [.int .u64 0, .int .u64 0] 25 (fun g1 => ?_)
 refine xz [] [] ?_
 refine xd (fun hB => ?_)
 refine xdk [(0, []), (1, [0]), (2, []), (3, []), (4, [0]), (5, []), (7, [])] [(19, .int .i64 a), (17, .slice A (List.length (ofN B64 S)) k), (16, .bool neg), (14, .int .i64 c), (13, .int .i64 f)] hB ?_
 refine xd2 6 13 ?_ ?_
 ·refine xev 18 (ct_impl_wordOf (S) (A) (k) hS) (zsS (ziS zi0) zs0) ?_
  refine xdk [(8, [])] [(20, .agg #[.int .i64 c, .bool neg, .int .u64 (hiI S), .int .u64 (loI S), .int .i64 a])] hB ?_
  refine xd2 9 13 ?_ ?_
  ·refine xev 21 (ct_impl_Pack' h (f) hf (c) (neg) (hiI S) (loI S) (S) ⟨rfl, rfl⟩ hS (a) (q) hq) (zsS zi0 zs0) ?_
   refine xdk [(10, []), (11, []), (12, [])] [(23, .bool (Prod.snd (packR P emin emax W E ex c neg S q))), (22, .agg #[.int .u64 (hiI (Prod.fst (packR P emin emax W E ex c neg S q))), .int .u64 (loI (Prod.fst (packR P emin emax W E ex c neg S q)))])] hB ?_
   refine xdb 13 9 [.int .u64 0, .int .u64 0] 25 (fun g2 => ?_)
   refine xds 14 [2] [(2, [.int .u64 (hiI (Prod.fst (packR P emin emax W E ex c neg S q))), .int .u64 (loI (Prod.fst (packR P emin emax W E ex c neg S q)))])] ?_
   refine xdk [(15, [])] [] hB ?_
   refine xdz ?_
   refine xq [(0, [2]), (1, [1])] [] [(1, [.int .u64 (hiI (Prod.fst (packR P emin emax W E ex c neg S q))), .int .u64 (loI (Prod.fst (packR P emin emax W E ex c neg S q)))])] ?_
   refine SW_ret ?_
   refine xe () (.agg #[.int .u64 (hiI (Prod.fst (packR P emin emax W E ex c neg S q))), .int .u64 (loI (Prod.fst (packR P emin emax W E ex c neg S q)))]) [1] ?_ trivial
   rfl
  ·refine xen 9 [.int .u64 0, .int .u64 0] 25 (fun g2 => ?_)
   refine xdv 9 21 (ct_impl_Pack' h (f) hf (c) (neg) (hiI S) (loI S) (S) ⟨rfl, rfl⟩ hS (a) (q) hq) (zsS zi0 zs0) ?_
   refine xdk [(10, []), (11, []), (12, [])] [(23, .bool (Prod.snd (packR P emin emax W E ex c neg S q))), (22, .agg #[.int .u64 (hiI (Prod.fst (packR P emin emax W E ex c neg S q))), .int .u64 (loI (Prod.fst (packR P emin emax W E ex c neg S q)))])] hB ?_
   refine xds 14 [2] [(2, [.int .u64 (hiI (Prod.fst (packR P emin emax W E ex c neg S q))), .int .u64 (loI (Prod.fst (packR P emin emax W E ex c neg S q)))])] ?_
   refine xdk [(15, [])] [] hB ?_
   refine xdz ?_
   refine xq [(0, [2]), (1, [1])] [] [(1, [.int .u64 (hiI (Prod.fst (packR P emin emax W E ex c neg S q))), .int .u64 (loI (Prod.fst (packR P emin emax W E ex c neg S q)))])] ?_
   refine SW_ret ?_
   refine xe () (.agg #[.int .u64 (hiI (Prod.fst (packR P emin emax W E ex c neg S q))), .int .u64 (loI (Prod.fst (packR P emin emax W E ex c neg S q)))]) [1] ?_ trivial
   rfl
 ·refine xen 9 [.int .u64 0, .int .u64 0] 25 (fun g2 => ?_)
  refine xdv 6 18 (ct_impl_wordOf (S) (A) (k) hS) (zsS (ziS zi0) zs0) ?_
  refine xdk [(8, [])] [(20, .agg #[.int .i64 c, .bool neg, .int .u64 (hiI S), .int .u64 (loI S), .int .i64 a])] hB ?_
  refine xdv 9 21 (ct_impl_Pack' h (f) hf (c) (neg) (hiI S) (loI S) (S) ⟨rfl, rfl⟩ hS (a) (q) hq) (zsS zi0 zs0) ?_
  refine xdk [(10, []), (11, []), (12, [])] [(23, .bool (Prod.snd (packR P emin emax W E ex c neg S q))), (22, .agg #[.int .u64 (hiI (Prod.fst (packR P emin emax W E ex c neg S q))), .int .u64 (loI (Prod.fst (packR P emin emax W E ex c neg S q)))])] hB ?_
  refine xds 14 [2] [(2, [.int .u64 (hiI (Prod.fst (packR P emin emax W E ex c neg S q))), .int .u64 (loI (Prod.fst (packR P emin emax W E ex c neg S q)))])] ?_
  refine xdk [(15, [])] [] hB ?_
  refine xdz ?_
  refine xq [(0, [2]), (1, [1])] [] [(1, [.int .u64 (hiI (Prod.fst (packR P emin emax W E ex c neg S q))), .int .u64 (loI (Prod.fst (packR P emin emax W E ex c neg S q)))])] ?_
  refine SW_ret ?_
  refine xe () (.agg #[.int .u64 (hiI (Prod.fst (packR P emin emax W E ex c neg S q))), .int .u64 (loI (Prod.fst (packR P emin emax W E ex c neg S q)))]) [1] ?_ trivial
  rfl
theorem ct_impl_rounding_packed' {P : Nat} {emin emax : Int} {W E : Nat} {ex : Bool} (h : Fmt2 P emin emax W E ex) (f : Int) (hf : impl_layoutOf.f f = some ((P : Int), emin, emax, (W : Int), (E : Int), ex, true)) (neg : Bool) (c : Int) (a q : Int) (hq : Zn a q) :
  CtV Tryd.prog 127 [rndV P emin emax W E ex f neg, .int .i64 c, .slice none 0 0, .int .i64 a] [Tabled] (.agg #[.int .u64 (hiI (packR P emin emax W E ex c neg 0 q).1), .int .u64 (loI (packR P emin emax W E ex c neg 0 q).1)]) := by
 have := ct_impl_rounding_packed h f hf neg c 0 none 0 (by decide) a q hq
 rw [ofN_nil B64_2] at this
 intro B w hB hp
 exact this B w hB (fun F hF => by
  rcases List.mem_cons.1 hF with rfl | hF
  ·exact hp _ (List.mem_cons_self ..)
  ·rw [List.mem_singleton.1 hF]
   exact fun W' _ => Row_nil .u64 0 W')
end Go.Proofs.YtdbnmdchecacdaaDoor.M
end
section
namespace Go.Proofs.YtdbnmdchecacdaaDoor.M
open Go.RowKit Go.Proofs.YtdbnmdchecacdaaDoor.G Go.Proofs.YtdbnmdchecacdaaDoorV.PrintWords Go.Proofs.YtdbnmdchecacdaaDoorV.PrintLast Go.Proofs.YtdbnmdchecacdaaDoor.X
set_option linter.unusedVariables false
set_option linter.unusedSimpArgs false
theorem ct_impl_rounding_ratio {P : Nat} {emin emax : Int} {W E : Nat} {ex : Bool} (h : Fmt2 P emin emax W E ex) (f : Int) (hf : impl_layoutOf.f f = some ((P : Int), emin, emax, (W : Int), (E : Int), ex, true)) (neg : Bool) (x y m n : Nat) (A A' : Option Addr) (c c' : Nat) (hx0 : 0 < x) (hy0 : 0 < y) (hm : IsBits x m) (hn : IsBits y n) (hm1 : m ≤ 80000) (hn1 : n ≤ 80000) :
  CtV Tryd.prog 133 [rndV P emin emax W E ex f neg, .slice A (ofN B64 x).length c, .slice A' (ofN B64 y).length c'] [Tabled, Row .u64 A c (ofN B64 x), Row .u64 A' c' (ofN B64 y)] (.agg #[.int .u64 (hiI (rrW P emin emax W E ex neg (rrSQ P emin x y m n)).1), .int .u64 (loI (rrW P emin emax W E ex neg (rrSQ P emin x y m n)).1), .int .i64 (rrW P emin emax W E ex neg (rrSQ P emin x y m n)).2, .bool true]) := by
 refine ct_of Tryd.func133 rfl (by kernel_rfl) (fun B w0 => ?_)
 have sx' : Sm x := Sm.of hm.1 (by omega)
 have sy : Sm y := Sm.of hn.1 (by omega)
 have z0 : (((ofN B64 x).length : Int) == 0) = false := by rw [beq_eq_false_iff_ne]; intro h9; exact absurd ((ofN_zero B64_2 x).1 (by omega)) (by omega)
 obtain ⟨k0, hk0⟩ : ∃ k0 : Int, (m : Int) - (n : Int) = k0 := ⟨_, rfl⟩
 have hk1 : -80000 ≤ k0 ∧ k0 ≤ 80000 := by omega
 have v1 : Ve (IntKind.i64.wrap ((m : Int) - (n : Int))) k0 := ⟨by rw [hk0]; exact wrap_i64 (by omega)⟩
 have sx2 : Sm (x * 2 ^ (-k0).toNat) := Sm.of (k := m + (-k0).toNat) (by rw [Nat.pow_add]; exact Nat.mul_lt_mul_of_pos_right hm.1 (Nat.pow_pos (by decide))) (by omega)
 have sy2 : Sm (y * 2 ^ k0.toNat) := Sm.of (k := n + k0.toNat) (by rw [Nat.pow_add]; exact Nat.mul_lt_mul_of_pos_right hn.1 (Nat.pow_pos (by decide))) (by omega)
 have cb := ct_impl_lesser x y A A' c c' k0 (by omega) sx' sy sx2 sy2
 refine xg ?_
 refine xb 3 [.int .i64 (P : Int), .int .i64 emin, .int .i64 emax, .int .i64 (W : Int), .int .i64 (E : Int), .bool ex, .int .i64 f, .bool neg] 114 (fun g0 => ?_)
 refine xb 6 [.int .u64 0, .int .u64 0, .int .i64 0, .bool false] 56 (fun g1 => ?_)
 refine xz [] [] ?_
 refine SW_seq ?_
 refine xr [] [(14, .bool ((((List.length (ofN B64 x)) : Nat) : Int) == 0))] ?_
 refine xsf z0 ?_
 refine SW_skip ?_
 refine xg ?_
 refine xn 1 [] [(18, .slice A (List.length (ofN B64 x)) c)] ?_
 refine xcv 19 (ct_impl_nat_bits (x) (A) (c) sx' (m) hm) (zsS (ziS zi0) zs0) ?_
 refine xn 3 [] [(20, .slice A' (List.length (ofN B64 y)) c')] ?_
 refine xcv 21 (ct_impl_nat_bits (y) (A') (c') sy (n) hn) (zsS (ziS (ziS zi0)) zs0) ?_
 refine xve 22 IntKind.i64 (IntKind.wrap IntKind.i64 ((m : Int) - (n : Int))) (k0) v1 ?_
 refine xz [] [(7, .int .i64 k0)] ?_
 refine SW_cut (fun s' => Weak s' ⟨[(1, .slice A (ofN B64 x).length c), (2, .slice A' (ofN B64 y).length c'), (3, .pointer (some ⟨g0, 0, none⟩)), (6, .pointer (some ⟨g1, 0, none⟩)), (7, .int .i64 (rrK x y m n))], [⟨g0, [.int .i64 (P : Int), .int .i64 emin, .int .i64 emax, .int .i64 (W : Int), .int .i64 (E : Int), .bool ex, .int .i64 f, .bool neg], 114⟩, ⟨g1, [.int .u64 0, .int .u64 0, .int .i64 0, .bool false], 56⟩], [Tabled, Row .u64 A c (ofN B64 x), Row .u64 A' c' (ofN B64 y)]⟩) ?_ ?_
 ·by_cases hb : below x y k0 = true
  ·have v2 : Ve (IntKind.i64.wrap (k0 - 1)) (k0 - 1) := ⟨wrap_i64 (by omega)⟩
   have e : rrK x y m n = k0 - 1 := by unfold rrK; rw [hk0, if_pos hb]
   rw [e]
   refine xg ?_
   refine xn 3 [] [(25, .int .i64 k0), (24, .slice A' (List.length (ofN B64 y)) c'), (23, .slice A (List.length (ofN B64 x)) c)] ?_
   refine xcv 26 cb (zsS (ziS zi0) (zsS (ziS (ziS zi0)) zs0)) ?_
   refine xz [] [] ?_
   refine xst hb ?_
   refine SW_region ?_
   refine xn 1 [] [(27, .int .i64 k0)] ?_
   refine xve 28 IntKind.i64 (IntKind.wrap IntKind.i64 (k0 - 1)) (k0 - 1) v2 ?_
   refine xz [] [(7, .int .i64 (k0 - 1))] ?_
   exact xw (zsS zi0 (zsS (ziS zi0) (zsS (ziS (ziS zi0)) zs0)))
  ·have hb' : below x y k0 = false := by simpa using hb
   have e : rrK x y m n = k0 := by unfold rrK; rw [hk0, if_neg hb]
   rw [e]
   refine xg ?_
   refine xn 3 [] [(25, .int .i64 k0), (24, .slice A' (List.length (ofN B64 y)) c'), (23, .slice A (List.length (ofN B64 x)) c)] ?_
   refine xcv 26 cb (zsS (ziS zi0) (zsS (ziS (ziS zi0)) zs0)) ?_
   refine xz [] [] ?_
   refine xsf hb' ?_
   refine SW_skip ?_
   exact xw (zsS zi0 (zsS (ziS zi0) (zsS (ziS (ziS zi0)) zs0)))
 ·rintro s' hw
  refine SW_weak hw ?_
  clear hw
  have hF := h.toFmt
  have p1 := h.p1
  have m0 := h.m0
  have hK : -80001 ≤ rrK x y m n ∧ rrK x y m n ≤ 80000 := by unfold rrK; split <;> omega
  obtain ⟨K, eK⟩ : ∃ K, rrK x y m n = K := ⟨_, rfl⟩
  rw [eK] at hK ⊢
  have v2 : Ve (IntKind.i64.wrap (K - (P : Int))) (K - (P : Int)) := ⟨wrap_i64 (by omega)⟩
  have v3 : Ve (IntKind.i64.wrap (K - (P : Int) + 1)) (K - (P : Int) + 1) := ⟨wrap_i64 (by omega)⟩
  obtain ⟨q, eq⟩ : ∃ q, rrE P emin K = q := ⟨_, rfl⟩
  have hq : -100000 ≤ q ∧ q ≤ 80001 := by rw [← eq]; unfold rrE; rw [Int.max_def]; split <;> omega
  have v4 : Ve (if emin - (P : Int) + 1 > K - (P : Int) + 1 then emin - (P : Int) + 1 else K - (P : Int) + 1) q := ⟨by rw [← eq]; unfold rrE; rw [Int.max_def]; split <;> split <;> omega⟩
  refine xd (fun hB => ?_)
  refine xdk [(0, []), (1, []), (2, []), (3, []), (4, [0]), (7, []), (8, [0])] [(37, .agg #[.int .i64 (P : Int), .int .i64 emin, .int .i64 emax, .int .i64 (W : Int), .int .i64 (E : Int), .bool ex]), (33, .int .i64 (P : Int)), (29, .int .i64 K)] hB ?_
  refine xdve 5 hB 34 IntKind.i64 (IntKind.wrap IntKind.i64 (K - (P : Int))) (K - (P : Int)) v2 ?_
  refine xdve 6 hB 35 IntKind.i64 (IntKind.wrap IntKind.i64 (K - (P : Int) + 1)) (K - (P : Int) + 1) v3 ?_
  refine xdv 9 38 (ct_impl_layout_qMin hF) zs0 ?_
  refine xdve 10 hB 39 IntKind.i64 (if emin - (P : Int) + 1 > K - (P : Int) + 1 then emin - (P : Int) + 1 else K - (P : Int) + 1) (q) v4 ?_
  refine xdk [(11, [])] [(8, .int .i64 q)] hB ?_
  refine xdz ?_
  refine SW_cut (fun s' => ∃ (A1 A2 : Option Addr) (c1 c2 : Nat), Weak s' ⟨[(1, .slice A1 (ofN B64 (rrN x q)).length c1), (2, .slice A2 (ofN B64 (rrD y q)).length c2), (3, .pointer (some ⟨g0, 0, none⟩)), (6, .pointer (some ⟨g1, 0, none⟩)), (8, .int .i64 q)], [⟨g0, [.int .i64 (P : Int), .int .i64 emin, .int .i64 emax, .int .i64 (W : Int), .int .i64 (E : Int), .bool ex, .int .i64 f, .bool neg], 114⟩, ⟨g1, [.int .u64 0, .int .u64 0, .int .i64 0, .bool false], 56⟩], [Tabled, Row .u64 A1 c1 (ofN B64 (rrN x q)), Row .u64 A2 c2 (ofN B64 (rrD y q))]⟩) ?_ ?_
  ·by_cases hq0 : 0 ≤ q
   ·have z1 : decide (q ≥ 0) = true := decide_eq_true hq0
    have e1 : rrN x q = x := by unfold rrN; rw [show (-q).toNat = 0 by omega, Nat.pow_zero, Nat.mul_one]
    have ct := ct_impl_nat_left y A' c' q q.toNat ⟨by omega⟩ (by omega) sy
    rw [e1]
    unfold rrD
    refine xr [] [(41, .bool (decide (q ≥ 0)))] ?_
    refine xst z1 ?_
    refine SW_region ?_
    refine xn 2 [] [(43, .int .i64 q), (42, .slice A' (List.length (ofN B64 y)) c')] ?_
    refine xcr 44 ct (zsS (ziS (ziS zi0)) zs0) (fun A1 k1 => ?_)
    refine xz [] [(2, .slice A1 (List.length (ofN B64 (y * 2 ^ Int.toNat q))) k1)] ?_
    refine ⟨A, A1, c, k1, ?_⟩
    exact xw (zsS (ziS zi0) (zsS (ziS (ziS zi0)) (zsS zi0 zs0)))
   ·have z1 : decide (q ≥ 0) = false := decide_eq_false hq0
    have e1 : rrD y q = y := by unfold rrD; rw [show q.toNat = 0 by omega, Nat.pow_zero, Nat.mul_one]
    have v5 : Ve (IntKind.i64.wrap (0 - q)) (((-q).toNat : Nat) : Int) := ⟨by rw [wrap_i64 (by omega)]; omega⟩
    have ct := ct_impl_nat_left x A c (((-q).toNat : Nat) : Int) (-q).toNat ⟨rfl⟩ (by omega) sx'
    rw [e1]
    unfold rrN
    refine xr [] [(41, .bool (decide (q ≥ 0)))] ?_
    refine xsf z1 ?_
    refine SW_region ?_
    refine xn 2 [] [(46, .int .i64 q), (45, .slice A (List.length (ofN B64 x)) c)] ?_
    refine xve 47 IntKind.i64 (IntKind.wrap IntKind.i64 (0 - q)) ((((Int.toNat (-q)) : Nat) : Int)) v5 ?_
    refine xcr 48 ct (zsS (ziS zi0) zs0) (fun A1 k1 => ?_)
    refine xz [] [(1, .slice A1 (List.length (ofN B64 (x * 2 ^ Int.toNat (-q)))) k1)] ?_
    refine ⟨A1, A', k1, c', ?_⟩
    exact xw (zsS (ziS zi0) (zsS zi0 (zsS (ziS (ziS (ziS zi0))) zs0)))
  ·rintro s' ⟨A1, A2, c1, c2, hw⟩
   refine SW_weak hw ?_
   clear hw
   have sN : Sm (rrN x q) := Sm.of (k := m + (-q).toNat) (by unfold rrN; rw [Nat.pow_add]; exact Nat.mul_lt_mul_of_pos_right hm.1 (Nat.pow_pos (by decide))) (by omega)
   have sD : Sm (rrD y q) := Sm.of (k := n + q.toNat) (by unfold rrD; rw [Nat.pow_add]; exact Nat.mul_lt_mul_of_pos_right hn.1 (Nat.pow_pos (by decide))) (by omega)
   obtain ⟨kN, hkN, hN2⟩ : ∃ k, k ≤ 200000 ∧ rrN x q < 2 ^ k := ⟨m + (-q).toNat, by omega, by unfold rrN; rw [Nat.pow_add]; exact Nat.mul_lt_mul_of_pos_right hm.1 (Nat.pow_pos (by decide))⟩
   have d0 : 0 < rrD y q := Nat.mul_pos hy0 (Nat.pow_pos (by decide))
   have hform := rrSQ_form (P := P) (emin := emin) hm hn hx0 hy0 (by have := h.p0; omega)
   have hSQ : rrSQ P emin x y m n = if 2 ^ P ≤ rrS (rrN x q) (rrD y q) then (rrS (rrN x q) (rrD y q) / 2, q + 1) else (rrS (rrN x q) (rrD y q), q) := by
    unfold rrSQ
    dsimp only
    rw [eK, eq]
   have hSle : rrS (rrN x q) (rrD y q) ≤ 2 ^ P := by
    have h1 := rr_quot (P := P) (emin := emin) hm hn hy0
    rw [eK, eq] at h1
    have h2 := rrS_le (rrN x q) (rrD y q)
    omega
   generalize rrN x q = N at *
   generalize rrD y q = D at *
   have sR : Sm (N % D) := sN.mono (Nat.mod_le _ _)
   have sR2 : Sm (N % D * 2 ^ 1) := Sm.of (k := kN + 1) (by
    have h1 : N % D ≤ N := Nat.mod_le _ _
    rw [Nat.pow_add, Nat.pow_one]
    omega) (by omega)
   refine xg ?_
   refine xn 2 [] [(51, .slice A2 (List.length (ofN B64 D)) c2), (50, .slice A1 (List.length (ofN B64 N)) c1)] ?_
   refine xcw 52 (ct_impl_nat_div (N) (D) (A1) (A2) (c1) (c2) sN sD d0) (zsS (ziS zi0) (zsS (ziS (ziS zi0)) zs0)) (fun A3 k3 A4 k4 => ?_)
   refine xz [] [(10, .slice A4 (List.length (ofN B64 (N % D))) k4), (9, .slice A3 (List.length (ofN B64 (N / D))) k3)] ?_
   refine xg ?_
   refine xn 1 [] [(55, .slice A4 (List.length (ofN B64 (N % D))) k4)] ?_
   refine xcr 56 (ct_impl_nat_left (N % D) (A4) (k4) (1) (1) ⟨rfl⟩ (by omega) sR) (zsS (ziS zi0) zs0) (fun A5 k5 => ?_)
   refine xn 3 [] [(57, .slice A2 (List.length (ofN B64 D)) c2)] ?_
   refine xcv 58 (ct_impl_nat_cmp (N % D * 2 ^ 1) (D) (A5) (A2) (k5) (c2) sR2 sD) (zsS zi0 (zsS (ziS (ziS (ziS (ziS (ziS zi0))))) zs0)) ?_
   refine xz [] [(11, .int .i64 (cmpN (N % D * 2 ^ 1) D))] ?_
   refine SW_cut (fun s' => ∃ (A9 : Option Addr) (c9 : Nat), Weak s' ⟨[(3, .pointer (some ⟨g0, 0, none⟩)), (6, .pointer (some ⟨g1, 0, none⟩)), (8, .int .i64 q), (9, .slice A9 (ofN B64 (rrS N D)).length c9)], [⟨g0, [.int .i64 (P : Int), .int .i64 emin, .int .i64 emax, .int .i64 (W : Int), .int .i64 (E : Int), .bool ex, .int .i64 f, .bool neg], 114⟩, ⟨g1, [.int .u64 0, .int .u64 0, .int .i64 0, .bool false], 56⟩], [Tabled, Row .u64 A9 c9 (ofN B64 (rrS N D))]⟩) ?_ ?_
   ·have sQ : Sm (N / D) := sN.mono (Nat.div_le_self _ _)
    have s1 : Sm 1 := Sm.of (k := 1) (by decide) (by decide)
    rcases Nat.lt_trichotomy D (N % D * 2 ^ 1) with hc | hc | hc
    ·have z1 : decide (cmpN (N % D * 2 ^ 1) D > 0) = true := decide_eq_true (by unfold cmpN; rw [if_neg (by omega), if_pos hc]; decide)
     have e : rrS N D = N / D + 1 := by unfold rrS rrUp; rw [if_pos (by rw [decide_eq_true (show D < N % D * 2 by omega)]; rfl)]
     rw [e]
     refine xg ?_
     refine xn 3 [] [(61, .bool (decide (cmpN (N % D * 2 ^ 1) D > 0)))] ?_
     refine xkt 61 z1 ?_
     refine xz [] [(76, .bool true)] ?_
     refine xs1 ?_
     refine SW_region ?_
     refine xn 1 [] [(77, .slice A3 (List.length (ofN B64 (N / D))) k3)] ?_
     refine xcr 78 (ct_impl_word (1) (1) ⟨rfl⟩ (by omega)) zs0 (fun A6 k6 => ?_)
     refine xcr 79 (ct_impl_nat_add (N / D) (1) (A3) (A6) (k3) (k6) sQ s1) (zsS (ziS (ziS zi0)) (zsS zi0 zs0)) (fun A7 k7 => ?_)
     refine xz [] [(9, .slice A7 (List.length (ofN B64 (N / D + 1))) k7)] ?_
     refine ⟨A7, k7, ?_⟩
     exact xw (zsS (ziS (ziS (ziS (ziS (ziS zi0))))) (zsS zi0 zs0))
    ·have ec : cmpN (N % D * 2 ^ 1) D = 0 := by unfold cmpN; rw [if_neg (by omega), if_neg (by omega)]
     have z1 : decide (cmpN (N % D * 2 ^ 1) D > 0) = false := decide_eq_false (by rw [ec]; decide)
     have z2 : (cmpN (N % D * 2 ^ 1) D == 0) = true := by rw [ec]; rfl
     have eu : rrUp N D = decide (N / D % 2 = 1) := by unfold rrUp; rw [decide_eq_false (show ¬ D < N % D * 2 by omega), decide_eq_true (show N % D * 2 = D by omega), Bool.true_and, Bool.false_or]
     by_cases hQ0 : N / D = 0
     ·have z3 : decide (((ofN B64 (N / D)).length : Int) > 0) = false := decide_eq_false (by have := (ofN_zero B64_2 (N / D)).2 hQ0; omega)
      have e : rrS N D = N / D := by unfold rrS; rw [eu, if_neg (by rw [hQ0]; decide)]
      rw [e]
      refine xg ?_
      refine xn 3 [] [(61, .bool (decide (cmpN (N % D * 2 ^ 1) D > 0)))] ?_
      refine xkf 61 z1 ?_
      refine xn 6 [] [(64, .bool (cmpN (N % D * 2 ^ 1) D == 0))] ?_
      refine xkt 64 z2 ?_
      refine xn 11 [] [(69, .bool (decide ((((List.length (ofN B64 (N / D))) : Nat) : Int) > 0)))] ?_
      refine xkf 69 z3 ?_
      refine xz [] [(76, .bool false)] ?_
      refine xs0 ?_
      refine SW_skip ?_
      refine ⟨A3, k3, ?_⟩
      exact xw (zsS (ziS (ziS (ziS zi0))) (zsS (ziS zi0) zs0))
     ·have hlen : 0 < (ofN B64 (N / D)).length := by
       rcases Nat.eq_zero_or_pos (ofN B64 (N / D)).length with h9 | h9
       ·exact absurd ((ofN_zero B64_2 (N / D)).1 h9) hQ0
       ·exact h9
      have z3 : decide (((ofN B64 (N / D)).length : Int) > 0) = true := decide_eq_true (by omega)
      refine SW_know (ziS zi0) (fun w h => row_at h hlen) (fun ⟨a3, e3⟩ => ?_)
      subst e3
      have v5 : Ve (rd (ofN B64 (N / D)) ((0 : Nat) : Int)) ((N / D % B64 : Nat) : Int) := ⟨by rw [rd_limb, Nat.pow_zero, Nat.div_one]⟩
      have v6 : Ve (bits .and .u64 ((N / D % B64 : Nat) : Int) 1) ((N / D % B64 % 2 : Nat) : Int) := ⟨and1 _ (Nat.mod_lt _ (by decide))⟩
      have e6 : N / D % B64 % 2 = N / D % 2 := Nat.mod_mod_of_dvd _ (by decide)
      by_cases hodd : N / D % 2 = 1
      ·have z5 : (((N / D % B64 % 2 : Nat) : Int) == 1) = true := by rw [e6, hodd]; rfl
       have e : rrS N D = N / D + 1 := by unfold rrS; rw [eu, if_pos (decide_eq_true hodd)]
       rw [e]
       refine xg ?_
       refine xn 3 [] [(61, .bool (decide (cmpN (N % D * 2 ^ 1) D > 0)))] ?_
       refine xkf 61 z1 ?_
       refine xn 6 [] [(64, .bool (cmpN (N % D * 2 ^ 1) D == 0))] ?_
       refine xkt 64 z2 ?_
       refine xn 11 [] [(69, .bool (decide ((((List.length (ofN B64 (N / D))) : Nat) : Int) > 0)))] ?_
       refine xkt 69 z3 ?_
       refine xn 12 [] [(70, .slice (some a3) (List.length (ofN B64 (N / D))) k3)] ?_
       refine xfi 71 22 (a3) (List.length (ofN B64 (N / D))) (k3) 0 IntKind.i64 (0) ⟨rfl⟩ (by omega) ?_
       refine xfle 72 (ziS zi0) (0) ((((N / D % B64) : Nat) : Int)) v5 (by omega) ?_
       refine xve 73 IntKind.u64 (bits BinOp.and IntKind.u64 (((N / D % B64) : Nat) : Int) 1) ((((N / D % B64 % 2) : Nat) : Int)) v6 ?_
       refine xz [] [(76, .bool ((((N / D % B64 % 2) : Nat) : Int) == 1))] ?_
       refine xst z5 ?_
       refine SW_region ?_
       refine xn 1 [] [(77, .slice (some a3) (List.length (ofN B64 (N / D))) k3)] ?_
       refine xcr 78 (ct_impl_word (1) (1) ⟨rfl⟩ (by omega)) zs0 (fun A6 k6 => ?_)
       refine xcr 79 (ct_impl_nat_add (N / D) (1) (some a3) (A6) (k3) (k6) sQ s1) (zsS (ziS (ziS zi0)) (zsS zi0 zs0)) (fun A7 k7 => ?_)
       refine xz [] [(9, .slice A7 (List.length (ofN B64 (N / D + 1))) k7)] ?_
       refine ⟨A7, k7, ?_⟩
       exact xw (zsS (ziS (ziS (ziS (ziS (ziS zi0))))) (zsS zi0 zs0))
      ·have z5 : (((N / D % B64 % 2 : Nat) : Int) == 1) = false := by rw [e6, show N / D % 2 = 0 by omega]; rfl
       have e : rrS N D = N / D := by unfold rrS; rw [eu, if_neg (by simp [hodd])]
       rw [e]
       refine xg ?_
       refine xn 3 [] [(61, .bool (decide (cmpN (N % D * 2 ^ 1) D > 0)))] ?_
       refine xkf 61 z1 ?_
       refine xn 6 [] [(64, .bool (cmpN (N % D * 2 ^ 1) D == 0))] ?_
       refine xkt 64 z2 ?_
       refine xn 11 [] [(69, .bool (decide ((((List.length (ofN B64 (N / D))) : Nat) : Int) > 0)))] ?_
       refine xkt 69 z3 ?_
       refine xn 12 [] [(70, .slice (some a3) (List.length (ofN B64 (N / D))) k3)] ?_
       refine xfi 71 22 (a3) (List.length (ofN B64 (N / D))) (k3) 0 IntKind.i64 (0) ⟨rfl⟩ (by omega) ?_
       refine xfle 72 (ziS zi0) (0) ((((N / D % B64) : Nat) : Int)) v5 (by omega) ?_
       refine xve 73 IntKind.u64 (bits BinOp.and IntKind.u64 (((N / D % B64) : Nat) : Int) 1) ((((N / D % B64 % 2) : Nat) : Int)) v6 ?_
       refine xz [] [(76, .bool ((((N / D % B64 % 2) : Nat) : Int) == 1))] ?_
       refine xsf z5 ?_
       refine SW_skip ?_
       refine ⟨some a3, k3, ?_⟩
       exact xw (zsS (ziS (ziS (ziS zi0))) (zsS (ziS zi0) zs0))
    ·have z1 : decide (cmpN (N % D * 2 ^ 1) D > 0) = false := decide_eq_false (by unfold cmpN; rw [if_pos hc]; decide)
     have z2 : (cmpN (N % D * 2 ^ 1) D == 0) = false := by unfold cmpN; rw [if_pos hc]; rfl
     have e : rrS N D = N / D := by unfold rrS rrUp; rw [if_neg (by rw [decide_eq_false (show ¬ D < N % D * 2 by omega), decide_eq_false (show ¬ N % D * 2 = D by omega), Bool.false_and, Bool.false_or]; exact Bool.false_ne_true)]
     rw [e]
     refine xg ?_
     refine xn 3 [] [(61, .bool (decide (cmpN (N % D * 2 ^ 1) D > 0)))] ?_
     refine xkf 61 z1 ?_
     refine xn 6 [] [(64, .bool (cmpN (N % D * 2 ^ 1) D == 0))] ?_
     refine xkf 64 z2 ?_
     refine xz [] [(76, .bool false)] ?_
     refine xs0 ?_
     refine SW_skip ?_
     refine ⟨A3, k3, ?_⟩
     exact xw (zsS (ziS (ziS (ziS zi0))) (zsS (ziS zi0) zs0))
   ·rintro s' ⟨A9, c9, hw⟩
    refine SW_weak hw ?_
    clear hw
    obtain ⟨U, eU⟩ : ∃ U, rrSQ P emin x y m n = U := ⟨_, rfl⟩
    obtain ⟨S, eS⟩ : ∃ S, rrS N D = S := ⟨_, rfl⟩
    have hQhi := rrSQ_hi (P := P) (emin := emin) (x := x) (y := y) hm1 hn1 m0.2
    rw [eU] at hform hSQ hQhi ⊢
    rw [eS] at hSQ ⊢
    rw [eS] at hSle
    clear eU eS
    obtain ⟨mS, hmS⟩ := bits_ex S
    have lS := bits_lt (k := P) hmS
    have b128 : 2 ^ P < B128 := Nat.pow_lt_pow_right (a := 2) (n := 128) (by decide) (by omega)
    have sP : Sm (2 ^ P) := sm128 (Nat.lt_of_lt_of_le b128 (by decide))
    have sS : Sm S := sP.mono hSle
    refine SW_cut (fun s' => ∃ (A9 : Option Addr) (c9 : Nat), Weak s' ⟨[(3, .pointer (some ⟨g0, 0, none⟩)), (6, .pointer (some ⟨g1, 0, none⟩)), (8, .int .i64 U.2), (9, .slice A9 (ofN B64 U.1).length c9)], [⟨g0, [.int .i64 (P : Int), .int .i64 emin, .int .i64 emax, .int .i64 (W : Int), .int .i64 (E : Int), .bool ex, .int .i64 f, .bool neg], 114⟩, ⟨g1, [.int .u64 0, .int .u64 0, .int .i64 0, .bool false], 56⟩], [Tabled, Row .u64 A9 c9 (ofN B64 U.1)]⟩) ?_ ?_
    ·by_cases hh : 2 ^ P ≤ S
     ·rw [if_pos hh] at hSQ
      rw [hSQ, show S / 2 = S / 2 ^ 1 by rw [Nat.pow_one]]
      dsimp only
      have z1 : decide ((mS : Int) > (P : Int)) = true := decide_eq_true (by omega)
      have v5 : Ve (IntKind.i64.wrap (q + 1)) (q + 1) := ⟨wrap_i64 (by omega)⟩
      refine xd (fun hB => ?_)
      refine xdk [(0, []), (2, []), (3, []), (4, []), (5, [0])] [(85, .int .i64 (P : Int)), (80, .slice A9 (List.length (ofN B64 S)) c9)] hB ?_
      refine xdv 1 81 (ct_impl_nat_bits (S) (A9) (c9) sS (mS) hmS) (zsS (ziS zi0) zs0) ?_
      refine xdk [(6, [])] [(86, .bool (decide ((mS : Int) > (P : Int))))] hB ?_
      refine xdz ?_
      refine xst z1 ?_
      refine xg ?_
      refine xn 1 [] [(87, .slice A9 (List.length (ofN B64 S)) c9)] ?_
      refine xcr 88 (ct_impl_nat_right (S) (A9) (c9) (1) (1) ⟨rfl⟩ (by omega) sS) (zsS (ziS zi0) zs0) (fun A10 k10 => ?_)
      refine xz [] [(9, .slice A10 (List.length (ofN B64 (S / 2 ^ 1))) k10)] ?_
      refine SW_region ?_
      refine xn 1 [] [(89, .int .i64 q)] ?_
      refine xve 90 IntKind.i64 (IntKind.wrap IntKind.i64 (q + 1)) (q + 1) v5 ?_
      refine xz [] [(8, .int .i64 (q + 1))] ?_
      refine ⟨A10, k10, ?_⟩
      exact xw (zsS (ziS zi0) (zsS zi0 zs0))
     ·rw [if_neg hh] at hSQ
      rw [hSQ]
      dsimp only
      have z1 : decide ((mS : Int) > (P : Int)) = false := decide_eq_false (by omega)
      refine xd (fun hB => ?_)
      refine xdk [(0, []), (2, []), (3, []), (4, []), (5, [0])] [(85, .int .i64 (P : Int)), (80, .slice A9 (List.length (ofN B64 S)) c9)] hB ?_
      refine xdv 1 81 (ct_impl_nat_bits (S) (A9) (c9) sS (mS) hmS) (zsS (ziS zi0) zs0) ?_
      refine xdk [(6, [])] [(86, .bool (decide ((mS : Int) > (P : Int))))] hB ?_
      refine xdz ?_
      refine xsf z1 ?_
      refine SW_skip ?_
      refine ⟨A9, c9, ?_⟩
      exact xw (zsS zi0 (zsS (ziS zi0) zs0))
    ·rintro s' ⟨A10, c10, hw⟩
     refine SW_weak hw ?_
     clear hw
     clear hSQ
     obtain ⟨U, Q⟩ := U
     dsimp only at hform hQhi ⊢
     obtain ⟨f1, f2, f3⟩ := hform
     obtain ⟨mU, hmU⟩ := bits_ex U
     have lU := bits_lt (k := P) hmU
     have lU1 := bits_lt (k := P - 1) hmU
     have p0 := h.p0
     have m1 := h.m1
     have sU : Sm U := sP.mono (Nat.le_of_lt f1)
     have bU : U < B128 := by omega
     have b0 : 0 < B128 := by decide
     have hz : ((((ofN B64 U).length : Nat) : Int) == 0) = decide (U = 0) := by
      have y := ofN_zero B64_2 U
      rw [Bool.eq_iff_iff, beq_iff_eq, decide_eq_true_iff, ← y]
      omega
     have z0 : Zn 0 0 := ⟨rfl, by decide, by decide⟩
     have zQ : Zn Q Q := ⟨rfl, by omega, by omega⟩
     have v7 : Ve (IntKind.i64.wrap (Q + (P : Int))) (Q + (P : Int)) := ⟨wrap_i64 (by omega)⟩
     have v8 : Ve (IntKind.i64.wrap (Q + (P : Int) - 1)) (Q + (P : Int) - 1) := ⟨wrap_i64 (by omega)⟩
     by_cases hU : 2 ^ (P - 1) ≤ U
     ·have z1 : ((mU : Int) == (P : Int)) = true := by rw [beq_iff_eq]; omega
      have hU0 : U ≠ 0 := by have := Nat.pow_pos (n := P - 1) (show 0 < 2 by decide); omega
      have z4 := hz.trans (decide_eq_false hU0)
      have z5 : decide ((mU : Int) < (P : Int)) = false := decide_eq_false (by omega)
      by_cases hQ : Q + (P : Int) - 1 > emax
      ·have z2 : decide (Q + (P : Int) - 1 > emax) = true := decide_eq_true hQ
       rw [rrW_inf hU hQ]
       dsimp only
       refine SW_seq ?_
       refine SW_block ?_
       refine xd (fun hB => ?_)
       refine xdk [(0, []), (2, []), (3, []), (4, []), (5, [0])] [(97, .int .i64 (P : Int)), (92, .slice A10 (List.length (ofN B64 U)) c10)] hB ?_
       refine xdv 1 93 (ct_impl_nat_bits (U) (A10) (c10) sU (mU) hmU) (zsS (ziS zi0) zs0) ?_
       refine xdk [(6, []), (7, [])] [(99, .bool ((mU : Int) == (P : Int)))] hB ?_
       refine xdnt 99 z1 ?_
       refine xdk [(8, []), (9, []), (10, []), (11, []), (12, [0]), (15, []), (16, []), (17, []), (18, [0])] [(110, .int .i64 emax), (104, .int .i64 (P : Int)), (100, .int .i64 Q)] hB ?_
       refine xdve 13 hB 105 IntKind.i64 (IntKind.wrap IntKind.i64 (Q + (P : Int))) (Q + (P : Int)) v7 ?_
       refine xdve 14 hB 106 IntKind.i64 (IntKind.wrap IntKind.i64 (Q + (P : Int) - 1)) (Q + (P : Int) - 1) v8 ?_
       refine xdk [(19, []), (20, []), (21, [])] [(91, .bool (decide (Q + (P : Int) - 1 > emax)))] hB ?_
       refine xdz ?_
       refine xst z2 ?_
       refine xg ?_
       refine xn 1 [(0, [0])] [(113, .agg #[.int .i64 (P : Int), .int .i64 emin, .int .i64 emax, .int .i64 (W : Int), .int .i64 (E : Int), .bool ex, .int .i64 f, .bool neg])] ?_
       refine xcv 114 (ct_impl_rounding_packed' h (f) hf (neg) (4) (0) (0) z0) (zsS zi0 zs0) ?_
       refine xy [(3, [1])] [] [(1, [.int .u64 (hiI (Prod.fst (packR P emin emax W E ex 4 neg 0 0))), .int .u64 (loI (Prod.fst (packR P emin emax W E ex 4 neg 0 0))), .int .i64 1, .bool true])] ?_
       refine SW_ret ?_
       refine xe () (.agg #[.int .u64 (hiI (Prod.fst (packR P emin emax W E ex 4 neg 0 0))), .int .u64 (loI (Prod.fst (packR P emin emax W E ex 4 neg 0 0))), .int .i64 1, .bool true]) [1] ?_ trivial
       rfl
      ·have z2 : decide (Q + (P : Int) - 1 > emax) = false := decide_eq_false hQ
       rw [rrW_norm hU hQ]
       dsimp only
       refine SW_seq ?_
       refine SW_block ?_
       refine xd (fun hB => ?_)
       refine xdk [(0, []), (2, []), (3, []), (4, []), (5, [0])] [(97, .int .i64 (P : Int)), (92, .slice A10 (List.length (ofN B64 U)) c10)] hB ?_
       refine xdv 1 93 (ct_impl_nat_bits (U) (A10) (c10) sU (mU) hmU) (zsS (ziS zi0) zs0) ?_
       refine xdk [(6, []), (7, [])] [(99, .bool ((mU : Int) == (P : Int)))] hB ?_
       refine xdnt 99 z1 ?_
       refine xdk [(8, []), (9, []), (10, []), (11, []), (12, [0]), (15, []), (16, []), (17, []), (18, [0])] [(110, .int .i64 emax), (104, .int .i64 (P : Int)), (100, .int .i64 Q)] hB ?_
       refine xdve 13 hB 105 IntKind.i64 (IntKind.wrap IntKind.i64 (Q + (P : Int))) (Q + (P : Int)) v7 ?_
       refine xdve 14 hB 106 IntKind.i64 (IntKind.wrap IntKind.i64 (Q + (P : Int) - 1)) (Q + (P : Int) - 1) v8 ?_
       refine xdk [(19, []), (20, []), (21, [])] [(91, .bool (decide (Q + (P : Int) - 1 > emax)))] hB ?_
       refine xdz ?_
       refine xsf z2 ?_
       refine xr [] [(116, .bool ((((List.length (ofN B64 U)) : Nat) : Int) == 0))] ?_
       refine xsf z4 ?_
       refine xd (fun hB => ?_)
       refine xdk [(0, []), (2, []), (3, []), (4, []), (5, [0])] [(129, .int .i64 (P : Int)), (124, .slice A10 (List.length (ofN B64 U)) c10)] hB ?_
       refine xdv 1 125 (ct_impl_nat_bits (U) (A10) (c10) sU (mU) hmU) (zsS (ziS zi0) zs0) ?_
       refine xdk [(6, []), (7, [])] [(123, .bool (decide ((mU : Int) < (P : Int))))] hB ?_
       refine xdz ?_
       refine xsf z5 ?_
       refine SW_skip ?_
       refine xg ?_
       refine xn 3 [(0, [0])] [(138, .int .i64 Q), (137, .slice A10 (List.length (ofN B64 U)) c10), (136, .agg #[.int .i64 (P : Int), .int .i64 emin, .int .i64 emax, .int .i64 (W : Int), .int .i64 (E : Int), .bool ex, .int .i64 f, .bool neg])] ?_
       refine xcv 139 (ct_impl_rounding_packed h (f) hf (neg) (3) (U) (A10) (c10) bU (Q) (Q) zQ) (zsS zi0 (zsS (ziS zi0) zs0)) ?_
       refine xy [(5, [1])] [] [(1, [.int .u64 (hiI (Prod.fst (packR P emin emax W E ex 3 neg U Q))), .int .u64 (loI (Prod.fst (packR P emin emax W E ex 3 neg U Q))), .int .i64 0, .bool true])] ?_
       refine SW_ret ?_
       refine xe () (.agg #[.int .u64 (hiI (Prod.fst (packR P emin emax W E ex 3 neg U Q))), .int .u64 (loI (Prod.fst (packR P emin emax W E ex 3 neg U Q))), .int .i64 0, .bool true]) [1] ?_ trivial
       rfl
     ·have z1 : ((mU : Int) == (P : Int)) = false := by rw [beq_eq_false_iff_ne]; omega
      have z5 : decide ((mU : Int) < (P : Int)) = true := decide_eq_true (by omega)
      by_cases hU0 : U = 0
      ·have z4 := hz.trans (decide_eq_true hU0)
       rw [rrW_zero hU0]
       dsimp only
       refine SW_seq ?_
       refine SW_block ?_
       refine xd (fun hB => ?_)
       refine xdk [(0, []), (2, []), (3, []), (4, []), (5, [0])] [(97, .int .i64 (P : Int)), (92, .slice A10 (List.length (ofN B64 U)) c10)] hB ?_
       refine xdv 1 93 (ct_impl_nat_bits (U) (A10) (c10) sU (mU) hmU) (zsS (ziS zi0) zs0) ?_
       refine xdk [(6, []), (7, [])] [(99, .bool ((mU : Int) == (P : Int)))] hB ?_
       refine xdnf 99 z1 ?_
       refine xdk [(8, []), (9, []), (10, []), (11, []), (12, []), (13, []), (14, []), (15, []), (16, []), (17, []), (18, []), (19, []), (20, []), (21, [])] [(91, .bool false)] hB ?_
       refine xdz ?_
       refine xs0 ?_
       refine xr [] [(116, .bool ((((List.length (ofN B64 U)) : Nat) : Int) == 0))] ?_
       refine xst z4 ?_
       refine xg ?_
       refine xn 1 [(0, [0])] [(120, .agg #[.int .i64 (P : Int), .int .i64 emin, .int .i64 emax, .int .i64 (W : Int), .int .i64 (E : Int), .bool ex, .int .i64 f, .bool neg])] ?_
       refine xcv 121 (ct_impl_rounding_packed' h (f) hf (neg) (1) (0) (0) z0) (zsS zi0 zs0) ?_
       refine xy [(3, [1])] [] [(1, [.int .u64 (hiI (Prod.fst (packR P emin emax W E ex 1 neg 0 0))), .int .u64 (loI (Prod.fst (packR P emin emax W E ex 1 neg 0 0))), .int .i64 2, .bool true])] ?_
       refine SW_ret ?_
       refine xe () (.agg #[.int .u64 (hiI (Prod.fst (packR P emin emax W E ex 1 neg 0 0))), .int .u64 (loI (Prod.fst (packR P emin emax W E ex 1 neg 0 0))), .int .i64 2, .bool true]) [1] ?_ trivial
       rfl
      ·have z4 := hz.trans (decide_eq_false hU0)
       rw [rrW_sub (by omega) hU0]
       dsimp only
       refine SW_seq ?_
       refine SW_block ?_
       refine xd (fun hB => ?_)
       refine xdk [(0, []), (2, []), (3, []), (4, []), (5, [0])] [(97, .int .i64 (P : Int)), (92, .slice A10 (List.length (ofN B64 U)) c10)] hB ?_
       refine xdv 1 93 (ct_impl_nat_bits (U) (A10) (c10) sU (mU) hmU) (zsS (ziS zi0) zs0) ?_
       refine xdk [(6, []), (7, [])] [(99, .bool ((mU : Int) == (P : Int)))] hB ?_
       refine xdnf 99 z1 ?_
       refine xdk [(8, []), (9, []), (10, []), (11, []), (12, []), (13, []), (14, []), (15, []), (16, []), (17, []), (18, []), (19, []), (20, []), (21, [])] [(91, .bool false)] hB ?_
       refine xdz ?_
       refine xs0 ?_
       refine xr [] [(116, .bool ((((List.length (ofN B64 U)) : Nat) : Int) == 0))] ?_
       refine xsf z4 ?_
       refine xd (fun hB => ?_)
       refine xdk [(0, []), (2, []), (3, []), (4, []), (5, [0])] [(129, .int .i64 (P : Int)), (124, .slice A10 (List.length (ofN B64 U)) c10)] hB ?_
       refine xdv 1 125 (ct_impl_nat_bits (U) (A10) (c10) sU (mU) hmU) (zsS (ziS zi0) zs0) ?_
       refine xdk [(6, []), (7, [])] [(123, .bool (decide ((mU : Int) < (P : Int))))] hB ?_
       refine xdz ?_
       refine xst z5 ?_
       refine xg ?_
       refine xn 3 [(0, [0])] [(133, .int .i64 Q), (132, .slice A10 (List.length (ofN B64 U)) c10), (131, .agg #[.int .i64 (P : Int), .int .i64 emin, .int .i64 emax, .int .i64 (W : Int), .int .i64 (E : Int), .bool ex, .int .i64 f, .bool neg])] ?_
       refine xcv 134 (ct_impl_rounding_packed h (f) hf (neg) (2) (U) (A10) (c10) bU (Q) (Q) zQ) (zsS zi0 (zsS (ziS zi0) zs0)) ?_
       refine xy [(5, [1])] [] [(1, [.int .u64 (hiI (Prod.fst (packR P emin emax W E ex 2 neg U Q))), .int .u64 (loI (Prod.fst (packR P emin emax W E ex 2 neg U Q))), .int .i64 2, .bool true])] ?_
       refine SW_ret ?_
       refine xe () (.agg #[.int .u64 (hiI (Prod.fst (packR P emin emax W E ex 2 neg U Q))), .int .u64 (loI (Prod.fst (packR P emin emax W E ex 2 neg U Q))), .int .i64 2, .bool true]) [1] ?_ trivial
       rfl
end Go.Proofs.YtdbnmdchecacdaaDoor.M
end
section
namespace Go.Proofs.YtdbnmdchecacdaaDoor.M
open Go.RowKit Go.Proofs.YtdbnmdchecacdaaDoor.G Go.Proofs.YtdbnmdchecacdaaDoorV.PrintWords Go.Proofs.YtdbnmdchecacdaaDoorV.PrintLast Go.Proofs.YtdbnmdchecacdaaDoor.X
set_option linter.unusedVariables false
set_option linter.unusedSimpArgs false
structure FD (f : Int) (P : Nat) (emin emax : Int) (W E : Nat) (ex : Bool) : Prop where
 h : Fmt2 P emin emax W E ex
 x1 : 1 ≤ emax
 sf : spec_Describe.f f = some ((P : Int), emin, emax, (W : Int), (E : Int), ex)
 lf : impl_layoutOf.f f = some ((P : Int), emin, emax, (W : Int), (E : Int), ex, true)
theorem fd_or (f : Int) : ((0 ≤ f ∧ f < 4) ∧ ∃ P emin emax W E ex, FD f P emin emax W E ex) ∨ (¬ (0 ≤ f ∧ f < 4) ∧ spec_Describe.f f = some (0, 0, 0, 0, 0, false) ∧ impl_layoutOf.f f = some (0, 0, 0, 0, 0, false, false)) := by
 by_cases h0 : f = 0
 ·subst h0; exact .inl ⟨by decide, _, _, _, _, _, _, fmt2_0, by decide, rfl, rfl⟩
 by_cases h1 : f = 1
 ·subst h1; exact .inl ⟨by decide, _, _, _, _, _, _, fmt2_1, by decide, rfl, rfl⟩
 by_cases h2 : f = 2
 ·subst h2; exact .inl ⟨by decide, _, _, _, _, _, _, fmt2_2, by decide, rfl, rfl⟩
 by_cases h3 : f = 3
 ·subst h3; exact .inl ⟨by decide, _, _, _, _, _, _, fmt2_3, by decide, rfl, rfl⟩
 refine .inr ⟨by omega, ?_, ?_⟩
 ·unfold spec_Describe.f
  rw [if_neg h0, if_neg h1, if_neg h2, if_neg h3]
 ·unfold impl_layoutOf.f
  rw [if_neg h0, if_neg h1, if_neg h2, if_neg h3]
theorem ct_spec_Describe' (f : Int) (hf : spec_Describe.f f = some (0, 0, 0, 0, 0, false)) : CtV Tryd.prog 57 [.int .i64 f] [] (.agg #[.int .i64 0, .int .i64 0, .int .i64 0, .int .i64 0, .int .i64 0, .bool false]) := spec_Describe.calls f _ _ _ _ _ _ hf
theorem ct_impl_layoutOf' (f : Int) (hf : impl_layoutOf.f f = some (0, 0, 0, 0, 0, false, false)) : CtV Tryd.prog 65 [.int .i64 f] [Tabled] (.tuple #[.agg #[.int .i64 0, .int .i64 0, .int .i64 0, .int .i64 0, .int .i64 0, .bool false], .bool false]) :=
 ctV1 (fun w h1 => impl_layoutOf.calls _ _ _ _ _ _ _ _ w h1 hf)
theorem ct_impl_Unpack' (f : Int) (hf : impl_layoutOf.f f = some (0, 0, 0, 0, 0, false, false)) (h l : Int) :
  CtV Tryd.prog 17 [.int .i64 f, .agg #[.int .u64 h, .int .u64 l]] [Tabled] (.agg #[.int .i64 0, .bool false, .int .u64 0, .int .u64 0, .int .i64 0]) := by
 refine ct_of Tryd.func17 rfl (by kernel_rfl) (fun B w0 => ?_)
 refine xg ?_
 refine xb 3 [.int .u64 h, .int .u64 l] 25 (fun g0 => ?_)
 refine xb 4 [.int .i64 0, .bool false, .int .u64 0, .int .u64 0, .int .i64 0] 27 (fun g1 => ?_)
 refine xz [] [] ?_
 refine xg ?_
 refine xn 1 [] [(14, .int .i64 f)] ?_
 refine xcv 15 (ct_impl_layoutOf' (f) hf) (zsS zi0 zs0) ?_
 refine xn 5 [] [(17, .bool false), (16, .agg #[.int .i64 0, .int .i64 0, .int .i64 0, .int .i64 0, .int .i64 0, .bool false])] ?_
 refine xb 5 [.int .i64 0, .int .i64 0, .int .i64 0, .int .i64 0, .int .i64 0, .bool false] 91 (fun g2 => ?_)
 refine xy [(6, [2])] [(6, .bool false)] [] ?_
 refine SW_seq ?_
 refine xr [(8, [0])] [(34, .bool true)] ?_
 refine xs1 ?_
 refine xq [(1, [1])] [] [] ?_
 refine SW_ret ?_
 refine xe () (.agg #[.int .i64 0, .bool false, .int .u64 0, .int .u64 0, .int .i64 0]) [1] ?_ trivial
 rfl
theorem ct_spec_Unpack' (f : Int) (hf : spec_Describe.f f = some (0, 0, 0, 0, 0, false)) (h l : Int) :
  CtV Tryd.prog 15 [.int .i64 f, .agg #[.int .u64 h, .int .u64 l]] [] (.agg #[.int .i64 0, .bool false, .int .u64 0, .int .u64 0, .int .i64 0]) := by
 refine ct_of Tryd.func15 rfl (by kernel_rfl) (fun B w0 => ?_)
 refine xg ?_
 refine xb 3 [.int .u64 h, .int .u64 l] 25 (fun g0 => ?_)
 refine xb 4 [.int .i64 0, .bool false, .int .u64 0, .int .u64 0, .int .i64 0] 27 (fun g1 => ?_)
 refine xz [] [] ?_
 refine xg ?_
 refine xn 1 [] [(16, .int .i64 f)] ?_
 refine xcv 17 (ct_spec_Describe' (f) hf) zs0 ?_
 refine xb 5 [.int .i64 0, .int .i64 0, .int .i64 0, .int .i64 0, .int .i64 0, .bool false] 83 (fun g2 => ?_)
 refine xy [(3, [2])] [] [] ?_
 refine SW_seq ?_
 refine xr [(1, [2])] [(20, .bool true)] ?_
 refine xs1 ?_
 refine xq [(1, [1])] [] [] ?_
 refine SW_ret ?_
 refine xe () (.agg #[.int .i64 0, .bool false, .int .u64 0, .int .u64 0, .int .i64 0]) [1] ?_ trivial
 rfl
end Go.Proofs.YtdbnmdchecacdaaDoor.M
end
section
namespace Go.Proofs.YtdbnmdchecacdaaDoor.M
open Go.RowKit Go.Proofs.YtdbnmdchecacdaaDoor.G Go.Proofs.YtdbnmdchecacdaaDoorV.PrintWords Go.Proofs.YtdbnmdchecacdaaDoorV.PrintLast Go.Proofs.YtdbnmdchecacdaaDoor.X
set_option linter.unusedVariables false
set_option linter.unusedSimpArgs false
theorem ct_impl_isFormat (f : Int) (b : Bool) (hb : decide (0 ≤ f ∧ f < 4) = b) : CtV Tryd.prog 101 [.int .i64 f] [] (.bool b) := by
 subst hb
 refine ct_of Tryd.func101 rfl (by kernel_rfl) (fun B w0 => ?_)
 by_cases h1 : 0 ≤ f
 ·have z1 : decide (f ≥ 0) = true := decide_eq_true h1
  by_cases h2 : f < 4
  ·have z2 : decide (f < 4) = true := decide_eq_true h2
   rw [decide_eq_true (⟨h1, h2⟩ : 0 ≤ f ∧ f < 4)]
   refine xr [] [(2, .bool false)] ?_
   refine xg ?_
   refine xn 3 [] [(5, .bool (decide (f ≥ 0)))] ?_
   refine xkt 5 z1 ?_
   refine xz [] [(2, .bool (decide (f < 4)))] ?_
   refine SW_ret ?_
   refine xe () (.bool (decide (f < 4))) [] ?_ trivial
   rw [z2]
  ·have z2 : decide (f < 4) = false := decide_eq_false h2
   rw [decide_eq_false (fun z => h2 z.2 : ¬ (0 ≤ f ∧ f < 4))]
   refine xr [] [(2, .bool false)] ?_
   refine xg ?_
   refine xn 3 [] [(5, .bool (decide (f ≥ 0)))] ?_
   refine xkt 5 z1 ?_
   refine xz [] [(2, .bool (decide (f < 4)))] ?_
   refine SW_ret ?_
   refine xe () (.bool (decide (f < 4))) [] ?_ trivial
   rw [z2]
 ·have z1 : decide (f ≥ 0) = false := decide_eq_false h1
  rw [decide_eq_false (fun z => h1 z.1 : ¬ (0 ≤ f ∧ f < 4))]
  refine xr [] [(2, .bool false)] ?_
  refine xg ?_
  refine xn 3 [] [(5, .bool (decide (f ≥ 0)))] ?_
  refine xkf 5 z1 ?_
  refine xz [] [(2, .bool false)] ?_
  refine SW_ret ?_
  refine xe () (.bool false) [] ?_ trivial
  rfl
theorem ct_impl_short (g n n' c c' : Nat) (A A' : Option Addr) (b : Bool) (hb : decide (n ≤ 1200 ∧ n' ≤ 1200) = b) : CtM Tryd.prog 102 [.slice (some ⟨g, 0, none⟩) 2 2] [⟨g, [.slice A n c, .slice A' n' c'], 41⟩] [] (γ := Unit) (fun _ => .bool b) (fun _ => [⟨g, [.slice A n c, .slice A' n' c'], 41⟩]) (fun _ => []) := by
 subst hb
 refine cm_of Tryd.func102 rfl (by kernel_rfl) (fun B w0 => ?_)
 by_cases h1 : n ≤ 1200
 ·have z1 : decide ((n : Int) > 1200) = false := decide_eq_false (by omega)
  by_cases h2 : n' ≤ 1200
  ·have z2 : decide ((n' : Int) > 1200) = false := decide_eq_false (by omega)
   rw [decide_eq_true (⟨h1, h2⟩ : n ≤ 1200 ∧ n' ≤ 1200)]
   refine xr [] [(2, .bool false)] ?_
   refine SW_seq ?_
   refine xr [] [(7, .int .i64 0), (6, .int .i64 2), (5, .slice (some ⟨g, 0, none⟩) 2 2)] ?_
   refine SW_block ?_
   refine SW_unroll ?_
   refine LW_step ?_
   refine xr [] [(8, .bool true)] ?_
   refine SW_seq ?_
   refine xs1 ?_
   refine SW_skip ?_
   refine SW_seq ?_
   refine SW_block ?_
   refine xr [(1, [0])] [(4, .slice A n c)] ?_
   refine xr [] [(13, .bool (decide ((n : Int) > 1200)))] ?_
   refine xsf z1 ?_
   refine SW_skip ?_
   refine xrl [] [(7, .int .i64 1)] ?_
   refine LW_step ?_
   refine xr [] [(8, .bool true)] ?_
   refine SW_seq ?_
   refine xs1 ?_
   refine SW_skip ?_
   refine SW_seq ?_
   refine SW_block ?_
   refine xr [(1, [0])] [(4, .slice A' n' c')] ?_
   refine xr [] [(13, .bool (decide (((n' : Nat) : Int) > 1200)))] ?_
   refine xsf z2 ?_
   refine SW_skip ?_
   refine xrl [] [(7, .int .i64 2)] ?_
   refine LW_step ?_
   refine xr [] [(8, .bool false)] ?_
   refine SW_seq ?_
   refine xs0 ?_
   refine SW_exit ?_
   refine xr [] [(2, .bool true)] ?_
   refine SW_ret ?_
   refine xmeg (.bool true) [] ?_
   exact ⟨(), [true], rfl, rfl, zs0⟩
  ·have z2 : decide ((n' : Int) > 1200) = true := decide_eq_true (by omega)
   rw [decide_eq_false (fun z => h2 z.2 : ¬ (n ≤ 1200 ∧ n' ≤ 1200))]
   refine xr [] [(2, .bool false)] ?_
   refine SW_seq ?_
   refine xr [] [(7, .int .i64 0), (6, .int .i64 2), (5, .slice (some ⟨g, 0, none⟩) 2 2)] ?_
   refine SW_block ?_
   refine SW_unroll ?_
   refine LW_step ?_
   refine xr [] [(8, .bool true)] ?_
   refine SW_seq ?_
   refine xs1 ?_
   refine SW_skip ?_
   refine SW_seq ?_
   refine SW_block ?_
   refine xr [(1, [0])] [(4, .slice A n c)] ?_
   refine xr [] [(13, .bool (decide ((n : Int) > 1200)))] ?_
   refine xsf z1 ?_
   refine SW_skip ?_
   refine xrl [] [(7, .int .i64 1)] ?_
   refine LW_step ?_
   refine xr [] [(8, .bool true)] ?_
   refine SW_seq ?_
   refine xs1 ?_
   refine SW_skip ?_
   refine SW_seq ?_
   refine SW_block ?_
   refine xr [(1, [0])] [(4, .slice A' n' c')] ?_
   refine xr [] [(13, .bool (decide (((n' : Nat) : Int) > 1200)))] ?_
   refine xst z2 ?_
   refine xr [] [(2, .bool false)] ?_
   refine SW_ret ?_
   refine xmeg (.bool false) [] ?_
   exact ⟨(), [true], rfl, rfl, zs0⟩
 ·have z1 : decide ((n : Int) > 1200) = true := decide_eq_true (by omega)
  rw [decide_eq_false (fun z => h1 z.1 : ¬ (n ≤ 1200 ∧ n' ≤ 1200))]
  refine xr [] [(2, .bool false)] ?_
  refine SW_seq ?_
  refine xr [] [(7, .int .i64 0), (6, .int .i64 2), (5, .slice (some ⟨g, 0, none⟩) 2 2)] ?_
  refine SW_block ?_
  refine SW_unroll ?_
  refine LW_step ?_
  refine xr [] [(8, .bool true)] ?_
  refine SW_seq ?_
  refine xs1 ?_
  refine SW_skip ?_
  refine SW_seq ?_
  refine SW_block ?_
  refine xr [(1, [0])] [(4, .slice A n c)] ?_
  refine xr [] [(13, .bool (decide ((n : Int) > 1200)))] ?_
  refine xst z1 ?_
  refine xr [] [(2, .bool false)] ?_
  refine SW_ret ?_
  refine xmeg (.bool false) [] ?_
  exact ⟨(), [true], rfl, rfl, zs0⟩
theorem ct_impl_rounding_ratio0 {P : Nat} {emin emax : Int} {W E : Nat} {ex : Bool} (h : Fmt2 P emin emax W E ex) (f : Int) (hf : impl_layoutOf.f f = some ((P : Int), emin, emax, (W : Int), (E : Int), ex, true)) (neg : Bool) (A A' : Option Addr) (c n' c' : Nat) :
  CtV Tryd.prog 133 [rndV P emin emax W E ex f neg, .slice A 0 c, .slice A' n' c'] [Tabled] (.agg #[.int .u64 (hiI (packR P emin emax W E ex 1 neg 0 0).1), .int .u64 (loI (packR P emin emax W E ex 1 neg 0 0).1), .int .i64 0, .bool true]) := by
 have z0 : Zn 0 0 := ⟨rfl, by decide, by decide⟩
 refine ct_of Tryd.func133 rfl (by kernel_rfl) (fun B w0 => ?_)
 refine xg ?_
 refine xb 3 [.int .i64 (P : Int), .int .i64 emin, .int .i64 emax, .int .i64 (W : Int), .int .i64 (E : Int), .bool ex, .int .i64 f, .bool neg] 114 (fun g0 => ?_)
 refine xb 6 [.int .u64 0, .int .u64 0, .int .i64 0, .bool false] 56 (fun g1 => ?_)
 refine xz [] [] ?_
 refine SW_seq ?_
 refine xr [] [(14, .bool true)] ?_
 refine xs1 ?_
 refine xg ?_
 refine xn 1 [(0, [0])] [(15, .agg #[.int .i64 (P : Int), .int .i64 emin, .int .i64 emax, .int .i64 (W : Int), .int .i64 (E : Int), .bool ex, .int .i64 f, .bool neg])] ?_
 refine xcv 16 (ct_impl_rounding_packed' h (f) hf (neg) (1) (0) (0) z0) (zsS zi0 zs0) ?_
 refine xy [(3, [1])] [] [(1, [.int .u64 (hiI (Prod.fst (packR P emin emax W E ex 1 neg 0 0))), .int .u64 (loI (Prod.fst (packR P emin emax W E ex 1 neg 0 0))), .int .i64 0, .bool true])] ?_
 refine SW_ret ?_
 refine xe () (.agg #[.int .u64 (hiI (Prod.fst (packR P emin emax W E ex 1 neg 0 0))), .int .u64 (loI (Prod.fst (packR P emin emax W E ex 1 neg 0 0))), .int .i64 0, .bool true]) [1] ?_ trivial
 rfl
def rndR (P : Nat) (emin emax : Int) (W E : Nat) (ex : Bool) (neg : Bool) (x y m n : Nat) : Value :=
 .agg #[.int .u64 (hiI (roundN P emin emax W E ex neg x y m n).1), .int .u64 (loI (roundN P emin emax W E ex neg x y m n).1), .int .i64 (roundN P emin emax W E ex neg x y m n).2, .bool true]
theorem ct_impl_round {P : Nat} {emin emax : Int} {W E : Nat} {ex : Bool} (h : Fmt2 P emin emax W E ex) (f : Int) (hf : impl_layoutOf.f f = some ((P : Int), emin, emax, (W : Int), (E : Int), ex, true)) (neg : Bool) (x y m n : Nat) (A A' : Option Addr) (c c' : Nat) (hy0 : 0 < y) (hm : IsBits x m) (hn : IsBits y n) (hm1 : m ≤ 80000) (hn1 : n ≤ 80000) :
  CtV Tryd.prog 104 [.int .i64 f, .bool neg, .slice A (ofN B64 x).length c, .slice A' (ofN B64 y).length c'] [Tabled, Row .u64 A c (ofN B64 x), Row .u64 A' c' (ofN B64 y)] (rndR P emin emax W E ex neg x y m n) := by
 refine ct_of Tryd.func104 rfl (by kernel_rfl) (fun B w0 => ?_)
 unfold rndR
 by_cases hx0 : x = 0
 ·subst hx0
  have e : roundN P emin emax W E ex neg 0 y m n = ((packR P emin emax W E ex 1 neg 0 0).1, 0) := if_pos rfl
  rw [e, ofN_nil B64_2]
  dsimp only
  have ct := ct_impl_rounding_ratio0 h f hf neg A A' c (ofN B64 y).length c'
  refine xg ?_
  refine xb 8 [.int .u64 0, .int .u64 0, .int .i64 0, .bool false] 56 (fun g0 => ?_)
  refine xz [] [] ?_
  refine xg ?_
  refine xn 1 [] [(12, .int .i64 f)] ?_
  refine xcv 13 (ct_impl_layoutOf (f) hf) (zsS zi0 zs0) ?_
  refine xn 5 [] [(15, .bool true), (14, .agg #[.int .i64 (P : Int), .int .i64 emin, .int .i64 emax, .int .i64 (W : Int), .int .i64 (E : Int), .bool ex])] ?_
  refine xb 9 [.int .i64 0, .int .i64 0, .int .i64 0, .int .i64 0, .int .i64 0, .bool false] 91 (fun g1 => ?_)
  refine xy [(6, [1])] [] [(1, [.int .i64 (P : Int), .int .i64 emin, .int .i64 emax, .int .i64 (W : Int), .int .i64 (E : Int), .bool ex])] ?_
  refine xg ?_
  refine xn 6 [(0, [1])] [(21, .slice A' (List.length (ofN B64 y)) c'), (20, .slice A 0 c), (19, .agg #[.int .i64 (P : Int), .int .i64 emin, .int .i64 emax, .int .i64 (W : Int), .int .i64 (E : Int), .bool ex, .int .i64 f, .bool neg])] ?_
  refine xcv 22 ct (zsS zi0 zs0) ?_
  refine xy [(7, [0])] [] [(0, [.int .u64 (hiI (Prod.fst (packR P emin emax W E ex 1 neg 0 0))), .int .u64 (loI (Prod.fst (packR P emin emax W E ex 1 neg 0 0))), .int .i64 0, .bool true])] ?_
  refine SW_ret ?_
  refine xe () (.agg #[.int .u64 (hiI (Prod.fst (packR P emin emax W E ex 1 neg 0 0))), .int .u64 (loI (Prod.fst (packR P emin emax W E ex 1 neg 0 0))), .int .i64 0, .bool true]) [0] ?_ trivial
  rfl
 ·have e : roundN P emin emax W E ex neg x y m n = rrW P emin emax W E ex neg (rrSQ P emin x y m n) := if_neg hx0
  have ct := ct_impl_rounding_ratio h f hf neg x y m n A A' c c' (by omega) hy0 hm hn hm1 hn1
  rw [e]
  refine xg ?_
  refine xb 8 [.int .u64 0, .int .u64 0, .int .i64 0, .bool false] 56 (fun g0 => ?_)
  refine xz [] [] ?_
  refine xg ?_
  refine xn 1 [] [(12, .int .i64 f)] ?_
  refine xcv 13 (ct_impl_layoutOf (f) hf) (zsS zi0 zs0) ?_
  refine xn 5 [] [(15, .bool true), (14, .agg #[.int .i64 (P : Int), .int .i64 emin, .int .i64 emax, .int .i64 (W : Int), .int .i64 (E : Int), .bool ex])] ?_
  refine xb 9 [.int .i64 0, .int .i64 0, .int .i64 0, .int .i64 0, .int .i64 0, .bool false] 91 (fun g1 => ?_)
  refine xy [(6, [1])] [] [(1, [.int .i64 (P : Int), .int .i64 emin, .int .i64 emax, .int .i64 (W : Int), .int .i64 (E : Int), .bool ex])] ?_
  refine xg ?_
  refine xn 6 [(0, [1])] [(21, .slice A' (List.length (ofN B64 y)) c'), (20, .slice A (List.length (ofN B64 x)) c), (19, .agg #[.int .i64 (P : Int), .int .i64 emin, .int .i64 emax, .int .i64 (W : Int), .int .i64 (E : Int), .bool ex, .int .i64 f, .bool neg])] ?_
  refine xcv 22 ct (zsS zi0 (zsS (ziS zi0) (zsS (ziS (ziS zi0)) zs0))) ?_
  refine xy [(7, [0])] [] [(0, [.int .u64 (hiI (Prod.fst (rrW P emin emax W E ex neg (rrSQ P emin x y m n)))), .int .u64 (loI (Prod.fst (rrW P emin emax W E ex neg (rrSQ P emin x y m n)))), .int .i64 (Prod.snd (rrW P emin emax W E ex neg (rrSQ P emin x y m n))), .bool true])] ?_
  refine SW_ret ?_
  refine xe () (.agg #[.int .u64 (hiI (Prod.fst (rrW P emin emax W E ex neg (rrSQ P emin x y m n)))), .int .u64 (loI (Prod.fst (rrW P emin emax W E ex neg (rrSQ P emin x y m n)))), .int .i64 (Prod.snd (rrW P emin emax W E ex neg (rrSQ P emin x y m n))), .bool true]) [0] ?_ trivial
  rfl
theorem ct_spec_l1Fits (n c : Nat) (A : Option Addr) (b : Bool) (hb : decide (n ≤ 1200) = b) : CtV Tryd.prog 97 [.slice A n c] [] (.bool b) := by
 subst hb
 refine ct_of Tryd.func97 rfl (by kernel_rfl) (fun B w0 => ?_)
 have e : decide ((n : Int) ≤ 1200) = decide (n ≤ 1200) := by rw [decide_eq_decide]; omega
 refine xr [] [(2, .bool false)] ?_
 refine xr [] [(2, .bool (decide ((n : Int) ≤ 1200)))] ?_
 refine SW_ret ?_
 refine xe () (.bool (decide ((n : Int) ≤ 1200))) [] ?_ trivial
 rw [e]
theorem trim_ofN {a : List Int} (d : Dig B64 a) : trimL a = ofN B64 (val B64 a) := ofN_of B64_2 d.trim (norm_trim a) (val_trim B64 a)
theorem fits_bits {a : List Int} (d : Dig B64 a) (h : a.length ≤ 1200) : ∃ m, IsBits (val B64 a) m ∧ m ≤ 76800 := by
 obtain ⟨m, hm⟩ := bits_ex (val B64 a)
 have h1 := val_lt d
 rw [show B64 = 2 ^ 64 from rfl, ← Nat.pow_mul] at h1
 have h2 := (bits_lt (k := 64 * a.length) hm).2 h1
 exact ⟨m, hm, by omega⟩
end Go.Proofs.YtdbnmdchecacdaaDoor.M
end
section
namespace Go.Proofs.YtdbnmdchecacdaaDoor.M
open Go.RowKit Go.Proofs.YtdbnmdchecacdaaDoor.G Go.Proofs.YtdbnmdchecacdaaDoorV.PrintWords Go.Proofs.YtdbnmdchecacdaaDoorV.PrintLast Go.Proofs.YtdbnmdchecacdaaDoor.X
set_option linter.unusedVariables false
set_option linter.unusedSimpArgs false
theorem len1200 {x m : Nat} (hm : x < 2 ^ m) (h : m ≤ 76800) : (ofN B64 x).length ≤ 1200 := by
 obtain ⟨k, hk⟩ : ∃ k : Nat, k = 1200 := ⟨_, rfl⟩
 have h1 : x < B64 ^ k := by
  rw [show B64 = 2 ^ 64 from rfl, ← Nat.pow_mul]
  exact Nat.lt_of_lt_of_le hm (Nat.pow_le_pow_right (by decide) (by omega))
 have := ofN_len B64_2 h1
 omega
theorem ct_spec_NatShift (x n m : Nat) (a : Int) (ha : Nn a n) (hn : n ≤ 80000) (A : Option Addr) (c : Nat) (hm : x < 2 ^ m) (hm1 : m ≤ 76800) : CtR Tryd.prog 41 [.slice A (ofN B64 x).length c, .int .i64 a] [Row .u64 A c (ofN B64 x)] .u64 (ofN B64 (x * 2 ^ n)) := by
 obtain ⟨rfl⟩ := ha
 have hl := len1200 hm hm1
 have fl := decide_eq_true hl
 have sx' : Sm x := Sm.of hm (by omega)
 have sx2 : Sm (x * 2 ^ n) := Sm.of (k := m + n) (by rw [Nat.pow_add]; exact Nat.mul_lt_mul_of_pos_right hm (Nat.pow_pos (by decide))) (by omega)
 have z1 : decide ((n : Int) > 80000) = false := decide_eq_false (by omega)
 have z2 : decide ((n : Int) < -80000) = false := decide_eq_false (by omega)
 have z3 : decide ((n : Int) ≥ 0) = true := decide_eq_true (by omega)
 refine ct_of Tryd.func41 rfl (by kernel_rfl) (fun B w0 => ?_)
 refine xr [] [(4, .slice none 0 0)] ?_
 refine SW_seq ?_
 refine xg ?_
 refine xn 1 [] [(5, .slice A (List.length (ofN B64 x)) c)] ?_
 refine xcv 6 (ct_spec_l1Fits (List.length (ofN B64 x)) (c) (A) (true) fl) zs0 ?_
 refine xn 8 [] [(12, .bool (decide ((n : Int) > 80000)))] ?_
 refine xkf 12 z1 ?_
 refine xz [] [(15, .bool (decide ((n : Int) < -80000)))] ?_
 refine xsf z2 ?_
 refine SW_skip ?_
 refine SW_seq ?_
 refine xr [] [(17, .bool (decide ((n : Int) ≥ 0)))] ?_
 refine xst z3 ?_
 refine xg ?_
 refine xn 1 [] [(18, .slice A (List.length (ofN B64 x)) c)] ?_
 refine xcr 19 (ct_spec_l1In (x) (A) (c) sx') (zsS zi0 zs0) (fun A0 k0 => ?_)
 refine xn 3 [] [(20, .int .i64 (n : Int))] ?_
 refine xcr 21 (ct_spec_l1Left (x) (A0) (k0) ((n : Int)) (n) ⟨rfl⟩ (by omega) sx') (zsS zi0 zs0) (fun A1 k1 => ?_)
 refine xcr 22 (ct_spec_l1Out (x * 2 ^ n) (A1) (k1) sx2) (zsS zi0 zs0) (fun A2 k2 => ?_)
 refine xz [] [(4, .slice A2 (List.length (ofN B64 (x * 2 ^ n))) k2)] ?_
 refine SW_ret ?_
 refine xe (A2, k2) (.slice A2 (List.length (ofN B64 (x * 2 ^ n))) k2) [] ?_ (zsS zi0 zs0)
 rfl
theorem ct_spec_NatSub (x y : Nat) (a b : List Int) (da : Dig B64 a) (db : Dig B64 b) (la : a.length ≤ 1200) (lb : b.length ≤ 1200) (ea : val B64 a = x) (eb : val B64 b = y) (h : y ≤ x) (A A' : Option Addr) (c c' : Nat) : CtRV Tryd.prog 42 [.slice A a.length c, .slice A' b.length c'] [Row .u64 A c a, Row .u64 A' c' b] .u64 (ofN B64 (x - y)) (.bool true) := by
 have fa := decide_eq_true la
 have fb := decide_eq_true lb
 obtain ⟨d1, n1, v1⟩ := ofN_spec B32_2 x
 obtain ⟨d2, n2, v2⟩ := ofN_spec B32_2 y
 have sx' : Sm x := by
  obtain ⟨m, hm, hm1⟩ := fits_bits da la
  rw [ea] at hm
  exact Sm.of hm.1 (by omega)
 have sy : Sm y := sx'.mono h
 have sxy : Sm (x - y) := sx'.mono (Nat.sub_le _ _)
 have ca := ct_spec_l1In_rows a A c da (by omega) _ d1 n1 (by rw [v1, ea])
 have cb := ct_spec_l1In_rows b A' c' db (by omega) _ d2 n2 (by rw [v2, eb])
 have z1 : decide (cmpN x y < 0) = false := by rw [cmpN_neg]; exact decide_eq_false (by omega)
 refine ct_of Tryd.func42 rfl (by kernel_rfl) (fun B w0 => ?_)
 refine xr [] [(5, .bool false), (4, .slice none 0 0)] ?_
 refine SW_seq ?_
 refine xg ?_
 refine xn 1 [] [(6, .slice A (List.length a) c)] ?_
 refine xcv 7 (ct_spec_l1Fits (List.length a) (c) (A) (true) fa) zs0 ?_
 refine xn 5 [] [(10, .slice A' (List.length b) c'), (9, .bool false)] ?_
 refine xcv 11 (ct_spec_l1Fits (List.length b) (c') (A') (true) fb) zs0 ?_
 refine xn 10 [] [(15, .slice A (List.length a) c), (14, .bool false)] ?_
 refine xcr 16 ca (zsS zi0 zs0) (fun A0 k0 => ?_)
 refine xn 12 [] [(17, .slice A' (List.length b) c')] ?_
 refine xcr 18 cb (zsS (ziS (ziS zi0)) zs0) (fun A1 k1 => ?_)
 refine xcv 19 (ct_spec_l1Cmp (x) (y) (A0) (A1) (k0) (k1) sx' sy) (zsS (ziS zi0) (zsS zi0 zs0)) ?_
 refine xz [] [(21, .bool (decide (cmpN x y < 0)))] ?_
 refine xsf z1 ?_
 refine SW_skip ?_
 refine xg ?_
 refine xn 1 [] [(22, .slice A (List.length a) c)] ?_
 refine xcr 23 ca (zsS (ziS (ziS zi0)) zs0) (fun A2 k2 => ?_)
 refine xn 3 [] [(24, .slice A' (List.length b) c')] ?_
 refine xcr 25 cb (zsS (ziS (ziS (ziS (ziS zi0)))) zs0) (fun A3 k3 => ?_)
 refine xcr 26 (ct_spec_l1Sub (x) (y) (A2) (A3) (k2) (k3) sx' h) (zsS (ziS zi0) (zsS zi0 zs0)) (fun A4 k4 => ?_)
 refine xcr 27 (ct_spec_l1Out (x - y) (A4) (k4) sxy) (zsS zi0 zs0) (fun A5 k5 => ?_)
 refine xz [] [(5, .bool true), (4, .slice A5 (List.length (ofN B64 (x - y))) k5)] ?_
 refine SW_ret ?_
 refine xe (A5, k5) (.tuple #[.slice A5 (List.length (ofN B64 (x - y))) k5, .bool true]) [] ?_ (zsS zi0 zs0)
 rfl
theorem ct_spec_NatAdd (x y : Nat) (a b : List Int) (da : Dig B64 a) (db : Dig B64 b) (la : a.length ≤ 1200) (lb : b.length ≤ 1200) (ea : val B64 a = x) (eb : val B64 b = y) (A A' : Option Addr) (c c' : Nat) : CtR Tryd.prog 43 [.slice A a.length c, .slice A' b.length c'] [Row .u64 A c a, Row .u64 A' c' b] .u64 (ofN B64 (x + y)) := by
 have fa := decide_eq_true la
 have fb := decide_eq_true lb
 obtain ⟨d1, n1, v1⟩ := ofN_spec B32_2 x
 obtain ⟨d2, n2, v2⟩ := ofN_spec B32_2 y
 obtain ⟨m, hm, hm1⟩ := fits_bits da la
 obtain ⟨n, hn, hn1⟩ := fits_bits db lb
 rw [ea] at hm
 rw [eb] at hn
 have sx' : Sm x := Sm.of hm.1 (by omega)
 have sy : Sm y := Sm.of hn.1 (by omega)
 obtain ⟨k, hk⟩ : ∃ k : Nat, k = 76800 := ⟨_, rfl⟩
 have sxy : Sm (x + y) := Sm.of (k := k + 1) (by
  have h1 := Nat.pow_le_pow_right (n := 2) (by decide) (show m ≤ k by omega)
  have h2 := Nat.pow_le_pow_right (n := 2) (by decide) (show n ≤ k by omega)
  have h3 := hm.1
  have h4 := hn.1
  rw [Nat.pow_succ]
  omega) (by omega)
 have ca := ct_spec_l1In_rows a A c da (by omega) _ d1 n1 (by rw [v1, ea])
 have cb := ct_spec_l1In_rows b A' c' db (by omega) _ d2 n2 (by rw [v2, eb])
 refine ct_of Tryd.func43 rfl (by kernel_rfl) (fun B w0 => ?_)
 refine xr [] [(4, .slice none 0 0)] ?_
 refine SW_seq ?_
 refine xg ?_
 refine xn 1 [] [(5, .slice A (List.length a) c)] ?_
 refine xcv 6 (ct_spec_l1Fits (List.length a) (c) (A) (true) fa) zs0 ?_
 refine xn 5 [] [(9, .slice A' (List.length b) c'), (8, .bool false)] ?_
 refine xcv 10 (ct_spec_l1Fits (List.length b) (c') (A') (true) fb) zs0 ?_
 refine xz [] [(12, .bool false)] ?_
 refine xs0 ?_
 refine SW_skip ?_
 refine xg ?_
 refine xn 1 [] [(13, .slice A (List.length a) c)] ?_
 refine xcr 14 ca (zsS zi0 zs0) (fun A0 k0 => ?_)
 refine xn 3 [] [(15, .slice A' (List.length b) c')] ?_
 refine xcr 16 cb (zsS (ziS (ziS zi0)) zs0) (fun A1 k1 => ?_)
 refine xcr 17 (ct_spec_l1Add (x) (y) (A0) (A1) (k0) (k1) sx' sy) (zsS (ziS zi0) (zsS zi0 zs0)) (fun A2 k2 => ?_)
 refine xcr 18 (ct_spec_l1Out (x + y) (A2) (k2) sxy) (zsS zi0 zs0) (fun A3 k3 => ?_)
 refine xz [] [(4, .slice A3 (List.length (ofN B64 (x + y))) k3)] ?_
 refine SW_ret ?_
 refine xe (A3, k3) (.slice A3 (List.length (ofN B64 (x + y))) k3) [] ?_ (zsS zi0 zs0)
 rfl
theorem fd_rng {P : Nat} {emin emax : Int} {W E : Nat} {ex : Bool} {f : Int} (d : FD f P emin emax W E ex) : 0 ≤ f ∧ f < 4 := by
 rcases fd_or f with ⟨h, _⟩ | ⟨_, _, hl⟩
 ·exact h
 ·rw [d.lf] at hl
  simp at hl
theorem ct_impl_RoundRatio {P : Nat} {emin emax : Int} {W E : Nat} {ex : Bool} {f : Int} (d : FD f P emin emax W E ex) (neg : Bool) (x y m n : Nat) (A A' : Option Addr) (c c' : Nat) (hy0 : 0 < y) (hm : IsBits x m) (hn : IsBits y n) (hm1 : m ≤ 76800) (hn1 : n ≤ 76800) :
  CtV Tryd.prog 37 [.int .i64 f, .bool neg, .slice A (ofN B64 x).length c, .slice A' (ofN B64 y).length c'] [Tabled, Row .u64 A c (ofN B64 x), Row .u64 A' c' (ofN B64 y)] (rndR P emin emax W E ex neg x y m n) := by
 have cf := ct_impl_isFormat f true (decide_eq_true (fd_rng d))
 have h := d.h
 have hf := d.lf
 have la := len1200 hm.1 hm1
 have lb := len1200 hn.1 hn1
 have fab := decide_eq_true (⟨la, lb⟩ : (ofN B64 x).length ≤ 1200 ∧ (ofN B64 y).length ≤ 1200)
 have ta : trimL (ofN B64 x) = ofN B64 x := by
  have := trim_ofN (ofN_spec B64_2 x).1
  rwa [(ofN_spec B64_2 x).2.2] at this
 have tb : trimL (ofN B64 y) = ofN B64 y := by
  have := trim_ofN (ofN_spec B64_2 y).1
  rwa [(ofN_spec B64_2 y).2.2] at this
 have ja := ct_impl_trimmed (ofN B64 x) A c (by omega)
 have jb := ct_impl_trimmed (ofN B64 y) A' c' (by omega)
 rw [ta] at ja
 rw [tb] at jb
 have zy : (((ofN B64 y).length : Int) == 0) = false := by rw [beq_eq_false_iff_ne]; intro h9; exact absurd ((ofN_zero B64_2 y).1 (by omega)) (by omega)
 have hm2 : m ≤ 80000 := by omega
 have hn2 : n ≤ 80000 := by omega
 refine ct_of Tryd.func37 rfl (by kernel_rfl) (fun B w0 => ?_)
 refine xg ?_
 refine xb 8 [.int .u64 0, .int .u64 0, .int .i64 0, .bool false] 56 (fun g0 => ?_)
 refine xz [] [] ?_
 refine SW_seq ?_
 refine xg ?_
 refine xn 1 [] [(9, .int .i64 f)] ?_
 refine xcv 10 cf zs0 ?_
 refine xn 6 [] [(14, .slice A' (List.length (ofN B64 y)) c'), (13, .slice A (List.length (ofN B64 x)) c), (12, .bool false)] ?_
 refine xbl 15 [.slice A (List.length (ofN B64 x)) c, .slice A' (List.length (ofN B64 y)) c'] 41 2 (fun g1 => ?_)
 refine xcm 16 [false, true] (ct_impl_short (g1) (List.length (ofN B64 x)) (List.length (ofN B64 y)) (c) (c') (A) (A') (true) fab) zs0 (fun z0 => ?_)
 refine xn 12 [] [(20, .slice A' (List.length (ofN B64 y)) c'), (19, .bool false)] ?_
 refine xcr 21 jb (zsS (ziS (ziS zi0)) zs0) (fun A0 k0 => ?_)
 refine xz [] [(24, .bool ((((List.length (ofN B64 y)) : Nat) : Int) == 0))] ?_
 refine xsf zy ?_
 refine SW_skip ?_
 refine xg ?_
 refine xn 3 [] [(28, .slice A (List.length (ofN B64 x)) c), (27, .bool neg), (26, .int .i64 f)] ?_
 refine xcr 29 ja (zsS (ziS (ziS zi0)) zs0) (fun A1 k1 => ?_)
 refine xn 5 [] [(30, .slice A' (List.length (ofN B64 y)) c')] ?_
 refine xcr 31 jb (zsS (ziS (ziS (ziS (ziS zi0)))) zs0) (fun A2 k2 => ?_)
 refine xcv 32 (ct_impl_round h (f) hf (neg) (x) (y) (m) (n) (A1) (A2) (k1) (k2) hy0 hm hn hm2 hn2) (zsS (ziS (ziS (ziS zi0))) (zsS (ziS zi0) (zsS zi0 zs0))) ?_
 refine xy [(7, [0])] [] [(0, [.int .u64 (hiI (Prod.fst (roundN P emin emax W E ex neg x y m n))), .int .u64 (loI (Prod.fst (roundN P emin emax W E ex neg x y m n))), .int .i64 (Prod.snd (roundN P emin emax W E ex neg x y m n)), .bool true])] ?_
 refine SW_ret ?_
 refine xe () (.agg #[.int .u64 (hiI (Prod.fst (roundN P emin emax W E ex neg x y m n))), .int .u64 (loI (Prod.fst (roundN P emin emax W E ex neg x y m n))), .int .i64 (Prod.snd (roundN P emin emax W E ex neg x y m n)), .bool true]) [0] ?_ trivial
 rfl
end Go.Proofs.YtdbnmdchecacdaaDoor.M
end
section
namespace Go.Proofs.YtdbnmdchecacdaaDoor.M
open Go.RowKit Go.Proofs.YtdbnmdchecacdaaDoor.G Go.Proofs.YtdbnmdchecacdaaDoorV.PrintWords Go.Proofs.YtdbnmdchecacdaaDoorV.PrintLast Go.Proofs.YtdbnmdchecacdaaDoor.X
set_option linter.unusedVariables false
set_option linter.unusedSimpArgs false
def lo4 (P : Nat) (emin : Int) (S : Nat) (q : Int) : Nat := if S = 2 ^ (P - 1) ∧ emin - P + 1 < q then S * 2 ^ 2 - 1 else S * 2 ^ 2 - 2
def hi4 (S : Nat) : Nat := S * 2 ^ 2 + 2
def bndN (P : Nat) (emin : Int) (S : Nat) (q : Int) : Nat × Nat × Nat :=
 if 2 ≤ q then (lo4 P emin S q * 2 ^ (q - 2).toNat, hi4 S * 2 ^ (q - 2).toNat, 1) else (lo4 P emin S q, hi4 S, 2 ^ (2 - q).toNat)
abbrev R3 : Type := (Option Addr × Nat) × (Option Addr × Nat) × (Option Addr × Nat)
theorem ct_spec_l2Span {P : Nat} {emin emax : Int} {W E : Nat} {ex : Bool} {f : Int} (d : FD f P emin emax W E ex) (c : Int) (neg : Bool) (S : Nat) (q : Int) (hv : VP P emin emax c S q) (hc : c = 2 ∨ c = 3) (u : Nat × Nat × Nat) (hu : bndN P emin S q = u) :
  Ct Tryd.prog 81 [.int .i64 f, .agg #[.int .i64 c, .bool neg, .int .u64 (hiI S), .int .u64 (loI S), .int .i64 q]] [] (γ := R3) (fun p => .tuple #[.slice p.1.1 (ofN B32 u.1).length p.1.2, .slice p.2.1.1 (ofN B32 u.2.1).length p.2.1.2, .slice p.2.2.1 (ofN B32 u.2.2).length p.2.2.2]) (fun p => [Row .u64 p.1.1 p.1.2 (ofN B32 u.1), Row .u64 p.2.1.1 p.2.1.2 (ofN B32 u.2.1), Row .u64 p.2.2.1 p.2.2.2 (ofN B32 u.2.2)]) := by
 subst hu
 have h := d.h
 have hF := h.toFmt
 have hs := d.sf
 have p0 := h.p0
 have p1 := h.p1
 have p3 := h.p3
 have m0 := h.m0
 have m1 := h.m1
 have b128 : 2 ^ P < B128 := Nat.pow_lt_pow_right (a := 2) (n := 128) (by decide) (by omega)
 have t2 := two_P hF
 have hb : (0 < S ∧ S < 2 ^ P) ∧ emin - P + 1 ≤ q ∧ q ≤ emax - P + 1 ∧ (c = 2 → S < 2 ^ (P - 1)) := by
  have hx2 := h.mn
  have hx3 := d.x1
  have hp := Nat.pow_pos (n := P - 1) (show 0 < 2 by decide)
  rcases hv with ⟨rfl, _⟩ | ⟨rfl, _⟩ | ⟨_, h1, h2, rfl⟩ | ⟨_, h1, h2, h3, h4⟩
  ·omega
  ·omega
  ·omega
  ·omega
 obtain ⟨⟨bS0, bS1⟩, bq0, bq1, bS2⟩ := hb
 have bS : S < B128 := by omega
 have p113 : 2 ^ P ≤ 2 ^ 113 := Nat.pow_le_pow_right (by decide) p1
 have sS : Sm S := sm128 (Nat.lt_trans bS (by decide))
 have e4 : S * 2 ^ 2 = 4 * S := by omega
 have sF : Sm (S * 2 ^ 2) := Sm.of (k := 116) (by omega) (by decide)
 have sH : Sm (S * 2 ^ 2 + 2) := Sm.of (k := 116) (by omega) (by decide)
 have s2 : Sm 2 := Sm.of (k := 2) (by decide) (by decide)
 have s1 : Sm 1 := Sm.of (k := 1) (by decide) (by decide)
 have l2 : 2 ≤ S * 2 ^ 2 := by omega
 have l1 : 1 ≤ S * 2 ^ 2 := by omega
 have v1 : Ve (IntKind.i64.wrap ((P : Int) - 1)) ((P - 1 : Nat) : Int) := ⟨by rw [wrap_i64 (by omega)]; omega⟩
 have w1 : Ve (IntKind.i64.wrap (emin - (P : Int))) (emin - (P : Int)) := ⟨wrap_i64 (by omega)⟩
 have w2 : Ve (IntKind.i64.wrap (emin - (P : Int) + 1)) (emin - (P : Int) + 1) := ⟨wrap_i64 (by omega)⟩
 have w3 : Ve (IntKind.i64.wrap (q - 2)) (q - 2) := ⟨wrap_i64 (by omega)⟩
 have sP1 : Sm (2 ^ (P - 1)) := sm128 (Nat.lt_of_le_of_lt (Nat.pow_le_pow_right (by decide) (by omega)) (Nat.lt_trans b128 (by decide)))
 have ec : cmpN S (2 ^ (P - 1)) = 0 ↔ S = 2 ^ (P - 1) := by
  unfold cmpN
  split
  ·constructor <;> intro z <;> omega
  ·split
   ·constructor <;> intro z <;> omega
   ·constructor <;> intro z <;> omega
 obtain ⟨L, hL⟩ : ∃ L, lo4 P emin S q = L := ⟨_, rfl⟩
 have sL : Sm L := by rw [← hL]; unfold lo4; split <;> exact sF.mono (by omega)
 have hL3 : L < 2 ^ 116 := by rw [← hL]; unfold lo4; split <;> omega
 refine ct_of Tryd.func81 rfl (by kernel_rfl) (fun B w0 => ?_)
 refine xg ?_
 refine xb 3 [.int .i64 c, .bool neg, .int .u64 (hiI S), .int .u64 (loI S), .int .i64 q] 27 (fun g0 => ?_)
 refine xz [] [(6, .slice none 0 0), (5, .slice none 0 0), (4, .slice none 0 0)] ?_
 refine xg ?_
 refine xn 1 [] [(12, .int .i64 f)] ?_
 refine xcv 13 (ct_spec_Describe (f) hs) zs0 ?_
 refine xb 7 [.int .i64 0, .int .i64 0, .int .i64 0, .int .i64 0, .int .i64 0, .bool false] 83 (fun g1 => ?_)
 refine xy [(3, [1])] [] [(1, [.int .i64 (P : Int), .int .i64 emin, .int .i64 emax, .int .i64 (W : Int), .int .i64 (E : Int), .bool ex])] ?_
 refine xg ?_
 refine xn 2 [(1, [0])] [(15, .agg #[.int .u64 (hiI S), .int .u64 (loI S)])] ?_
 refine xcr 16 (ct_spec_l2Of (S) bS) zs0 (fun A0 k0 => ?_)
 refine xcr 17 (ct_spec_l1Left (S) (A0) (k0) (2) (2) ⟨rfl⟩ (by omega) sS) (zsS zi0 zs0) (fun A1 k1 => ?_)
 refine xz [] [(8, .slice A1 (List.length (ofN B32 (S * 2 ^ 2))) k1)] ?_
 refine xg ?_
 refine xn 1 [] [(18, .slice A1 (List.length (ofN B32 (S * 2 ^ 2))) k1)] ?_
 refine xcr 19 (ct_spec_l1Of (2) (2) ⟨rfl⟩ (by omega)) zs0 (fun A2 k2 => ?_)
 refine xcr 20 (ct_spec_l1Add (S * 2 ^ 2) (2) (A1) (A2) (k1) (k2) sF s2) (zsS (ziS zi0) (zsS zi0 zs0)) (fun A3 k3 => ?_)
 refine xz [] [(9, .slice A3 (List.length (ofN B32 (S * 2 ^ 2 + 2))) k3)] ?_
 refine xg ?_
 refine xn 1 [] [(21, .slice A1 (List.length (ofN B32 (S * 2 ^ 2))) k1)] ?_
 refine xcr 22 (ct_spec_l1Of (2) (2) ⟨rfl⟩ (by omega)) zs0 (fun A4 k4 => ?_)
 refine xcr 23 (ct_spec_l1Sub (S * 2 ^ 2) (2) (A1) (A4) (k1) (k4) sF l2) (zsS (ziS (ziS (ziS zi0))) (zsS zi0 zs0)) (fun A5 k5 => ?_)
 refine xz [] [(10, .slice A5 (List.length (ofN B32 (S * 2 ^ 2 - 2))) k5)] ?_
 refine SW_cut (fun s' => ∃ (A1 A2 : Option Addr) (c1 c2 : Nat), Weak2 s' ⟨[(3, .pointer (some ⟨g0, 0, none⟩)), (9, .slice A1 (ofN B32 (S * 2 ^ 2 + 2)).length c1), (10, .slice A2 (ofN B32 L).length c2)], [⟨g0, [.int .i64 c, .bool neg, .int .u64 (hiI S), .int .u64 (loI S), .int .i64 q], 27⟩], [Row .u64 A1 c1 (ofN B32 (S * 2 ^ 2 + 2)), Row .u64 A2 c2 (ofN B32 L)]⟩) ?_ ?_
 ·by_cases hc3 : c = 3
  ·have z1 : (c == 3) = true := by rw [beq_iff_eq]; exact hc3
   by_cases hS : S = 2 ^ (P - 1)
   ·have z2 : (cmpN S (2 ^ (P - 1)) == 0) = true := by rw [beq_iff_eq]; exact ec.2 hS
    by_cases hq : q > emin - (P : Int) + 1
    ·have z3 : decide (q > emin - (P : Int) + 1) = true := decide_eq_true hq
     have e : L = S * 2 ^ 2 - 1 := by rw [← hL]; unfold lo4; rw [if_pos ⟨hS, hq⟩]
     rw [e]
     refine xd (fun hB => ?_)
     refine xdk [(0, []), (1, [0]), (2, []), (3, [])] [(27, .bool (c == 3))] hB ?_
     refine xdnt 27 z1 ?_
     refine xdk [(4, []), (5, [0]), (7, []), (8, [1])] [(32, .int .i64 (P : Int)), (29, .agg #[.int .u64 (hiI S), .int .u64 (loI S)])] hB ?_
     refine xdve 9 hB 33 IntKind.i64 (IntKind.wrap IntKind.i64 ((P : Int) - 1)) ((((P - 1) : Nat) : Int)) v1 ?_
     refine xdr 6 30 (ct_spec_l2Of (S) bS) zs0 (fun A6 k6 => ?_)
     refine xdr 10 34 (ct_spec_l2Two ((((P - 1) : Nat) : Int)) (P - 1) ⟨rfl⟩ (by omega)) zs0 (fun A7 k7 => ?_)
     refine xdv 11 35 (ct_spec_l1Cmp (S) (2 ^ (P - 1)) (A6) (A7) (k6) (k7) sS sP1) (zsS (ziS zi0) (zsS zi0 zs0)) ?_
     refine xdk [(12, []), (13, []), (14, [])] [(38, .bool (cmpN S (2 ^ (P - 1)) == 0))] hB ?_
     refine xdnt 38 z2 ?_
     refine xdk [(15, []), (16, [0]), (17, []), (18, [1]), (19, []), (20, [1])] [(44, .int .i64 (P : Int)), (42, .int .i64 emin), (40, .int .i64 q)] hB ?_
     refine xdve 21 hB 45 IntKind.i64 (IntKind.wrap IntKind.i64 (emin - (P : Int))) (emin - (P : Int)) w1 ?_
     refine xdve 22 hB 46 IntKind.i64 (IntKind.wrap IntKind.i64 (emin - (P : Int) + 1)) (emin - (P : Int) + 1) w2 ?_
     refine xdk [(23, []), (24, [])] [(48, .bool (decide (q > emin - (P : Int) + 1)))] hB ?_
     refine xdz ?_
     refine xst z3 ?_
     refine SW_region ?_
     refine xn 1 [] [(49, .slice A1 (List.length (ofN B32 (S * 2 ^ 2))) k1)] ?_
     refine xcr 50 (ct_spec_l1Of (1) (1) ⟨rfl⟩ (by omega)) zs0 (fun A8 k8 => ?_)
     refine xcr 51 (ct_spec_l1Sub (S * 2 ^ 2) (1) (A1) (A8) (k1) (k8) sF l1) (zsS (ziS (ziS (ziS (ziS (ziS (ziS (ziS zi0))))))) (zsS zi0 zs0)) (fun A9 k9 => ?_)
     refine xz [] [(10, .slice A9 (List.length (ofN B32 (S * 2 ^ 2 - 1))) k9)] ?_
     refine ⟨(A3), (A9), (k3), (k9), xw2 [true] (zsS (ziS (ziS (ziS (ziS (ziS (ziS zi0)))))) (zsS zi0 zs0))⟩
    ·have z3 : decide (q > emin - (P : Int) + 1) = false := decide_eq_false hq
     have e : L = S * 2 ^ 2 - 2 := by rw [← hL]; unfold lo4; rw [if_neg (fun z => hq z.2)]
     rw [e]
     refine xd (fun hB => ?_)
     refine xdk [(0, []), (1, [0]), (2, []), (3, [])] [(27, .bool (c == 3))] hB ?_
     refine xdnt 27 z1 ?_
     refine xdk [(4, []), (5, [0]), (7, []), (8, [1])] [(32, .int .i64 (P : Int)), (29, .agg #[.int .u64 (hiI S), .int .u64 (loI S)])] hB ?_
     refine xdve 9 hB 33 IntKind.i64 (IntKind.wrap IntKind.i64 ((P : Int) - 1)) ((((P - 1) : Nat) : Int)) v1 ?_
     refine xdr 6 30 (ct_spec_l2Of (S) bS) zs0 (fun A6 k6 => ?_)
     refine xdr 10 34 (ct_spec_l2Two ((((P - 1) : Nat) : Int)) (P - 1) ⟨rfl⟩ (by omega)) zs0 (fun A7 k7 => ?_)
     refine xdv 11 35 (ct_spec_l1Cmp (S) (2 ^ (P - 1)) (A6) (A7) (k6) (k7) sS sP1) (zsS (ziS zi0) (zsS zi0 zs0)) ?_
     refine xdk [(12, []), (13, []), (14, [])] [(38, .bool (cmpN S (2 ^ (P - 1)) == 0))] hB ?_
     refine xdnt 38 z2 ?_
     refine xdk [(15, []), (16, [0]), (17, []), (18, [1]), (19, []), (20, [1])] [(44, .int .i64 (P : Int)), (42, .int .i64 emin), (40, .int .i64 q)] hB ?_
     refine xdve 21 hB 45 IntKind.i64 (IntKind.wrap IntKind.i64 (emin - (P : Int))) (emin - (P : Int)) w1 ?_
     refine xdve 22 hB 46 IntKind.i64 (IntKind.wrap IntKind.i64 (emin - (P : Int) + 1)) (emin - (P : Int) + 1) w2 ?_
     refine xdk [(23, []), (24, [])] [(48, .bool (decide (q > emin - (P : Int) + 1)))] hB ?_
     refine xdz ?_
     refine xsf z3 ?_
     refine SW_skip ?_
     refine ⟨(A3), (A5), (k3), (k5), xw2 [true] (zsS (ziS (ziS (ziS (ziS zi0)))) (zsS (ziS (ziS zi0)) zs0))⟩
   ·have z2 : (cmpN S (2 ^ (P - 1)) == 0) = false := by rw [beq_eq_false_iff_ne]; exact fun z => hS (ec.1 z)
    have e : L = S * 2 ^ 2 - 2 := by rw [← hL]; unfold lo4; rw [if_neg (fun z => hS z.1)]
    rw [e]
    refine xd (fun hB => ?_)
    refine xdk [(0, []), (1, [0]), (2, []), (3, [])] [(27, .bool (c == 3))] hB ?_
    refine xdnt 27 z1 ?_
    refine xdk [(4, []), (5, [0]), (7, []), (8, [1])] [(32, .int .i64 (P : Int)), (29, .agg #[.int .u64 (hiI S), .int .u64 (loI S)])] hB ?_
    refine xdve 9 hB 33 IntKind.i64 (IntKind.wrap IntKind.i64 ((P : Int) - 1)) ((((P - 1) : Nat) : Int)) v1 ?_
    refine xdr 6 30 (ct_spec_l2Of (S) bS) zs0 (fun A6 k6 => ?_)
    refine xdr 10 34 (ct_spec_l2Two ((((P - 1) : Nat) : Int)) (P - 1) ⟨rfl⟩ (by omega)) zs0 (fun A7 k7 => ?_)
    refine xdv 11 35 (ct_spec_l1Cmp (S) (2 ^ (P - 1)) (A6) (A7) (k6) (k7) sS sP1) (zsS (ziS zi0) (zsS zi0 zs0)) ?_
    refine xdk [(12, []), (13, []), (14, [])] [(38, .bool (cmpN S (2 ^ (P - 1)) == 0))] hB ?_
    refine xdnf 38 z2 ?_
    refine xdk [(15, []), (16, []), (17, []), (18, []), (19, []), (20, []), (21, []), (22, []), (23, []), (24, [])] [(48, .bool false)] hB ?_
    refine xdz ?_
    refine xs0 ?_
    refine SW_skip ?_
    refine ⟨(A3), (A5), (k3), (k5), xw2 [true] (zsS (ziS (ziS (ziS (ziS zi0)))) (zsS (ziS (ziS zi0)) zs0))⟩
  ·have z1 : (c == 3) = false := by rw [beq_eq_false_iff_ne]; exact hc3
   have e : L = S * 2 ^ 2 - 2 := by rw [← hL]; unfold lo4; rw [if_neg (fun z => by have := bS2 (by omega); omega)]
   rw [e]
   refine xd (fun hB => ?_)
   refine xdk [(0, []), (1, [0]), (2, []), (3, [])] [(27, .bool (c == 3))] hB ?_
   refine xdnf 27 z1 ?_
   refine xdk [(4, []), (5, []), (6, []), (7, []), (8, []), (9, []), (10, []), (11, []), (12, []), (13, []), (14, []), (15, []), (16, []), (17, []), (18, []), (19, []), (20, []), (21, []), (22, []), (23, []), (24, [])] [(48, .bool false)] hB ?_
   refine xdz ?_
   refine xs0 ?_
   refine SW_skip ?_
   refine ⟨(A3), (A5), (k3), (k5), xw2 [true] (zsS (ziS (ziS zi0)) (zsS zi0 zs0))⟩
 ·rintro s' ⟨A1, A2, c1, c2, hw⟩
  refine SW_weak2 hw ?_
  clear hw
  by_cases hq2 : 2 ≤ q
  ·have z4 : decide (q - 2 ≥ 0) = true := decide_eq_true (by omega)
   have hN : Nn (q - 2) (q - 2).toNat := ⟨by omega⟩
   have e : bndN P emin S q = (L * 2 ^ (q - 2).toNat, (S * 2 ^ 2 + 2) * 2 ^ (q - 2).toNat, 1) := by unfold bndN hi4; rw [if_pos hq2, hL]
   rw [e]
   refine xg ?_
   refine xn 2 [(1, [0])] [(53, .int .i64 q)] ?_
   refine xve 54 IntKind.i64 (IntKind.wrap IntKind.i64 (q - 2)) (q - 2) w3 ?_
   refine xz [] [(11, .int .i64 (q - 2))] ?_
   refine SW_seq ?_
   refine xr [] [(56, .bool (decide (q - 2 ≥ 0)))] ?_
   refine xst z4 ?_
   refine xg ?_
   refine xn 2 [] [(58, .int .i64 (q - 2)), (57, .slice A2 (List.length (ofN B32 L)) c2)] ?_
   refine xcr 59 (ct_spec_l1Left (L) (A2) (c2) (q - 2) (Int.toNat (q - 2)) hN (by omega) sL) (zsS (ziS zi0) zs0) (fun A6 k6 => ?_)
   refine xn 5 [] [(61, .int .i64 (q - 2)), (60, .slice A1 (List.length (ofN B32 (S * 2 ^ 2 + 2))) c1)] ?_
   refine xcr 62 (ct_spec_l1Left (S * 2 ^ 2 + 2) (A1) (c1) (q - 2) (Int.toNat (q - 2)) hN (by omega) sH) (zsS (ziS zi0) zs0) (fun A7 k7 => ?_)
   refine xcr 63 (ct_spec_l1Of (1) (1) ⟨rfl⟩ (by omega)) zs0 (fun A8 k8 => ?_)
   refine xz [] [(6, .slice A8 (List.length (ofN B32 1)) k8), (5, .slice A7 (List.length (ofN B32 ((S * 2 ^ 2 + 2) * 2 ^ Int.toNat (q - 2)))) k7), (4, .slice A6 (List.length (ofN B32 (L * 2 ^ Int.toNat (q - 2)))) k6)] ?_
   refine SW_ret ?_
   refine xe ((A6, k6), (A7, k7), A8, k8) (.tuple #[.slice A6 (List.length (ofN B32 (L * 2 ^ Int.toNat (q - 2)))) k6, .slice A7 (List.length (ofN B32 ((S * 2 ^ 2 + 2) * 2 ^ Int.toNat (q - 2)))) k7, .slice A8 (List.length (ofN B32 1)) k8]) [] ?_ (zsS (ziS (ziS zi0)) (zsS (ziS zi0) (zsS zi0 zs0)))
   rfl
  ·have z4 : decide (q - 2 ≥ 0) = false := decide_eq_false (by omega)
   have w4 : Ve (IntKind.i64.wrap (0 - (q - 2))) (((2 - q).toNat : Nat) : Int) := ⟨by rw [wrap_i64 (by omega)]; omega⟩
   have e : bndN P emin S q = (L, S * 2 ^ 2 + 2, 2 ^ (2 - q).toNat) := by unfold bndN hi4; rw [if_neg hq2, hL]
   have hn : (2 - q).toNat ≤ 100000 := by omega
   rw [e]
   refine xg ?_
   refine xn 2 [(1, [0])] [(53, .int .i64 q)] ?_
   refine xve 54 IntKind.i64 (IntKind.wrap IntKind.i64 (q - 2)) (q - 2) w3 ?_
   refine xz [] [(11, .int .i64 (q - 2))] ?_
   refine SW_seq ?_
   refine xr [] [(56, .bool (decide (q - 2 ≥ 0)))] ?_
   refine xsf z4 ?_
   refine SW_skip ?_
   refine xg ?_
   refine xn 3 [] [(66, .int .i64 (q - 2)), (65, .slice A1 (List.length (ofN B32 (S * 2 ^ 2 + 2))) c1), (64, .slice A2 (List.length (ofN B32 L)) c2)] ?_
   refine xve 67 IntKind.i64 (IntKind.wrap IntKind.i64 (0 - (q - 2))) ((((Int.toNat (2 - q)) : Nat) : Int)) w4 ?_
   refine xcr 68 (ct_spec_l2Two ((((Int.toNat (2 - q)) : Nat) : Int)) (Int.toNat (2 - q)) ⟨rfl⟩ hn) zs0 (fun A6 k6 => ?_)
   refine xz [] [(6, .slice A6 (List.length (ofN B32 (2 ^ Int.toNat (2 - q)))) k6), (5, .slice A1 (List.length (ofN B32 (S * 2 ^ 2 + 2))) c1), (4, .slice A2 (List.length (ofN B32 L)) c2)] ?_
   refine SW_ret ?_
   refine xe ((A2, c2), (A1, c1), A6, k6) (.tuple #[.slice A2 (List.length (ofN B32 L)) c2, .slice A1 (List.length (ofN B32 (S * 2 ^ 2 + 2))) c1, .slice A6 (List.length (ofN B32 (2 ^ Int.toNat (2 - q)))) k6]) [] ?_ (zsS (ziS (ziS zi0)) (zsS (ziS zi0) (zsS zi0 zs0)))
   rfl
noncomputable abbrev itvV (u : Nat × Nat × Nat) (cl : Bool) (p : R3) : Value := .agg #[.slice p.1.1 (ofN B64 u.1).length p.1.2, .slice p.2.1.1 (ofN B64 u.2.1).length p.2.1.2, .slice p.2.2.1 (ofN B64 u.2.2).length p.2.2.2, .bool cl, .bool true]
noncomputable abbrev itvF (u : Nat × Nat × Nat) (p : R3) : List Fact := [Row .u64 p.1.1 p.1.2 (ofN B64 u.1), Row .u64 p.2.1.1 p.2.1.2 (ofN B64 u.2.1), Row .u64 p.2.2.1 p.2.2.2 (ofN B64 u.2.2)]
theorem vp_fin {P : Nat} {emin emax : Int} {W E : Nat} {ex : Bool} (h : Fmt2 P emin emax W E ex) (hx1 : 1 ≤ emax) {c : Int} {S : Nat} {q : Int} (hv : VP P emin emax c S q) (hc : c = 2 ∨ c = 3) : (0 < S ∧ S < 2 ^ P) ∧ emin - P + 1 ≤ q ∧ q ≤ emax - P + 1 ∧ (c = 2 → S < 2 ^ (P - 1)) ∧ (S < 2 ^ (P - 1) → q = emin - P + 1) := by
 have hx2 := h.mn
 have t2 := two_P h.toFmt
 have hp := Nat.pow_pos (n := P - 1) (show 0 < 2 by decide)
 rcases hv with ⟨rfl, _⟩ | ⟨rfl, _⟩ | ⟨_, h1, h2, rfl⟩ | ⟨_, h1, h2, h3, h4⟩
 ·omega
 ·omega
 ·omega
 ·omega
theorem bnd_sm {P : Nat} {emin emax : Int} {W E : Nat} {ex : Bool} (h : Fmt2 P emin emax W E ex) (hx1 : 1 ≤ emax) {c : Int} {S : Nat} {q : Int} (hv : VP P emin emax c S q) (hc : c = 2 ∨ c = 3) : ∃ k, k ≤ 40120 ∧ ((bndN P emin S q).1 < 2 ^ k ∧ (bndN P emin S q).2.1 < 2 ^ k ∧ (bndN P emin S q).2.2 < 2 ^ k) ∧ 0 < (bndN P emin S q).1 ∧ 0 < (bndN P emin S q).2.1 ∧ 0 < (bndN P emin S q).2.2 := by
 obtain ⟨⟨bS0, bS1⟩, bq0, bq1, _, _⟩ := vp_fin h hx1 hv hc
 have p1 := h.p1
 have m0 := h.m0
 have m1 := h.m1
 have p113 : 2 ^ P ≤ 2 ^ 113 := Nat.pow_le_pow_right (by decide) p1
 have hl : 0 < lo4 P emin S q ∧ lo4 P emin S q < 2 ^ 116 := by unfold lo4; split <;> omega
 have hh : 0 < hi4 S ∧ hi4 S < 2 ^ 116 := by unfold hi4; omega
 unfold bndN
 by_cases hq : 2 ≤ q
 ·rw [if_pos hq]
  dsimp only
  have hp := Nat.pow_pos (n := (q - 2).toNat) (show 0 < 2 by decide)
  refine ⟨116 + (q - 2).toNat, by omega, ⟨?_, ?_, ?_⟩, Nat.mul_pos hl.1 hp, Nat.mul_pos hh.1 hp, by decide⟩
  ·rw [Nat.pow_add]
   exact Nat.mul_lt_mul_of_pos_right hl.2 hp
  ·rw [Nat.pow_add]
   exact Nat.mul_lt_mul_of_pos_right hh.2 hp
  ·rw [Nat.pow_add]
   exact Nat.lt_of_lt_of_le (show 1 < 2 ^ 116 * 1 by decide) (Nat.mul_le_mul_left _ hp)
 ·rw [if_neg hq]
  dsimp only
  have hp := Nat.pow_pos (n := (2 - q).toNat) (show 0 < 2 by decide)
  refine ⟨116 + (2 - q).toNat, by omega, ⟨?_, ?_, ?_⟩, hl.1, hh.1, hp⟩
  ·rw [Nat.pow_add]
   exact Nat.lt_of_lt_of_le hl.2 (Nat.le_mul_of_pos_right _ hp)
  ·rw [Nat.pow_add]
   exact Nat.lt_of_lt_of_le hh.2 (Nat.le_mul_of_pos_right _ hp)
  ·exact Nat.pow_lt_pow_right (by decide) (by omega)
theorem ct_spec_Bounds {P : Nat} {emin emax : Int} {W E : Nat} {ex : Bool} {f : Int} (d : FD f P emin emax W E ex) (x : Nat) (hx : x < B128) (c : Int) (neg : Bool) (S : Nat) (q : Int) (hx2 : unpN P emin emax W E ex x = (c, neg, hiI S, loI S, q)) (hv : VP P emin emax c S q) (hc : c = 2 ∨ c = 3) (u : Nat × Nat × Nat) (hu : bndN P emin S q = u) :
  Ct Tryd.prog 25 [.int .i64 f, .agg #[.int .u64 (hiI x), .int .u64 (loI x)]] [] (γ := R3) (itvV u (decide (S % 2 = 0))) (itvF u) := by
 have h := d.h
 have hs := d.sf
 have cu := ct_spec_Unpack h.toFmt f hs x hx
 rw [hx2, prtV] at cu
 dsimp only at cu
 have z2 : (c != 2) = true ∨ (c != 2) = false := by cases (c != 2) <;> simp
 have v2 : Ve (Int.tmod (loI S) 2) ((S % 2 : Nat) : Int) := ⟨by unfold loI; rw [Int.tmod_eq_emod_of_nonneg (by omega)]; omega⟩
 have e2 : (((S % 2 : Nat) : Int) == 0) = decide (S % 2 = 0) := by rw [Bool.eq_iff_iff, beq_iff_eq, decide_eq_true_iff]; omega
 have hsm := bnd_sm h d.x1 hv hc
 rw [hu] at hsm
 obtain ⟨k, hk, ⟨h1, h2, h3⟩, _⟩ := hsm
 have s1 : Sm u.1 := Sm.of h1 (by omega)
 have s2 : Sm u.2.1 := Sm.of h2 (by omega)
 have s3 : Sm u.2.2 := Sm.of h3 (by omega)
 obtain ⟨u1, u2, u3⟩ := u
 dsimp only at s1 s2 s3
 rw [← e2]
 refine ct_of Tryd.func25 rfl (by kernel_rfl) (fun B w0 => ?_)
 rcases hc with rfl | rfl
 ·have hc : (2 : Int) = 2 ∨ (2 : Int) = 3 := .inl rfl
  have cs := ct_spec_l2Span d 2 neg S q hv hc _ hu
  refine xg ?_
  refine xb 3 [.int .u64 (hiI x), .int .u64 (loI x)] 25 (fun g0 => ?_)
  refine xb 4 [.slice none 0 0, .slice none 0 0, .slice none 0 0, .bool false, .bool false] 43 (fun g1 => ?_)
  refine xz [] [] ?_
  refine xg ?_
  refine xn 2 [(1, [0])] [(10, .agg #[.int .u64 (hiI x), .int .u64 (loI x)]), (9, .int .i64 f)] ?_
  refine xcv 11 cu zs0 ?_
  refine xb 5 [.int .i64 0, .bool false, .int .u64 0, .int .u64 0, .int .i64 0] 27 (fun g2 => ?_)
  refine xy [(4, [2])] [] [(2, [.int .i64 2, .bool neg, .int .u64 (hiI S), .int .u64 (loI S), .int .i64 q])] ?_
  refine SW_seq ?_
  refine xr [(1, [2])] [(19, .bool false)] ?_
  refine xs0 ?_
  refine SW_skip ?_
  refine xg ?_
  refine xn 2 [(1, [2])] [(23, .agg #[.int .i64 2, .bool neg, .int .u64 (hiI S), .int .u64 (loI S), .int .i64 q]), (22, .int .i64 f)] ?_
  (refine xck 24 cs zs0 (fun zz => ?_); obtain ⟨⟨z3, z4⟩, ⟨⟨z5, z6⟩, ⟨z7, z8⟩⟩⟩ := zz)
  refine xz [] [(8, .slice z7 (List.length (ofN B32 u3)) z8), (7, .slice z5 (List.length (ofN B32 u2)) z6), (6, .slice z3 (List.length (ofN B32 u1)) z4)] ?_
  refine xd (fun hB => ?_)
  refine xdk [(0, []), (2, []), (4, []), (6, []), (7, []), (8, [2])] [(36, .int .u64 (loI S)), (32, .slice z7 (List.length (ofN B32 u3)) z8), (30, .slice z5 (List.length (ofN B32 u2)) z6), (28, .slice z3 (List.length (ofN B32 u1)) z4)] hB ?_
  refine xdve 9 hB 37 IntKind.u64 (Int.tmod (loI S) 2) ((((S % 2) : Nat) : Int)) v2 ?_
  refine xdk [(10, [])] [(38, .bool ((((S % 2) : Nat) : Int) == 0))] hB ?_
  refine xdr 1 29 (ct_spec_l1Out (u1) (z3) (z4) s1) (zsS zi0 zs0) (fun A0 k0 => ?_)
  refine xdr 3 31 (ct_spec_l1Out (u2) (z5) (z6) s2) (zsS (ziS (ziS zi0)) zs0) (fun A1 k1 => ?_)
  refine xdr 5 33 (ct_spec_l1Out (u3) (z7) (z8) s3) (zsS (ziS (ziS (ziS (ziS zi0)))) zs0) (fun A2 k2 => ?_)
  refine xdk [(11, [])] [(39, .agg #[.slice A0 (List.length (ofN B64 u1)) k0, .slice A1 (List.length (ofN B64 u2)) k1, .slice A2 (List.length (ofN B64 u3)) k2, .bool ((((S % 2) : Nat) : Int) == 0), .bool true])] hB ?_
  refine xds 12 [1] [(1, [.slice A0 (List.length (ofN B64 u1)) k0, .slice A1 (List.length (ofN B64 u2)) k1, .slice A2 (List.length (ofN B64 u3)) k2, .bool ((((S % 2) : Nat) : Int) == 0), .bool true])] ?_
  refine xdz ?_
  refine SW_ret ?_
  refine xe ((A0, k0), (A1, k1), A2, k2) (.agg #[.slice A0 (List.length (ofN B64 u1)) k0, .slice A1 (List.length (ofN B64 u2)) k1, .slice A2 (List.length (ofN B64 u3)) k2, .bool ((((S % 2) : Nat) : Int) == 0), .bool true]) [1] ?_ (zsS (ziS (ziS zi0)) (zsS (ziS zi0) (zsS zi0 zs0)))
  rfl
 ·have hc : (3 : Int) = 2 ∨ (3 : Int) = 3 := .inr rfl
  have cs := ct_spec_l2Span d 3 neg S q hv hc _ hu
  refine xg ?_
  refine xb 3 [.int .u64 (hiI x), .int .u64 (loI x)] 25 (fun g0 => ?_)
  refine xb 4 [.slice none 0 0, .slice none 0 0, .slice none 0 0, .bool false, .bool false] 43 (fun g1 => ?_)
  refine xz [] [] ?_
  refine xg ?_
  refine xn 2 [(1, [0])] [(10, .agg #[.int .u64 (hiI x), .int .u64 (loI x)]), (9, .int .i64 f)] ?_
  refine xcv 11 cu zs0 ?_
  refine xb 5 [.int .i64 0, .bool false, .int .u64 0, .int .u64 0, .int .i64 0] 27 (fun g2 => ?_)
  refine xy [(4, [2])] [] [(2, [.int .i64 3, .bool neg, .int .u64 (hiI S), .int .u64 (loI S), .int .i64 q])] ?_
  refine SW_seq ?_
  refine xr [(1, [2]), (5, [2])] [(19, .bool false)] ?_
  refine xs0 ?_
  refine SW_skip ?_
  refine xg ?_
  refine xn 2 [(1, [2])] [(23, .agg #[.int .i64 3, .bool neg, .int .u64 (hiI S), .int .u64 (loI S), .int .i64 q]), (22, .int .i64 f)] ?_
  (refine xck 24 cs zs0 (fun zz => ?_); obtain ⟨⟨z3, z4⟩, ⟨⟨z5, z6⟩, ⟨z7, z8⟩⟩⟩ := zz)
  refine xz [] [(8, .slice z7 (List.length (ofN B32 u3)) z8), (7, .slice z5 (List.length (ofN B32 u2)) z6), (6, .slice z3 (List.length (ofN B32 u1)) z4)] ?_
  refine xd (fun hB => ?_)
  refine xdk [(0, []), (2, []), (4, []), (6, []), (7, []), (8, [2])] [(36, .int .u64 (loI S)), (32, .slice z7 (List.length (ofN B32 u3)) z8), (30, .slice z5 (List.length (ofN B32 u2)) z6), (28, .slice z3 (List.length (ofN B32 u1)) z4)] hB ?_
  refine xdve 9 hB 37 IntKind.u64 (Int.tmod (loI S) 2) ((((S % 2) : Nat) : Int)) v2 ?_
  refine xdk [(10, [])] [(38, .bool ((((S % 2) : Nat) : Int) == 0))] hB ?_
  refine xdr 1 29 (ct_spec_l1Out (u1) (z3) (z4) s1) (zsS zi0 zs0) (fun A0 k0 => ?_)
  refine xdr 3 31 (ct_spec_l1Out (u2) (z5) (z6) s2) (zsS (ziS (ziS zi0)) zs0) (fun A1 k1 => ?_)
  refine xdr 5 33 (ct_spec_l1Out (u3) (z7) (z8) s3) (zsS (ziS (ziS (ziS (ziS zi0)))) zs0) (fun A2 k2 => ?_)
  refine xdk [(11, [])] [(39, .agg #[.slice A0 (List.length (ofN B64 u1)) k0, .slice A1 (List.length (ofN B64 u2)) k1, .slice A2 (List.length (ofN B64 u3)) k2, .bool ((((S % 2) : Nat) : Int) == 0), .bool true])] hB ?_
  refine xds 12 [1] [(1, [.slice A0 (List.length (ofN B64 u1)) k0, .slice A1 (List.length (ofN B64 u2)) k1, .slice A2 (List.length (ofN B64 u3)) k2, .bool ((((S % 2) : Nat) : Int) == 0), .bool true])] ?_
  refine xdz ?_
  refine SW_ret ?_
  refine xe ((A0, k0), (A1, k1), A2, k2) (.agg #[.slice A0 (List.length (ofN B64 u1)) k0, .slice A1 (List.length (ofN B64 u2)) k1, .slice A2 (List.length (ofN B64 u3)) k2, .bool ((((S % 2) : Nat) : Int) == 0), .bool true]) [1] ?_ (zsS (ziS (ziS zi0)) (zsS (ziS zi0) (zsS zi0 zs0)))
  rfl
theorem ct_spec_Bounds0 {P : Nat} {emin emax : Int} {W E : Nat} {ex : Bool} {f : Int} (c : Int) (hc : c ≠ 2 ∧ c ≠ 3) (b : Bool) (k1 k2 k3 : Int) (u1 u2 : Int) (cu : CtV Tryd.prog 15 [.int .i64 f, .agg #[.int .u64 u1, .int .u64 u2]] [] (.agg #[.int .i64 c, .bool b, .int .u64 k1, .int .u64 k2, .int .i64 k3])) :
  CtV Tryd.prog 25 [.int .i64 f, .agg #[.int .u64 u1, .int .u64 u2]] [] (.agg #[.slice none 0 0, .slice none 0 0, .slice none 0 0, .bool false, .bool false]) := by
 have z2 : (c != 2) = true := by rw [bne_iff_ne]; exact hc.1
 have z3 : (c != 3) = true := by rw [bne_iff_ne]; exact hc.2
 refine ct_of Tryd.func25 rfl (by kernel_rfl) (fun B w0 => ?_)
 refine xg ?_
 refine xb 3 [.int .u64 u1, .int .u64 u2] 25 (fun g0 => ?_)
 refine xb 4 [.slice none 0 0, .slice none 0 0, .slice none 0 0, .bool false, .bool false] 43 (fun g1 => ?_)
 refine xz [] [] ?_
 refine xg ?_
 refine xn 2 [(1, [0])] [(10, .agg #[.int .u64 u1, .int .u64 u2]), (9, .int .i64 f)] ?_
 refine xcv 11 cu zs0 ?_
 refine xb 5 [.int .i64 0, .bool false, .int .u64 0, .int .u64 0, .int .i64 0] 27 (fun g2 => ?_)
 refine xy [(4, [2])] [] [(2, [.int .i64 c, .bool b, .int .u64 k1, .int .u64 k2, .int .i64 k3])] ?_
 refine SW_seq ?_
 refine xg ?_
 refine xn 4 [(1, [2])] [(15, .bool (c != 2))] ?_
 refine xkt 15 z2 ?_
 refine xz [(5, [2])] [(19, .bool (c != 3))] ?_
 refine xst z3 ?_
 refine xq [(1, [1])] [] [] ?_
 refine SW_ret ?_
 refine xe () (.agg #[.slice none 0 0, .slice none 0 0, .slice none 0 0, .bool false, .bool false]) [1] ?_ trivial
 rfl
end Go.Proofs.YtdbnmdchecacdaaDoor.M
end
section
namespace Go.Proofs.YtdbnmdchecacdaaDoor.M
open Go.RowKit Go.Proofs.YtdbnmdchecacdaaDoor.G Go.Proofs.YtdbnmdchecacdaaDoorV.PrintWords Go.Proofs.YtdbnmdchecacdaaDoorV.PrintLast Go.Proofs.YtdbnmdchecacdaaDoor.X
set_option linter.unusedVariables false
set_option linter.unusedSimpArgs false
theorem rrS_iff {A B S : Nat} (hB : 0 < B) (hS : 0 < S) : rrS A B = S ↔ ((2 * S - 1) * B < 2 * A ∨ ((2 * S - 1) * B = 2 * A ∧ S % 2 = 0)) ∧ (2 * A < (2 * S + 1) * B ∨ (2 * A = (2 * S + 1) * B ∧ S % 2 = 0)) := by
  have hd := Nat.div_add_mod A B
  have hr := Nat.mod_lt A hB
  obtain ⟨Q, hQ⟩ : ∃ Q, A / B = Q := ⟨_, rfl⟩
  obtain ⟨R, hR⟩ : ∃ R, A % B = R := ⟨_, rfl⟩
  obtain ⟨M, hM⟩ : ∃ M, B * Q = M := ⟨_, rfl⟩
  have key : rrS A B = if (B < R * 2 ∨ (R * 2 = B ∧ Q % 2 = 1)) then Q + 1 else Q := by
    unfold rrS rrUp
    rw [hQ, hR]
    by_cases h1 : B < R * 2
    · rw [decide_eq_true h1, Bool.true_or, if_pos rfl, if_pos (.inl h1)]
    · rw [decide_eq_false h1, Bool.false_or]
      by_cases h2 : R * 2 = B ∧ Q % 2 = 1
      · rw [decide_eq_true h2.1, decide_eq_true h2.2, Bool.and_true, if_pos rfl, if_pos (.inr h2)]
      · rw [if_neg (fun z => h2 (by simpa using z)), if_neg (fun z => z.elim h1 h2)]
  rw [hQ, hR, hM] at hd
  rw [hR] at hr
  rw [key]
  clear key
  -- the products, by where S lies
  have e1 : (2 * S - 1) * B + B = 2 * (S * B) := by
    have : (2 * S - 1) * B + 1 * B = (2 * S - 1 + 1) * B := (Nat.add_mul _ _ _).symm
    rw [Nat.one_mul] at this
    rw [this, show 2 * S - 1 + 1 = 2 * S by omega, Nat.mul_assoc]
  have e2 : (2 * S + 1) * B = 2 * (S * B) + B := by rw [Nat.add_mul, Nat.one_mul, Nat.mul_assoc]
  have hM2 : M = Q * B := by rw [← hM, Nat.mul_comm]
  generalize (2 * S - 1) * B = L at *
  generalize (2 * S + 1) * B = H at *
  rcases Nat.lt_trichotomy S Q with h | h | h
  · have h3 : S * B + B ≤ Q * B := by rw [← Nat.succ_mul]; exact Nat.mul_le_mul_right _ h
    constructor
    · intro z
      split at z <;> omega
    · rintro ⟨z1, z2⟩
      omega
  · subst h
    constructor
    · intro z
      split at z
      · omega
      · omega
    · rintro ⟨z1, z2⟩
      rw [if_neg (by omega)]
  · rcases Nat.lt_or_ge (Q + 1) S with h4 | h4
    · have h3 : Q * B + 2 * B ≤ S * B := by
        rw [← Nat.add_mul]
        exact Nat.mul_le_mul_right _ h4
      constructor
      · intro z
        split at z <;> omega
      · rintro ⟨z1, z2⟩
        omega
    · have h5 : S = Q + 1 := by omega
      have h3 : S * B = Q * B + B := by rw [h5, Nat.succ_mul]
      constructor
      · intro z
        split at z
        · omega
        · omega
      · rintro ⟨z1, z2⟩
        rw [if_pos (by omega), h5]
theorem scale_iff {x y P : Nat} {q : Int} : x * 2 ^ (-(q + P)).toNat < y * 2 ^ (q + P).toNat ↔ x * 2 ^ (-q).toNat < y * 2 ^ q.toNat * 2 ^ P := by
  constructor
  · intro h
    exact scale_lt h (Int.le_refl _)
  · intro h
    refine Nat.lt_of_not_le (fun z => ?_)
    have := scale_ge (P := P) (q := q) z (Int.le_refl _)
    omega
theorem ratio_lt {x y : Nat} {i j : Int} (h1 : y * 2 ^ j.toNat ≤ x * 2 ^ (-j).toNat) (h2 : x * 2 ^ (-i).toNat < y * 2 ^ i.toNat) : j < i := by
  refine Int.lt_of_not_ge (fun z => ?_)
  obtain ⟨P, hP⟩ : ∃ P : Nat, j = i + P := ⟨(j - i).toNat, by omega⟩
  have h3 := scale_ge (P := P) (q := i) h1 (by omega)
  have h4 : y * 2 ^ i.toNat ≤ y * 2 ^ i.toNat * 2 ^ P := Nat.le_mul_of_pos_right _ (Nat.pow_pos (by decide))
  omega
def inB (l4 h4 S A B : Nat) : Prop := (l4 * B < 4 * A ∨ (l4 * B = 4 * A ∧ S % 2 = 0)) ∧ (4 * A < h4 * B ∨ (4 * A = h4 * B ∧ S % 2 = 0))
theorem rr_iff {P x y m n S : Nat} {emin q : Int} (hP : 3 ≤ P) (hm : IsBits x m) (hn : IsBits y n) (hx : 0 < x) (hy : 0 < y) (hS0 : 0 < S) (hS : S < 2 ^ P) (hq : emin - P + 1 ≤ q) (hsub : S < 2 ^ (P - 1) → q = emin - P + 1) :
    rrSQ P emin x y m n = (S, q) ↔ inB (lo4 P emin S q) (hi4 S) S (rrN x q) (rrD y q) := by
  have hK1 := rrK_lt hm hn hy
  have hK2 := rrK_ge hm hn hx
  have hquot := rr_quot (P := P) (emin := emin) hm hn hy
  obtain ⟨K, eK⟩ : ∃ K, rrK x y m n = K := ⟨_, rfl⟩
  rw [eK] at hK1 hK2 hquot
  have t2 : 2 ^ P = 2 * 2 ^ (P - 1) := by rw [Nat.mul_comm, ← Nat.pow_succ]; congr 1; omega
  have t3 : 2 ^ (P - 1) = 2 * 2 ^ (P - 2) := by rw [Nat.mul_comm, ← Nat.pow_succ]; congr 1; omega
  have hp := Nat.pow_pos (n := P - 2) (show 0 < 2 by decide)
  have hB : 0 < rrD y q := Nat.mul_pos hy (Nat.pow_pos (by decide))
  have hl4 : lo4 P emin S q ≤ S * 4 ∧ S * 4 - 2 ≤ lo4 P emin S q := by unfold lo4; split <;> omega
  have hh4 : hi4 S = S * 4 + 2 := by unfold hi4; omega
  have hsq : rrSQ P emin x y m n = if 2 ^ P ≤ rrS (rrN x (rrE P emin K)) (rrD y (rrE P emin K)) then (rrS (rrN x (rrE P emin K)) (rrD y (rrE P emin K)) / 2, rrE P emin K + 1) else (rrS (rrN x (rrE P emin K)) (rrD y (rrE P emin K)), rrE P emin K) := by
    unfold rrSQ
    dsimp only
    rw [eK]
  have hSle : rrS (rrN x (rrE P emin K)) (rrD y (rrE P emin K)) ≤ 2 ^ P := by
    have := rrS_le (rrN x (rrE P emin K)) (rrD y (rrE P emin K))
    omega
  rw [hsq]
  by_cases hc : rrN x q < rrD y q * 2 ^ P
  · -- below the next power of two
    have hKq : K < q + P := ratio_lt hK2 (scale_iff.2 hc)
    by_cases hlo : rrD y q * 2 ^ (P - 1) ≤ rrN x q ∨ q = emin - P + 1
    · have hE : rrE P emin K = q := by
        rcases hlo with hlo | hlo
        · have h1 : y * 2 ^ (q + (P - 1 : Nat)).toNat ≤ x * 2 ^ (-(q + (P - 1 : Nat))).toNat := Nat.le_of_not_lt (fun z => by
            have := scale_iff.1 z
            unfold rrD rrN at hlo
            omega)
          have := ratio_lt h1 hK1
          unfold rrE
          omega
        · unfold rrE
          omega
      rw [hE] at hSle ⊢
      have hrs := rrS_iff (A := rrN x q) (S := S) hB hS0
      have e1 : ((if 2 ^ P ≤ rrS (rrN x q) (rrD y q) then (rrS (rrN x q) (rrD y q) / 2, q + 1) else (rrS (rrN x q) (rrD y q), q)) = (S, q)) ↔ rrS (rrN x q) (rrD y q) = S := by
        constructor
        · intro z
          split at z
          · injection z with z1 z2
            omega
          · injection z with z1 z2
        · intro z
          rw [z, if_neg (by omega)]
      rw [e1, hrs]
      unfold inB
      rw [hh4]
      generalize rrN x q = A at *
      generalize rrD y q = B at *
      have f1 : (S * 4 + 2) * B = 2 * ((2 * S + 1) * B) := by rw [← Nat.mul_assoc]; congr 1; omega
      by_cases hbo : S = 2 ^ (P - 1) ∧ emin - P + 1 < q
      · have f2 : lo4 P emin S q * B + B = 4 * (S * B) := by
          unfold lo4
          rw [if_pos hbo]
          have : (S * 2 ^ 2 - 1) * B + 1 * B = (S * 2 ^ 2 - 1 + 1) * B := (Nat.add_mul _ _ _).symm
          rw [Nat.one_mul] at this
          rw [this, show S * 2 ^ 2 - 1 + 1 = 4 * S by omega, Nat.mul_assoc]
        have f3 : (2 * S - 1) * B + B = 2 * (S * B) := by
          have : (2 * S - 1) * B + 1 * B = (2 * S - 1 + 1) * B := (Nat.add_mul _ _ _).symm
          rw [Nat.one_mul] at this
          rw [this, show 2 * S - 1 + 1 = 2 * S by omega, Nat.mul_assoc]
        have f4 : S * B ≤ A := by
          rcases hlo with hlo | hlo
          · rw [hbo.1, Nat.mul_comm]; exact hlo
          · omega
        generalize (2 * S - 1) * B = X1 at *
        generalize (2 * S + 1) * B = X2 at *
        generalize (S * 4 + 2) * B = X3 at *
        generalize lo4 P emin S q * B = X4 at *
        generalize S * B = X5 at *
        constructor
        · rintro ⟨z1, z2⟩
          exact ⟨by omega, by omega⟩
        · rintro ⟨z1, z2⟩
          exact ⟨by omega, by omega⟩
      · have f2 : lo4 P emin S q * B = 2 * ((2 * S - 1) * B) := by
          unfold lo4
          rw [if_neg hbo, ← Nat.mul_assoc]
          congr 1
          omega
        generalize (2 * S - 1) * B = X1 at *
        generalize (2 * S + 1) * B = X2 at *
        generalize (S * 4 + 2) * B = X3 at *
        generalize lo4 P emin S q * B = X4 at *
        constructor
        · rintro ⟨z1, z2⟩
          exact ⟨by omega, by omega⟩
        · rintro ⟨z1, z2⟩
          exact ⟨by omega, by omega⟩
    · -- below the last power of two, and an exponent less is to be had
      have hq2 : emin - P + 1 < q := by omega
      have hS1 : 2 ^ (P - 1) ≤ S := Nat.le_of_not_lt (fun z => by have := hsub z; omega)
      have hA : rrN x q < rrD y q * 2 ^ (P - 1) := by omega
      have hK3 : K < q + (P - 1 : Nat) := ratio_lt hK2 (scale_iff.2 hA)
      have hh : 4 * rrN x q < S * 4 * rrD y q := by
        have h1 : rrD y q * 2 ^ (P - 1) ≤ rrD y q * S := Nat.mul_le_mul_left _ hS1
        have h2 : S * 4 * rrD y q = 4 * (rrD y q * S) := by rw [Nat.mul_comm S 4, Nat.mul_assoc, Nat.mul_comm S]
        omega
      rcases (show rrE P emin K < q - 1 ∨ q - 1 ≤ rrE P emin K by omega) with hE | hE
      · have hA2 : rrN x q < rrD y q * 2 ^ (P - 2) := scale_lt hK1 (by unfold rrE at hE; omega)
        constructor
        · intro z
          split at z
          · injection z with z1 z2
            omega
          · injection z with z1 z2
            omega
        · rintro ⟨z1, _⟩
          exfalso
          have h1 : 4 * 2 ^ (P - 2) ≤ lo4 P emin S q := by omega
          have h2 := Nat.mul_le_mul_right (rrD y q) h1
          have h3 : 4 * 2 ^ (P - 2) * rrD y q = 4 * (rrD y q * 2 ^ (P - 2)) := by rw [Nat.mul_assoc, Nat.mul_comm (2 ^ (P - 2))]
          omega
      · have hE2 : rrE P emin K = q - 1 := by
          have : rrE P emin K ≤ q - 1 := by unfold rrE; omega
          omega
        rw [hE2] at hquot hSle ⊢
        have hB' : 0 < rrD y (q - 1) := Nat.mul_pos hy (Nat.pow_pos (by decide))
        have hA' : rrN x (q - 1) < 2 ^ P * rrD y (q - 1) := (Nat.div_lt_iff_lt_mul hB').1 hquot
        have hrel : (rrN x (q - 1) = rrN x q ∧ rrD y q = 2 * rrD y (q - 1)) ∨ (rrN x (q - 1) = 2 * rrN x q ∧ rrD y q = rrD y (q - 1)) := by
          unfold rrN rrD
          by_cases h1 : 1 ≤ q
          · left
            rw [show (-(q - 1)).toNat = 0 by omega, show (-q).toNat = 0 by omega]
            refine ⟨rfl, ?_⟩
            rw [show q.toNat = (q - 1).toNat + 1 by omega, Nat.pow_succ, ← Nat.mul_assoc, Nat.mul_comm]
          · right
            rw [show (q - 1).toNat = 0 by omega, show q.toNat = 0 by omega]
            refine ⟨?_, rfl⟩
            rw [show (-(q - 1)).toNat = (-q).toNat + 1 by omega, Nat.pow_succ, ← Nat.mul_assoc, Nat.mul_comm]
        have hrs := rrS_iff (A := rrN x (q - 1)) (S := 2 ^ P) hB' (by omega)
        generalize hAe : rrN x q = A at *
        generalize hBe : rrD y q = B at *
        generalize hAe' : rrN x (q - 1) = A' at *
        generalize hBe' : rrD y (q - 1) = B' at *
        have e1 : ((if 2 ^ P ≤ rrS A' B' then (rrS A' B' / 2, q - 1 + 1) else (rrS A' B', q - 1)) = (S, q)) ↔ (rrS A' B' = 2 ^ P ∧ S = 2 ^ (P - 1)) := by
          constructor
          · intro z
            split at z
            · injection z with z1 z2
              omega
            · injection z with z1 z2
              omega
          · rintro ⟨z1, z2⟩
            rw [z1, if_pos (Nat.le_refl _), Int.sub_add_cancel, z2, t2]
            congr 1
            omega
        rw [e1]
        by_cases hS2 : S = 2 ^ (P - 1)
        · have hl : lo4 P emin S q = 2 * 2 ^ P - 1 := by unfold lo4; rw [if_pos ⟨hS2, hq2⟩]; omega
          rw [hrs]
          unfold inB
          rw [hl, hh4]
          have f5 : (2 * 2 ^ P + 1) * B' = 2 * (2 ^ P * B') + B' := by rw [Nat.add_mul, Nat.one_mul, Nat.mul_assoc]
          have f6 : (S * 4 + 2) * B = S * 4 * B + 2 * B := Nat.add_mul _ _ _
          have f7 : B = 2 * B' → (2 * 2 ^ P - 1) * B = 2 * ((2 * 2 ^ P - 1) * B') := fun z => by rw [z, ← Nat.mul_assoc, Nat.mul_comm _ 2, Nat.mul_assoc]
          have f8 : B = B' → (2 * 2 ^ P - 1) * B = (2 * 2 ^ P - 1) * B' := fun z => by rw [z]
          have f9 : S % 2 = 0 ∧ 2 ^ P % 2 = 0 := by omega
          generalize (2 * 2 ^ P - 1) * B' = X1 at *
          generalize (2 * 2 ^ P + 1) * B' = X2 at *
          generalize (2 * 2 ^ P - 1) * B = X3 at *
          generalize (S * 4 + 2) * B = X4 at *
          generalize S * 4 * B = X5 at *
          generalize 2 ^ P * B' = X6 at *
          rcases hrel with ⟨r1, r2⟩ | ⟨r1, r2⟩
          · have := f7 r2
            constructor
            · rintro ⟨⟨z1, z2⟩, z3⟩
              exact ⟨by omega, by omega⟩
            · rintro ⟨z1, z2⟩
              exact ⟨⟨by omega, by omega⟩, hS2⟩
          · have := f8 r2
            constructor
            · rintro ⟨⟨z1, z2⟩, z3⟩
              exact ⟨by omega, by omega⟩
            · rintro ⟨z1, z2⟩
              exact ⟨⟨by omega, by omega⟩, hS2⟩
        · constructor
          · rintro ⟨_, z⟩
            exact absurd z hS2
          · rintro ⟨z1, _⟩
            exfalso
            have h1 : 2 ^ (P - 1) + 1 ≤ S := by omega
            have h2 := Nat.mul_le_mul_right B h1
            have h4 : (S * 4 - 2) * B + 2 * B = 4 * (S * B) := by
              rw [← Nat.add_mul, show S * 4 - 2 + 2 = 4 * S by omega, Nat.mul_assoc]
            have h5 := Nat.mul_le_mul_right B hl4.2
            have h6 : (2 ^ (P - 1) + 1) * B = B * 2 ^ (P - 1) + B := by rw [Nat.add_mul, Nat.one_mul, Nat.mul_comm]
            generalize (2 ^ (P - 1) + 1) * B = X1 at *
            generalize B * 2 ^ (P - 1) = X2 at *
            generalize (S * 4 - 2) * B = X3 at *
            generalize lo4 P emin S q * B = X4 at *
            generalize S * B = X5 at *
            omega
  · -- from the next power of two on
    have h1 : y * 2 ^ (q + (P : Nat)).toNat ≤ x * 2 ^ (-(q + (P : Nat))).toNat := Nat.le_of_not_lt (fun z => hc (scale_iff.1 z))
    have h2 := ratio_lt h1 hK1
    have hE : q < rrE P emin K := by unfold rrE; omega
    constructor
    · intro z
      split at z
      · injection z with z1 z2
        omega
      · injection z with z1 z2
        omega
    · rintro ⟨_, z2⟩
      exfalso
      have h3 : rrD y q * (S + 1) ≤ rrD y q * 2 ^ P := Nat.mul_le_mul_left _ hS
      have h4 : hi4 S * rrD y q + 2 * rrD y q = 4 * (rrD y q * (S + 1)) := by
        rw [hh4, ← Nat.add_mul, show S * 4 + 2 + 2 = 4 * (S + 1) by omega, Nat.mul_assoc, Nat.mul_comm (S + 1)]
      omega
end Go.Proofs.YtdbnmdchecacdaaDoor.M
end
section
namespace Go.Proofs.YtdbnmdchecacdaaDoor.M
open Go.RowKit Go.Proofs.YtdbnmdchecacdaaDoor.G Go.Proofs.YtdbnmdchecacdaaDoorV.PrintWords Go.Proofs.YtdbnmdchecacdaaDoorV.PrintLast Go.Proofs.YtdbnmdchecacdaaDoor.X
set_option linter.unusedVariables false
set_option linter.unusedSimpArgs false
theorem unp_of_pack {P : Nat} {emin emax : Int} {W E : Nat} {ex : Bool} {c : Int} {neg : Bool} {S : Nat} {q : Int} (h : (packR P emin emax W E ex c neg S q).2 = true) : unpN P emin emax W E ex (packR P emin emax W E ex c neg S q).1 = (c, neg, hiI S, loI S, q) := by
  unfold packR at h ⊢
  split at h
  · cases h
  · rename_i w hw
    split at h
    · rename_i hu
      rw [if_pos hu]
      exact hu
    · cases h
theorem word_iff {P : Nat} {emin emax : Int} {W E : Nat} {ex : Bool} (h : Fmt2 P emin emax W E ex) (hx1 : 1 ≤ emax) {c : Int} {neg : Bool} {S : Nat} {q : Int} (hv : VP P emin emax c S q) (hc : c = 2 ∨ c = 3) {U : Nat × Int} (h1 : U.1 < 2 ^ P) (h2 : emin - P + 1 ≤ U.2) (h3 : U.1 < 2 ^ (P - 1) → U.2 = emin - P + 1) :
    (rrW P emin emax W E ex neg U).1 = (packR P emin emax W E ex c neg S q).1 ↔ U = (S, q) := by
  obtain ⟨⟨bS0, bS1⟩, bq0, bq1, bS2, bS3⟩ := vp_fin h hx1 hv hc
  have k1 := unp_of_pack (pack_ok h (neg := neg) hv)
  obtain ⟨U, Q⟩ := U
  dsimp only at h1 h2 h3
  constructor
  · intro e
    by_cases c1 : 2 ^ (P - 1) ≤ U
    · by_cases c2 : Q + P - 1 > emax
      · rw [rrW_inf c1 c2] at e
        have k2 := unp_of_pack (pack_ok h (neg := neg) (.inr (.inl ⟨rfl, rfl, rfl⟩) : VP P emin emax 4 0 0))
        dsimp only at e
        rw [e, k1] at k2
        injection k2 with k2 _
        omega
      · rw [rrW_norm c1 c2] at e
        have k2 := unp_of_pack (pack_ok h (neg := neg) (.inr (.inr (.inr ⟨rfl, c1, h1, h2, by omega⟩)) : VP P emin emax 3 U Q))
        dsimp only at e
        rw [e, k1] at k2
        injection k2 with k2 k3
        injection k3 with _ k3
        injection k3 with k3 k4
        injection k4 with k4 k5
        rw [hilo_inj k3 k4, k5]
    · by_cases c2 : U = 0
      · rw [rrW_zero c2] at e
        have k2 := unp_of_pack (pack_ok h (neg := neg) (.inl ⟨rfl, rfl, rfl⟩ : VP P emin emax 1 0 0))
        dsimp only at e
        rw [e, k1] at k2
        injection k2 with k2 _
        omega
      · rw [rrW_sub (by omega) c2] at e
        have k2 := unp_of_pack (pack_ok h (neg := neg) (.inr (.inr (.inl ⟨rfl, by omega, by omega, h3 (by omega)⟩)) : VP P emin emax 2 U Q))
        dsimp only at e
        rw [e, k1] at k2
        injection k2 with k2 k3
        injection k3 with _ k3
        injection k3 with k3 k4
        injection k4 with k4 k5
        rw [hilo_inj k3 k4, k5]
  · intro e
    injection e with e1 e2
    subst e1 e2
    rcases hv with ⟨rfl, _⟩ | ⟨rfl, _⟩ | ⟨rfl, b1, b2, b3⟩ | ⟨rfl, b1, b2, b3, b4⟩
    · omega
    · omega
    · rw [rrW_sub b2 (by omega)]
    · rw [rrW_norm b1 (by omega)]
theorem bnd_unit {P : Nat} {emin : Int} {S : Nat} {q : Int} (n : Nat) : ∃ T w : Nat, 0 < T ∧ 0 < w ∧ (bndN P emin S q).1 = lo4 P emin S q * T ∧ (bndN P emin S q).2.1 = hi4 S * T ∧ (∀ X, 4 * rrN X q = X * w) ∧ rrD ((bndN P emin S q).2.2 * 2 ^ n) q = w * T * 2 ^ n := by
  by_cases hq : 2 ≤ q
  · refine ⟨2 ^ (q - 2).toNat, 4, Nat.pow_pos (by decide), by decide, ?_, ?_, fun X => ?_, ?_⟩
    · unfold bndN
      rw [if_pos hq]
    · unfold bndN
      rw [if_pos hq]
    · unfold rrN
      rw [show (-q).toNat = 0 by omega, Nat.pow_zero, Nat.mul_one, Nat.mul_comm]
    · unfold bndN rrD
      rw [if_pos hq]
      dsimp only
      rw [Nat.one_mul, show q.toNat = (q - 2).toNat + 2 by omega, Nat.pow_add]
      generalize 2 ^ (q - 2).toNat = T
      rw [Nat.mul_comm (2 ^ n), Nat.mul_comm T, ← show (4 : Nat) = 2 ^ 2 from rfl]
  · have hl : bndN P emin S q = (lo4 P emin S q, hi4 S, 2 ^ (2 - q).toNat) := by unfold bndN; rw [if_neg hq]
    rw [hl]
    dsimp only
    refine ⟨1, 4 * 2 ^ (-q).toNat, by decide, Nat.mul_pos (by decide) (Nat.pow_pos (by decide)), (Nat.mul_one _).symm, (Nat.mul_one _).symm, fun X => ?_, ?_⟩
    · unfold rrN
      rw [Nat.mul_left_comm]
    · unfold rrD
      rw [Nat.mul_one, Nat.mul_right_comm, ← Nat.pow_add]
      congr 1
      rw [show (4 : Nat) = 2 ^ 2 from rfl, ← Nat.pow_add]
      congr 1
      omega
theorem six {P : Nat} {emin : Int} {S : Nat} {q : Int} (hS : 0 < S) (n : Nat) (hn : 1 ≤ n) (l h dn : Nat) (hl : (bndN P emin S q).1 = l) (hh : (bndN P emin S q).2.1 = h) (hd : (bndN P emin S q).2.2 = dn) :
    (inB (lo4 P emin S q) (hi4 S) S (rrN (l * 2 ^ n) q) (rrD (dn * 2 ^ n) q) ↔ S % 2 = 0) ∧ (inB (lo4 P emin S q) (hi4 S) S (rrN (h * 2 ^ n) q) (rrD (dn * 2 ^ n) q) ↔ S % 2 = 0) ∧
    ¬ inB (lo4 P emin S q) (hi4 S) S (rrN (l * 2 ^ n - 1) q) (rrD (dn * 2 ^ n) q) ∧ inB (lo4 P emin S q) (hi4 S) S (rrN (l * 2 ^ n + 1) q) (rrD (dn * 2 ^ n) q) ∧
    inB (lo4 P emin S q) (hi4 S) S (rrN (h * 2 ^ n - 1) q) (rrD (dn * 2 ^ n) q) ∧ ¬ inB (lo4 P emin S q) (hi4 S) S (rrN (h * 2 ^ n + 1) q) (rrD (dn * 2 ^ n) q) := by
  obtain ⟨T, w, hT, hw, e1, e2, e3, e4⟩ := bnd_unit (P := P) (emin := emin) (S := S) (q := q) n
  rw [hl] at e1
  rw [hh] at e2
  rw [hd] at e4
  have hlh : lo4 P emin S q + 3 ≤ hi4 S ∧ 1 ≤ lo4 P emin S q := by unfold lo4 hi4; split <;> omega
  unfold inB
  rw [e3, e3, e3, e3, e3, e3, e4, e1, e2]
  obtain ⟨L, hL⟩ : ∃ L, lo4 P emin S q = L := ⟨_, rfl⟩
  obtain ⟨H, hH⟩ : ∃ H, hi4 S = H := ⟨_, rfl⟩
  rw [hL, hH] at hlh ⊢
  -- one unit of the finest kind
  obtain ⟨M, hM⟩ : ∃ M, w * T * 2 ^ n = M := ⟨_, rfl⟩
  have f1 : L * T * 2 ^ n * w = L * M := by rw [← hM, Nat.mul_assoc L, Nat.mul_assoc L, Nat.mul_comm (T * 2 ^ n), Nat.mul_assoc w]
  have f2 : H * T * 2 ^ n * w = H * M := by rw [← hM, Nat.mul_assoc H, Nat.mul_assoc H, Nat.mul_comm (T * 2 ^ n), Nat.mul_assoc w]
  have f3 : L * M + 3 * M ≤ H * M := by rw [← Nat.add_mul]; exact Nat.mul_le_mul_right _ hlh.1
  have f4 : w * 2 ≤ M := by
    rw [← hM]
    have h1 : w * 1 ≤ w * T := Nat.mul_le_mul_left _ hT
    have h2 : 2 ^ 1 ≤ 2 ^ n := Nat.pow_le_pow_right (by decide) hn
    rw [Nat.mul_one] at h1
    exact Nat.mul_le_mul h1 h2
  have f5 : 1 * M ≤ L * M := Nat.mul_le_mul_right _ hlh.2
  have g1 : (L * T * 2 ^ n - 1) * w = L * M - w := by rw [Nat.sub_mul, Nat.one_mul, f1]
  have g2 : (L * T * 2 ^ n + 1) * w = L * M + w := by rw [Nat.add_mul, Nat.one_mul, f1]
  have g3 : (H * T * 2 ^ n - 1) * w = H * M - w := by rw [Nat.sub_mul, Nat.one_mul, f2]
  have g4 : (H * T * 2 ^ n + 1) * w = H * M + w := by rw [Nat.add_mul, Nat.one_mul, f2]
  rw [hM, f1, f2, g1, g2, g3, g4]
  generalize L * M = X1 at *
  generalize H * M = X2 at *
  refine ⟨⟨fun z => by omega, fun z => by omega⟩, ⟨fun z => by omega, fun z => by omega⟩, fun z => by omega, by omega, by omega, fun z => by omega⟩
end Go.Proofs.YtdbnmdchecacdaaDoor.M
end
