import Derived.Laws.ResultCell
import Derived.Test.YtodhmbbiifhiaaaDoorQFnPackj
section
namespace Go.Proofs.YtodhmbbiifhiaaaDoor.G
open Go.RowKit
set_option linter.unusedVariables false
set_option linter.unusedSimpArgs false
def table24 : Array Value := #[.int .i64 (24), .int .i64 (-126), .int .i64 (127), .int .i64 (32), .int .i64 (8), .bool false, .int .i64 (53), .int .i64 (-1022), .int .i64 (1023), .int .i64 (64), .int .i64 (11), .bool false, .int .i64 (64), .int .i64 (-16382), .int .i64 (16383), .int .i64 (80), .int .i64 (15), .bool true, .int .i64 (113), .int .i64 (-16382), .int .i64 (16383), .int .i64 (128), .int .i64 (15), .bool false]
def Tabled (w : World) : Prop := 0 < w.heap.size ∧ ∀ i : Nat, i < 24 → w.cell? ⟨0, i, none⟩ = table24[i]?
theorem results_cell_row_tmp {P : Program} {fn : Func} {p u : Tmp} {ty : TypeId} (h : fn.results = #[.cell p ty, .tmp u]) (tmps : Array Value) (w : World) (g : Nat) (t : TypeId) (cs : Array Value) (fr : Nat × Nat) (d : TypeDesc)
    (hp : tmps.getD p undef = .pointer (some ⟨g, 0, none⟩)) (hg : w.heap[g]? = some (.cells cs t fr))
    (hu : P.underlying ty = some d) (hd : (match d with | .struct _ | .array _ _ => true | _ => false) = true) (hi : (P.info? ty).map (·.size) = some cs.size) :
    (results fn tmps).run P w = .ok (.tuple #[.agg cs, tmps.getD u undef]) w := by
  rw [results_cell_tmp h, hp]
  simp [asAddr, run_loadVar_row w g t ty cs fr d hg hu hd hi, Result.andThen]
theorem isFormat_yes (f : Int) (w : World) (h0 : 0 ≤ f) (h1 : f < 4) : Calls Tryd.prog 58 #[.int .i64 f] w fun e w' => e = .returned (.bool true) ∧ w' = w := by
  go_enter Tryd.func58, Tryd.ntmps58
  go_wp2
  go_ret
  exact ⟨rfl, rfl⟩
theorem isFormat_no (f : Int) (w : World) (h : ¬ (0 ≤ f ∧ f < 4)) : Calls Tryd.prog 58 #[.int .i64 f] w fun e w' => e = .returned (.bool false) ∧ w' = w := by
  by_cases h0 : 0 ≤ f
  · have h1 : ¬ f < 4 := fun g => h ⟨h0, g⟩
    clear h
    go_enter Tryd.func58, Tryd.ntmps58
    go_wp2
    go_ret
    exact ⟨rfl, rfl⟩
  · clear h
    go_enter Tryd.func58, Tryd.ntmps58
    go_wp2
    go_ret
    exact ⟨rfl, rfl⟩
set_option maxHeartbeats 1600000 in
theorem layoutOf_0 (w : World) (hs : 0 < w.heap.size) (c0 : w.cell? ⟨0, 0, none⟩ = some (.int .i64 (24))) (c1 : w.cell? ⟨0, 1, none⟩ = some (.int .i64 (-126))) (c2 : w.cell? ⟨0, 2, none⟩ = some (.int .i64 (127))) (c3 : w.cell? ⟨0, 3, none⟩ = some (.int .i64 (32))) (c4 : w.cell? ⟨0, 4, none⟩ = some (.int .i64 (8))) (c5 : w.cell? ⟨0, 5, none⟩ = some (.bool false)) : Calls Tryd.prog 41 #[.int .i64 0] w fun e w' => e = .returned (.tuple #[.agg #[.int .i64 (24), .int .i64 (-126), .int .i64 (127), .int .i64 (32), .int .i64 (8), .bool false], .bool true]) ∧ w' = w.alloc (.cells #[.int .i64 (24), .int .i64 (-126), .int .i64 (127), .int .i64 (32), .int .i64 (8), .bool false] 81) := by
  go_enter Tryd.func41, Tryd.ntmps41
  go_wp2_with (go_at_call 58; refine (isFormat_yes _ _ (by decide) (by decide)).mono ?_; rintro e w' ⟨rfl, rfl⟩)
  refine bodyPost_ret (results_cell_row_tmp rfl _ _ w.heap.size 81 #[.int .i64 (24), .int .i64 (-126), .int .i64 (127), .int .i64 (32), .int .i64 (8), .bool false] (0, 0) _ rfl (heap_alloc_new _ _) Tryd.underlying81 rfl (by kernel_rfl)) rfl ?_
  exact ⟨rfl, rfl⟩
set_option maxHeartbeats 1600000 in
theorem layoutOf_1 (w : World) (hs : 0 < w.heap.size) (c0 : w.cell? ⟨0, 6, none⟩ = some (.int .i64 (53))) (c1 : w.cell? ⟨0, 7, none⟩ = some (.int .i64 (-1022))) (c2 : w.cell? ⟨0, 8, none⟩ = some (.int .i64 (1023))) (c3 : w.cell? ⟨0, 9, none⟩ = some (.int .i64 (64))) (c4 : w.cell? ⟨0, 10, none⟩ = some (.int .i64 (11))) (c5 : w.cell? ⟨0, 11, none⟩ = some (.bool false)) : Calls Tryd.prog 41 #[.int .i64 1] w fun e w' => e = .returned (.tuple #[.agg #[.int .i64 (53), .int .i64 (-1022), .int .i64 (1023), .int .i64 (64), .int .i64 (11), .bool false], .bool true]) ∧ w' = w.alloc (.cells #[.int .i64 (53), .int .i64 (-1022), .int .i64 (1023), .int .i64 (64), .int .i64 (11), .bool false] 81) := by
  go_enter Tryd.func41, Tryd.ntmps41
  go_wp2_with (go_at_call 58; refine (isFormat_yes _ _ (by decide) (by decide)).mono ?_; rintro e w' ⟨rfl, rfl⟩)
  refine bodyPost_ret (results_cell_row_tmp rfl _ _ w.heap.size 81 #[.int .i64 (53), .int .i64 (-1022), .int .i64 (1023), .int .i64 (64), .int .i64 (11), .bool false] (0, 0) _ rfl (heap_alloc_new _ _) Tryd.underlying81 rfl (by kernel_rfl)) rfl ?_
  exact ⟨rfl, rfl⟩
set_option maxHeartbeats 1600000 in
theorem layoutOf_2 (w : World) (hs : 0 < w.heap.size) (c0 : w.cell? ⟨0, 12, none⟩ = some (.int .i64 (64))) (c1 : w.cell? ⟨0, 13, none⟩ = some (.int .i64 (-16382))) (c2 : w.cell? ⟨0, 14, none⟩ = some (.int .i64 (16383))) (c3 : w.cell? ⟨0, 15, none⟩ = some (.int .i64 (80))) (c4 : w.cell? ⟨0, 16, none⟩ = some (.int .i64 (15))) (c5 : w.cell? ⟨0, 17, none⟩ = some (.bool true)) : Calls Tryd.prog 41 #[.int .i64 2] w fun e w' => e = .returned (.tuple #[.agg #[.int .i64 (64), .int .i64 (-16382), .int .i64 (16383), .int .i64 (80), .int .i64 (15), .bool true], .bool true]) ∧ w' = w.alloc (.cells #[.int .i64 (64), .int .i64 (-16382), .int .i64 (16383), .int .i64 (80), .int .i64 (15), .bool true] 81) := by
  go_enter Tryd.func41, Tryd.ntmps41
  go_wp2_with (go_at_call 58; refine (isFormat_yes _ _ (by decide) (by decide)).mono ?_; rintro e w' ⟨rfl, rfl⟩)
  refine bodyPost_ret (results_cell_row_tmp rfl _ _ w.heap.size 81 #[.int .i64 (64), .int .i64 (-16382), .int .i64 (16383), .int .i64 (80), .int .i64 (15), .bool true] (0, 0) _ rfl (heap_alloc_new _ _) Tryd.underlying81 rfl (by kernel_rfl)) rfl ?_
  exact ⟨rfl, rfl⟩
set_option maxHeartbeats 1600000 in
theorem layoutOf_3 (w : World) (hs : 0 < w.heap.size) (c0 : w.cell? ⟨0, 18, none⟩ = some (.int .i64 (113))) (c1 : w.cell? ⟨0, 19, none⟩ = some (.int .i64 (-16382))) (c2 : w.cell? ⟨0, 20, none⟩ = some (.int .i64 (16383))) (c3 : w.cell? ⟨0, 21, none⟩ = some (.int .i64 (128))) (c4 : w.cell? ⟨0, 22, none⟩ = some (.int .i64 (15))) (c5 : w.cell? ⟨0, 23, none⟩ = some (.bool false)) : Calls Tryd.prog 41 #[.int .i64 3] w fun e w' => e = .returned (.tuple #[.agg #[.int .i64 (113), .int .i64 (-16382), .int .i64 (16383), .int .i64 (128), .int .i64 (15), .bool false], .bool true]) ∧ w' = w.alloc (.cells #[.int .i64 (113), .int .i64 (-16382), .int .i64 (16383), .int .i64 (128), .int .i64 (15), .bool false] 81) := by
  go_enter Tryd.func41, Tryd.ntmps41
  go_wp2_with (go_at_call 58; refine (isFormat_yes _ _ (by decide) (by decide)).mono ?_; rintro e w' ⟨rfl, rfl⟩)
  refine bodyPost_ret (results_cell_row_tmp rfl _ _ w.heap.size 81 #[.int .i64 (113), .int .i64 (-16382), .int .i64 (16383), .int .i64 (128), .int .i64 (15), .bool false] (0, 0) _ rfl (heap_alloc_new _ _) Tryd.underlying81 rfl (by kernel_rfl)) rfl ?_
  exact ⟨rfl, rfl⟩
set_option maxHeartbeats 1600000 in
theorem layoutOf_no (f : Int) (w : World) (h : ¬ (0 ≤ f ∧ f < 4)) : Calls Tryd.prog 41 #[.int .i64 f] w fun e w' => e = .returned (.tuple #[.agg #[.int .i64 (0), .int .i64 (0), .int .i64 (0), .int .i64 (0), .int .i64 (0), .bool false], .bool false]) ∧ w' = w.alloc (.cells #[.int .i64 (0), .int .i64 (0), .int .i64 (0), .int .i64 (0), .int .i64 (0), .bool false] 81) := by
  have hk : Hid (¬ (0 ≤ f ∧ f < 4)) := h
  clear h
  go_enter Tryd.func41, Tryd.ntmps41
  go_wp2_with (go_at_call 58; refine (isFormat_no _ _ hk.out).mono ?_; rintro e w' ⟨rfl, rfl⟩)
  refine bodyPost_ret (results_cell_row_tmp rfl _ _ w.heap.size 81 #[.int .i64 (0), .int .i64 (0), .int .i64 (0), .int .i64 (0), .int .i64 (0), .bool false] (0, 0) _ rfl (heap_alloc_new _ _) Tryd.underlying81 rfl (by kernel_rfl)) rfl ?_
  exact ⟨rfl, rfl⟩
def impl_layoutOf.f (f : Int) : Option (Int × Int × Int × Int × Int × Bool × Bool) :=
  some (if f = 0 then (24, -126, 127, 32, 8, false, true) else if f = 1 then (53, -1022, 1023, 64, 11, false, true) else if f = 2 then (64, -16382, 16383, 80, 15, true, true) else if f = 3 then (113, -16382, 16383, 128, 15, false, true) else (0, 0, 0, 0, 0, false, false))
theorem impl_layoutOf.calls (a0 : Int) (r1 r2 r3 r4 r5 : Int) (r6 r7 : Bool) (w : World) (hT : Tabled w) (h : impl_layoutOf.f a0 = some (r1, r2, r3, r4, r5, r6, r7)) :
    Calls Tryd.prog 41 #[.int .i64 a0] w fun e w' => e = .returned (.tuple #[.agg #[.int .i64 r1, .int .i64 r2, .int .i64 r3, .int .i64 r4, .int .i64 r5, .bool r6], .bool r7]) ∧ Below w.heap.size w w' := by
  have h := Option.some.inj h
  have fin : ∀ {v : Value} {o : Obj}, (Calls Tryd.prog 41 #[.int .i64 a0] w fun e w' => e = .returned v ∧ w' = w.alloc o) → Calls Tryd.prog 41 #[.int .i64 a0] w fun e w' => e = .returned v ∧ Below w.heap.size w w' :=
    fun hc => hc.mono fun e w' ⟨he, hw⟩ => ⟨he, by rw [hw]; exact (Below.refl _ _).alloc (Nat.le_refl _) _⟩
  have hs := hT.1
  have hc := hT.2
  by_cases h0 : a0 = 0
  · subst h0
    rw [if_pos rfl] at h
    injection h with h1 h; injection h with h2 h; injection h with h3 h; injection h with h4 h; injection h with h5 h; injection h with h6 h7
    subst h1 h2 h3 h4 h5 h6 h7
    exact fin (layoutOf_0 w hs (hc 0 (by decide)) (hc 1 (by decide)) (hc 2 (by decide)) (hc 3 (by decide)) (hc 4 (by decide)) (hc 5 (by decide)))
  rw [if_neg h0] at h
  by_cases h0 : a0 = 1
  · subst h0
    rw [if_pos rfl] at h
    injection h with h1 h; injection h with h2 h; injection h with h3 h; injection h with h4 h; injection h with h5 h; injection h with h6 h7
    subst h1 h2 h3 h4 h5 h6 h7
    exact fin (layoutOf_1 w hs (hc 6 (by decide)) (hc 7 (by decide)) (hc 8 (by decide)) (hc 9 (by decide)) (hc 10 (by decide)) (hc 11 (by decide)))
  rw [if_neg h0] at h
  by_cases h0 : a0 = 2
  · subst h0
    rw [if_pos rfl] at h
    injection h with h1 h; injection h with h2 h; injection h with h3 h; injection h with h4 h; injection h with h5 h; injection h with h6 h7
    subst h1 h2 h3 h4 h5 h6 h7
    exact fin (layoutOf_2 w hs (hc 12 (by decide)) (hc 13 (by decide)) (hc 14 (by decide)) (hc 15 (by decide)) (hc 16 (by decide)) (hc 17 (by decide)))
  rw [if_neg h0] at h
  by_cases h0 : a0 = 3
  · subst h0
    rw [if_pos rfl] at h
    injection h with h1 h; injection h with h2 h; injection h with h3 h; injection h with h4 h; injection h with h5 h; injection h with h6 h7
    subst h1 h2 h3 h4 h5 h6 h7
    exact fin (layoutOf_3 w hs (hc 18 (by decide)) (hc 19 (by decide)) (hc 20 (by decide)) (hc 21 (by decide)) (hc 22 (by decide)) (hc 23 (by decide)))
  rw [if_neg h0] at h
  injection h with h1 h; injection h with h2 h; injection h with h3 h; injection h with h4 h; injection h with h5 h; injection h with h6 h7
  subst h1 h2 h3 h4 h5 h6 h7
  exact fin (layoutOf_no a0 w (by omega))
end Go.Proofs.YtodhmbbiifhiaaaDoor.G
end
section
namespace Go.Proofs.YtodhmbbiifhiaaaDoor.G
def spec_Describe.f (f : Int) : Option (Int × Int × Int × Int × Int × Bool) :=
 if f = 0 then some (24, -126, 127, 32, 8, false) else if f = 1 then some (53, -1022, 1023, 64, 11, false) else if f = 2 then some (64, -16382, 16383, 80, 15, true) else if f = 3 then some (113, -16382, 16383, 128, 15, false) else some (0, 0, 0, 0, 0, false)
end Go.Proofs.YtodhmbbiifhiaaaDoor.G
namespace Go.Proofs.YtodhmbbiifhiaaaDoor.M
open Go.RowKit Go.Proofs.YtodhmbbiifhiaaaDoor.G Go.Proofs.YtodhmbbiifhiaaaDoorV.PrintWords Go.Proofs.YtodhmbbiifhiaaaDoorV.PrintLast Go.Proofs.YtodhmbbiifhiaaaDoor.X
set_option linter.unusedVariables false
set_option linter.unusedSimpArgs false
theorem spec_Describe.calls (f : Int) (r1 r2 r3 r4 r5 : Int) (r6 : Bool) (h : spec_Describe.f f = some (r1, r2, r3, r4, r5, r6)) : CtV Tryd.prog 49 [.int .i64 f] [] (.agg #[.int .i64 r1, .int .i64 r2, .int .i64 r3, .int .i64 r4, .int .i64 r5, .bool r6]) := by
 refine ct_of Tryd.func49 rfl (by kernel_rfl) (fun B w0 => ?_)
 unfold spec_Describe.f at h
 by_cases c0 : f = 0
 ·subst c0
  rw [if_pos rfl] at h
  cases h
  refine xg ?_
  refine xb 2 [.int .i64 0, .int .i64 0, .int .i64 0, .int .i64 0, .int .i64 0, .bool false] 79 (fun g0 => ?_)
  refine xz [] [] ?_
  refine SW_seq ?_
  refine xr [] [(3, .int .i64 0)] ?_
  refine SW_block ?_
  refine xr [] [(4, .bool true)] ?_
  refine xs1 ?_
  refine xq [(1, [0])] [] [(0, [.int .i64 24, .int .i64 (-126), .int .i64 127, .int .i64 32, .int .i64 8, .bool false])] ?_
  refine SW_ret ?_
  refine xe () (.agg #[.int .i64 24, .int .i64 (-126), .int .i64 127, .int .i64 32, .int .i64 8, .bool false]) [0] ?_ trivial
  rfl
 ·rw [if_neg c0] at h
  have z0 : (f == 0) = false := by rw [beq_eq_false_iff_ne]; exact c0
  by_cases c1 : f = 1
  ·subst c1
   rw [if_pos rfl] at h
   cases h
   refine xg ?_
   refine xb 2 [.int .i64 0, .int .i64 0, .int .i64 0, .int .i64 0, .int .i64 0, .bool false] 79 (fun g0 => ?_)
   refine xz [] [] ?_
   refine SW_seq ?_
   refine xr [] [(3, .int .i64 1)] ?_
   refine SW_block ?_
   refine xr [] [(4, .bool false)] ?_
   refine xs0 ?_
   refine xr [] [(7, .bool true)] ?_
   refine xs1 ?_
   refine xq [(1, [0])] [] [(0, [.int .i64 53, .int .i64 (-1022), .int .i64 1023, .int .i64 64, .int .i64 11, .bool false])] ?_
   refine SW_ret ?_
   refine xe () (.agg #[.int .i64 53, .int .i64 (-1022), .int .i64 1023, .int .i64 64, .int .i64 11, .bool false]) [0] ?_ trivial
   rfl
  ·rw [if_neg c1] at h
   have z1 : (f == 1) = false := by rw [beq_eq_false_iff_ne]; exact c1
   by_cases c2 : f = 2
   ·subst c2
    rw [if_pos rfl] at h
    cases h
    refine xg ?_
    refine xb 2 [.int .i64 0, .int .i64 0, .int .i64 0, .int .i64 0, .int .i64 0, .bool false] 79 (fun g0 => ?_)
    refine xz [] [] ?_
    refine SW_seq ?_
    refine xr [] [(3, .int .i64 2)] ?_
    refine SW_block ?_
    refine xr [] [(4, .bool false)] ?_
    refine xs0 ?_
    refine xr [] [(7, .bool false)] ?_
    refine xs0 ?_
    refine xr [] [(10, .bool true)] ?_
    refine xs1 ?_
    refine xq [(1, [0])] [] [(0, [.int .i64 64, .int .i64 (-16382), .int .i64 16383, .int .i64 80, .int .i64 15, .bool true])] ?_
    refine SW_ret ?_
    refine xe () (.agg #[.int .i64 64, .int .i64 (-16382), .int .i64 16383, .int .i64 80, .int .i64 15, .bool true]) [0] ?_ trivial
    rfl
   ·rw [if_neg c2] at h
    have z2 : (f == 2) = false := by rw [beq_eq_false_iff_ne]; exact c2
    by_cases c3 : f = 3
    ·subst c3
     rw [if_pos rfl] at h
     cases h
     refine xg ?_
     refine xb 2 [.int .i64 0, .int .i64 0, .int .i64 0, .int .i64 0, .int .i64 0, .bool false] 79 (fun g0 => ?_)
     refine xz [] [] ?_
     refine SW_seq ?_
     refine xr [] [(3, .int .i64 3)] ?_
     refine SW_block ?_
     refine xr [] [(4, .bool false)] ?_
     refine xs0 ?_
     refine xr [] [(7, .bool false)] ?_
     refine xs0 ?_
     refine xr [] [(10, .bool false)] ?_
     refine xs0 ?_
     refine xr [] [(13, .bool true)] ?_
     refine xs1 ?_
     refine xq [(1, [0])] [] [(0, [.int .i64 113, .int .i64 (-16382), .int .i64 16383, .int .i64 128, .int .i64 15, .bool false])] ?_
     refine SW_ret ?_
     refine xe () (.agg #[.int .i64 113, .int .i64 (-16382), .int .i64 16383, .int .i64 128, .int .i64 15, .bool false]) [0] ?_ trivial
     rfl
    ·rw [if_neg c3] at h
     have z3 : (f == 3) = false := by rw [beq_eq_false_iff_ne]; exact c3
     cases h
     refine xg ?_
     refine xb 2 [.int .i64 0, .int .i64 0, .int .i64 0, .int .i64 0, .int .i64 0, .bool false] 79 (fun g0 => ?_)
     refine xz [] [] ?_
     refine SW_seq ?_
     refine xr [] [(3, .int .i64 f)] ?_
     refine SW_block ?_
     refine xr [] [(4, .bool (f == 0))] ?_
     refine xsf z0 ?_
     refine xr [] [(7, .bool (f == 1))] ?_
     refine xsf z1 ?_
     refine xr [] [(10, .bool (f == 2))] ?_
     refine xsf z2 ?_
     refine xr [] [(13, .bool (f == 3))] ?_
     refine xsf z3 ?_
     refine SW_skip ?_
     refine xq [(1, [0])] [] [] ?_
     refine SW_ret ?_
     refine xe () (.agg #[.int .i64 0, .int .i64 0, .int .i64 0, .int .i64 0, .int .i64 0, .bool false]) [0] ?_ trivial
     rfl
theorem ct_spec_Describe {P : Nat} {emin emax : Int} {W E : Nat} {ex : Bool} (f : Int) (hf : spec_Describe.f f = some ((P : Int), emin, emax, (W : Int), (E : Int), ex)) : CtV Tryd.prog 49 [.int .i64 f] [] (dscV P emin emax W E ex) := spec_Describe.calls f _ _ _ _ _ _ hf
theorem ct_impl_layoutOf {P : Nat} {emin emax : Int} {W E : Nat} {ex : Bool} (f : Int) (hf : impl_layoutOf.f f = some ((P : Int), emin, emax, (W : Int), (E : Int), ex, true)) : CtV Tryd.prog 41 [.int .i64 f] [Tabled] (.tuple #[dscV P emin emax W E ex, .bool true]) :=
 ctV1 (fun w h1 => impl_layoutOf.calls _ _ _ _ _ _ _ _ w h1 hf)
theorem ct_impl_layout_fracBits {P : Nat} {emin emax : Int} {W E : Nat} {ex : Bool} (h : Fmt P emin emax W E ex) : CtV Tryd.prog 43 [.agg #[.int .i64 P, .int .i64 emin, .int .i64 emax, .int .i64 W, .int .i64 E, .bool ex]] [] (.int .i64 (fracN P ex)) := by
 refine ct_of Tryd.func43 rfl (by kernel_rfl) (fun B w0 => ?_)
 have hp0 := h.p0
 have hp1 := h.p1
 have v1 : Ve (IntKind.i64.wrap ((P : Int) - 1)) ((P - 1 : Nat) : Int) := veI (by omega) (by omega)
 unfold fracN
 cases ex with
 | true =>
  refine xg ?_
  refine xb 1 [.int .i64 (P : Int), .int .i64 emin, .int .i64 emax, .int .i64 (W : Int), .int .i64 (E : Int), .bool true] 81 (fun g0 => ?_)
  refine xz [] [(2, .int .i64 0)] ?_
  refine SW_seq ?_
  refine xr [(2, [0])] [(5, .bool true)] ?_
  refine xs1 ?_
  refine xr [(2, [0])] [(2, .int .i64 (P : Int))] ?_
  refine SW_ret ?_
  refine xe () (.int .i64 (P : Int)) [] ?_ trivial
  rfl
 | false =>
  refine xg ?_
  refine xb 1 [.int .i64 (P : Int), .int .i64 emin, .int .i64 emax, .int .i64 (W : Int), .int .i64 (E : Int), .bool false] 81 (fun g0 => ?_)
  refine xz [] [(2, .int .i64 0)] ?_
  refine SW_seq ?_
  refine xr [(2, [0])] [(5, .bool false)] ?_
  refine xs0 ?_
  refine SW_skip ?_
  refine xg ?_
  refine xn 3 [(2, [0])] [(11, .int .i64 (P : Int))] ?_
  refine xve 12 IntKind.i64 (IntKind.wrap IntKind.i64 ((P : Int) - 1)) ((((P - 1) : Nat) : Int)) v1 ?_
  refine xz [] [(2, .int .i64 (((P - 1) : Nat) : Int))] ?_
  refine SW_ret ?_
  refine xe () (.int .i64 (((P - 1) : Nat) : Int)) [] ?_ trivial
  rfl
theorem ct_impl_layout_top {P : Nat} {emin emax : Int} {W E : Nat} {ex : Bool} (h : Fmt P emin emax W E ex) : CtV Tryd.prog 45 [.agg #[.int .i64 P, .int .i64 emin, .int .i64 emax, .int .i64 W, .int .i64 E, .bool ex]] [] (.int .i64 ((2 ^ E - 1 : Nat) : Int)) := by
 refine ct_of Tryd.func45 rfl (by kernel_rfl) (fun B w0 => ?_)
 have hE := h.plt
 have he1 := h.e1
 have hp : 0 < 2 ^ E := Nat.pow_pos (by decide)
 have v1 : Ve (shl .i64 1 (E : Int)) ((2 ^ E : Nat) : Int) := ⟨by
  unfold shl
  rw [Int.toNat_natCast, show IntKind.i64.bits = 64 from rfl, Nat.min_eq_left (by omega), show ((1 : Int) * 2 ^ E) = ((2 ^ E : Nat) : Int) by simp]
  exact wrap_i64 (by omega)⟩
 have v2 : Ve (IntKind.i64.wrap (((2 ^ E : Nat) : Int) - 1)) ((2 ^ E - 1 : Nat) : Int) := veI (by omega) (by omega)
 refine xg ?_
 refine xb 1 [.int .i64 (P : Int), .int .i64 emin, .int .i64 emax, .int .i64 (W : Int), .int .i64 (E : Int), .bool ex] 81 (fun g0 => ?_)
 refine xz [] [(2, .int .i64 0)] ?_
 refine xg ?_
 refine xn 3 [(2, [0])] [(5, .int .i64 (E : Int))] ?_
 refine xve 6 IntKind.i64 (shl IntKind.i64 1 (E : Int)) ((((2 ^ E) : Nat) : Int)) v1 ?_
 refine xve 7 IntKind.i64 (IntKind.wrap IntKind.i64 ((((2 ^ E) : Nat) : Int) - 1)) ((((2 ^ E - 1) : Nat) : Int)) v2 ?_
 refine xz [] [(2, .int .i64 (((2 ^ E - 1) : Nat) : Int))] ?_
 refine SW_ret ?_
 refine xe () (.int .i64 (((2 ^ E - 1) : Nat) : Int)) [] ?_ trivial
 rfl
theorem ct_impl_layout_qMin {P : Nat} {emin emax : Int} {W E : Nat} {ex : Bool} (h : Fmt P emin emax W E ex) : CtV Tryd.prog 46 [.agg #[.int .i64 P, .int .i64 emin, .int .i64 emax, .int .i64 W, .int .i64 E, .bool ex]] [] (.int .i64 (emin - P + 1)) := by
 refine ct_of Tryd.func46 rfl (by kernel_rfl) (fun B w0 => ?_)
 have hp1 := h.p1
 have m0 := h.m0
 have v1 : Ve (IntKind.i64.wrap (emin - (P : Int))) (emin - (P : Int)) := ⟨wrap_i64 (by omega)⟩
 have v2 : Ve (IntKind.i64.wrap (emin - (P : Int) + 1)) (emin - (P : Int) + 1) := ⟨wrap_i64 (by omega)⟩
 refine xg ?_
 refine xb 1 [.int .i64 (P : Int), .int .i64 emin, .int .i64 emax, .int .i64 (W : Int), .int .i64 (E : Int), .bool ex] 81 (fun g0 => ?_)
 refine xz [] [(2, .int .i64 0)] ?_
 refine xg ?_
 refine xn 6 [(2, [0]), (5, [0])] [(8, .int .i64 (P : Int)), (5, .int .i64 emin)] ?_
 refine xve 9 IntKind.i64 (IntKind.wrap IntKind.i64 (emin - (P : Int))) (emin - (P : Int)) v1 ?_
 refine xve 10 IntKind.i64 (IntKind.wrap IntKind.i64 (emin - (P : Int) + 1)) (emin - (P : Int) + 1) v2 ?_
 refine xz [] [(2, .int .i64 (emin - (P : Int) + 1))] ?_
 refine SW_ret ?_
 refine xe () (.int .i64 (emin - (P : Int) + 1)) [] ?_ trivial
 rfl
end Go.Proofs.YtodhmbbiifhiaaaDoor.M
end
section
namespace Go.Proofs.YtodhmbbiifhiaaaDoor.M
open Go.RowKit Go.Proofs.YtodhmbbiifhiaaaDoor.G Go.Proofs.YtodhmbbiifhiaaaDoorV.PrintWords Go.Proofs.YtodhmbbiifhiaaaDoorV.PrintLast Go.Proofs.YtodhmbbiifhiaaaDoor.X
set_option linter.unusedVariables false
set_option linter.unusedSimpArgs false
def makeN (P W : Nat) (ex : Bool) (neg lead : Bool) (exp rest : Nat) : Nat :=
 rest + (if ex = true ∧ lead = true then 2 ^ (P - 1) else 0) + exp * 2 ^ fracN P ex + (if neg = true then 2 ^ (W - 1) else 0)
theorem makeN_lt {P : Nat} {emin emax : Int} {W E : Nat} {ex : Bool} (h : Fmt P emin emax W E ex) (neg lead : Bool) (exp rest : Nat) (he : exp < 2 ^ E) (hr : rest < 2 ^ (P - 1)) : makeN P W ex neg lead exp rest < 2 ^ W := by
 have hw1 := h.w1
 have p0 := h.p0
 unfold makeN
 have h1 : rest + (if ex = true ∧ lead = true then 2 ^ (P - 1) else 0) < 2 ^ fracN P ex := by
  unfold fracN
  cases ex with
  | true =>
   rw [if_pos rfl]
   have h2 : 2 ^ P = 2 ^ (P - 1) * 2 := by rw [← Nat.pow_succ]; congr 1; omega
   split <;> omega
  | false =>
   rw [if_neg (show ¬ (false = true ∧ lead = true) from fun a => absurd a.1 (by decide)), if_neg (show ¬ false = true by decide)]
   exact hr
 have h3 : (rest + (if ex = true ∧ lead = true then 2 ^ (P - 1) else 0)) + exp * 2 ^ fracN P ex < 2 ^ (W - 1) := by
  have e1 : 2 ^ (W - 1) = 2 ^ E * 2 ^ fracN P ex := by rw [← Nat.pow_add]; congr 1; omega
  rw [e1]
  have h4 : (exp + 1) * 2 ^ fracN P ex ≤ 2 ^ E * 2 ^ fracN P ex := Nat.mul_le_mul_right _ he
  rw [Nat.add_mul, Nat.one_mul] at h4
  omega
 have h5 : 2 ^ W = 2 ^ (W - 1) * 2 := by rw [← Nat.pow_succ]; congr 1; omega
 rw [h5]
 generalize (rest + (if ex = true ∧ lead = true then 2 ^ (P - 1) else 0)) + exp * 2 ^ fracN P ex = X at *
 generalize 2 ^ (W - 1) = Y at *
 split <;> omega
theorem Weak.mk' {s t : St} (he : t.env.map (fun p => X.look s.env p.1) = t.env.map (fun p => some p.2)) (hb : s.bs = t.bs) (hf : Sub t.fs s.fs) : Weak s t := by
 refine Weak.of ?_ hb hf
 have : ∀ l : List (Nat × Value), l.map (fun p => X.look s.env p.1) = l.map (fun p => some p.2) → lookAll s.env l := by
  intro l
  induction l with
  | nil => intro _; trivial
  | cons p r ih =>
   intro h
   simp only [List.map_cons, List.cons.injEq] at h
   exact ⟨h.1, ih h.2⟩
 exact this _ he
theorem sm128 {x : Nat} (h : x < 2 ^ 250) : Sm x := Sm.of (k := 250) h (by decide)
theorem ct_spec_l2Make {P : Nat} {emin emax : Int} {W E : Nat} {ex : Bool} (h : Fmt P emin emax W E ex) (neg lead : Bool) (exp rest : Nat) (he : exp < 2 ^ E) (hr : rest < 2 ^ (P - 1)) (a : Int) (hea : Nn a exp) (A : Option Addr) (c : Nat) :
  CtV Tryd.prog 109 [dscV P emin emax W E ex, .bool neg, .int .i64 a, .bool lead, .slice A (ofN B32 rest).length c] [Row .u64 A c (ofN B32 rest)] (.agg #[.int .u64 (hiI (makeN P W ex neg lead exp rest)), .int .u64 (loI (makeN P W ex neg lead exp rest))]) := by
 obtain ⟨rfl⟩ := hea
 have p0 := h.p0
 have p1 := h.p1
 have w1 := h.w1
 have w2 := h.w2
 have hlt := makeN_lt h neg lead exp rest he hr
 have h128 : 2 ^ W ≤ B128 := Nat.pow_le_pow_right (n := 2) (by decide) w2
 have hP1 : 2 ^ (P - 1) ≤ 2 ^ 128 := Nat.pow_le_pow_right (by decide) (by omega)
 have s1 : Sm rest := sm128 (by omega)
 have s2 : Sm (2 ^ (P - 1)) := sm128 (by omega)
 have nP : Nn (IntKind.i64.wrap ((P : Int) - 1)) (P - 1) := Nn.wrap (by omega) (by omega)
 have nW : Nn (IntKind.i64.wrap ((W : Int) - 1)) (W - 1) := Nn.wrap (by omega) (by omega)
 have hB : 2 ^ E ≤ 2 ^ 15 := Nat.pow_le_pow_right (by decide) h.e1
 have n1 : Nn (IntKind.u64.wrap (exp : Int)) exp := ⟨wrap_u64_id (by omega)⟩
 have n2 : exp < 18446744073709551616 := by omega
 have s3 : Sm exp := sm128 (by omega)
 have hF : fracN P ex ≤ 113 := by unfold fracN; split <;> omega
 have nF : fracN P ex = if ex = true then P else P - 1 := rfl
 refine ct_of Tryd.func109 rfl (by kernel_rfl) (fun B w0 => ?_)
 refine xg ?_
 refine xb 5 [.int .i64 (P : Int), .int .i64 emin, .int .i64 emax, .int .i64 (W : Int), .int .i64 (E : Int), .bool ex] 79 (fun g0 => ?_)
 refine xb 10 [.int .u64 0, .int .u64 0] 25 (fun g1 => ?_)
 refine xz [] [] ?_
 refine xr [] [(11, .slice A (List.length (ofN B32 rest)) c)] ?_
 refine xr [(1, [0])] [(12, .int .i64 (IntKind.wrap IntKind.i64 ((P : Int) - 1)))] ?_
 refine SW_cut (fun s' => ∃ a x A1 c1, Nn a (fracN P ex) ∧ x = rest + (if ex = true ∧ lead = true then 2 ^ (P - 1) else 0) ∧ Weak s' ⟨[(1, .bool neg), (2, .int .i64 exp), (5, .pointer (some ⟨g0, 0, none⟩)), (10, .pointer (some ⟨g1, 0, none⟩)), (11, .slice A1 (ofN B32 x).length c1), (12, .int .i64 a)], [⟨g0, [.int .i64 P, .int .i64 emin, .int .i64 emax, .int .i64 W, .int .i64 E, .bool ex], 79⟩, ⟨g1, [.int .u64 0, .int .u64 0], 25⟩], [Row .u64 A1 c1 (ofN B32 x)]⟩) ?_ ?_
 ·refine xr [(1, [0])] [(18, .bool ex)] ?_
  refine xs (ex) (fun q0 => ?_) (fun q0 => ?_)
  ·refine xr [(1, [0])] [(12, .int .i64 (P : Int))] ?_
   refine xr [] [(21, .bool lead)] ?_
   refine xs (lead) (fun q1 => ?_) (fun q1 => ?_)
   ·refine SW_region ?_
    refine xn 4 [(2, [0])] [(25, .int .i64 (IntKind.wrap IntKind.i64 ((P : Int) - 1))), (22, .slice A (List.length (ofN B32 rest)) c)] ?_
    refine xcr 26 (ct_spec_l2Two (IntKind.wrap IntKind.i64 ((P : Int) - 1)) (P - 1) nP (by omega)) zs0 (fun A0 k0 => ?_)
    refine xcr 27 (ct_spec_l1Add (rest) (2 ^ (P - 1)) (A) (A0) (c) (k0) s1 s2) (zsS (ziS zi0) (zsS zi0 zs0)) (fun A1 k1 => ?_)
    refine xz [] [(11, .slice A1 (List.length (ofN B32 (rest + 2 ^ (P - 1)))) k1)] ?_
    refine ⟨(P : Int), _, A1, k1, ⟨by rw [nF, if_pos q0]⟩, rfl, ?_⟩
    rw [if_pos ⟨q0, q1⟩]
    exact Weak.mk' (by kernel_rfl) rfl (zsS zi0 zs0)
   ·refine SW_skip ?_
    refine ⟨(P : Int), _, A, c, ⟨by rw [nF, if_pos q0]⟩, rfl, ?_⟩
    rw [if_neg (fun z => by rw [z.2] at q1; cases q1)]
    exact Weak.mk' (by kernel_rfl) rfl (zsS zi0 zs0)
  ·refine SW_skip ?_
   refine ⟨IntKind.i64.wrap ((P : Int) - 1), _, A, c, ⟨by rw [nF, if_neg (by rw [q0]; decide)]; exact nP.out⟩, rfl, ?_⟩
   rw [if_neg (fun z => by rw [z.1] at q0; cases q0)]
   exact Weak.mk' (by kernel_rfl) rfl (zsS zi0 zs0)
 ·rintro s' ⟨a, x, A1, c1, na, hx, hw⟩
  refine SW_weak hw ?_
  have hm : makeN P W ex neg lead exp rest = x + exp * 2 ^ fracN P ex + (if neg = true then 2 ^ (W - 1) else 0) := by rw [hx]; rfl
  rw [hm] at hlt ⊢
  have hW1 : 2 ^ (W - 1) ≤ 2 ^ 128 := Nat.pow_le_pow_right (by decide) (by omega)
  have hl0 : x + exp * 2 ^ fracN P ex < 2 ^ 128 := Nat.lt_of_le_of_lt (Nat.le_add_right _ _) (Nat.lt_of_lt_of_le hlt h128)
  have hl1 : x + exp * 2 ^ fracN P ex + (if neg = true then 2 ^ (W - 1) else 0) < B128 := Nat.lt_of_lt_of_le hlt h128
  have s4 : Sm x := sm128 (by omega)
  have s5 : Sm (exp * 2 ^ fracN P ex) := sm128 (by omega)
  have s6 : Sm (x + exp * 2 ^ fracN P ex) := sm128 (by omega)
  have s7 : Sm (2 ^ (W - 1)) := sm128 (by omega)
  refine xg ?_
  refine xn 3 [] [(30, .int .u64 (IntKind.wrap IntKind.u64 (exp : Int))), (28, .slice A1 (List.length (ofN B32 x)) c1)] ?_
  refine xcr 31 (ct_spec_l1Of (IntKind.wrap IntKind.u64 (exp : Int)) (exp) n1 n2) zs0 (fun A2 k2 => ?_)
  refine xn 5 [] [(32, .int .i64 a)] ?_
  refine xcr 33 (ct_spec_l1Left (exp) (A2) (k2) (a) (fracN P ex) na (by omega) s3) (zsS zi0 zs0) (fun A3 k3 => ?_)
  refine xcr 34 (ct_spec_l1Add (x) (exp * 2 ^ fracN P ex) (A1) (A3) (c1) (k3) s4 s5) (zsS (ziS (ziS zi0)) (zsS zi0 zs0)) (fun A4 k4 => ?_)
  refine xz [] [(11, .slice A4 (List.length (ofN B32 (x + exp * 2 ^ fracN P ex))) k4)] ?_
  refine SW_cut (fun s' => ∃ A2 c2, Weak s' ⟨[(10, .pointer (some ⟨g1, 0, none⟩)), (11, .slice A2 (ofN B32 (x + exp * 2 ^ fracN P ex + (if neg = true then 2 ^ (W - 1) else 0))).length c2)], [⟨g0, [.int .i64 P, .int .i64 emin, .int .i64 emax, .int .i64 W, .int .i64 E, .bool ex], 79⟩, ⟨g1, [.int .u64 0, .int .u64 0], 25⟩], [Row .u64 A2 c2 (ofN B32 (x + exp * 2 ^ fracN P ex + (if neg = true then 2 ^ (W - 1) else 0)))]⟩) ?_ ?_
  ·refine xr [] [(35, .bool neg)] ?_
   refine xs (neg) (fun q0 => ?_) (fun q0 => ?_)
   ·refine SW_region ?_
    refine xn 4 [(2, [0])] [(39, .int .i64 (IntKind.wrap IntKind.i64 ((W : Int) - 1))), (36, .slice A4 (List.length (ofN B32 (x + exp * 2 ^ fracN P ex))) k4)] ?_
    refine xcr 40 (ct_spec_l2Two (IntKind.wrap IntKind.i64 ((W : Int) - 1)) (W - 1) nW (by omega)) zs0 (fun A5 k5 => ?_)
    refine xcr 41 (ct_spec_l1Add (x + exp * 2 ^ fracN P ex) (2 ^ (W - 1)) (A4) (A5) (k4) (k5) s6 s7) (zsS (ziS zi0) (zsS zi0 zs0)) (fun A6 k6 => ?_)
    refine xz [] [(11, .slice A6 (List.length (ofN B32 (x + exp * 2 ^ fracN P ex + 2 ^ (W - 1)))) k6)] ?_
    refine ⟨A6, k6, ?_⟩
    rw [if_pos q0]
    exact Weak.mk' (by kernel_rfl) rfl (zsS zi0 zs0)
   ·refine SW_skip ?_
    refine ⟨A4, k4, ?_⟩
    rw [if_neg (by rw [q0]; decide), Nat.add_zero]
    exact Weak.mk' (by kernel_rfl) rfl (zsS zi0 zs0)
  ·rintro s' ⟨A2, c2, hw⟩
   refine SW_weak hw ?_
   refine xg ?_
   refine xn 1 [] [(42, .slice A2 (List.length (ofN B32 (x + exp * 2 ^ fracN P ex + if neg = true then 2 ^ (W - 1) else 0))) c2)] ?_
   refine xcv 43 (ct_spec_l2Word (x + exp * 2 ^ fracN P ex + if neg = true then 2 ^ (W - 1) else 0) (A2) (c2) hl1) (zsS zi0 zs0) ?_
   refine xy [(2, [1])] [] [(1, [.int .u64 (hiI (x + exp * 2 ^ fracN P ex + if neg = true then 2 ^ (W - 1) else 0)), .int .u64 (loI (x + exp * 2 ^ fracN P ex + if neg = true then 2 ^ (W - 1) else 0))])] ?_
   refine SW_ret ?_
   refine xe () (.agg #[.int .u64 (hiI (x + exp * 2 ^ fracN P ex + if neg = true then 2 ^ (W - 1) else 0)), .int .u64 (loI (x + exp * 2 ^ fracN P ex + if neg = true then 2 ^ (W - 1) else 0))]) [1] ?_ trivial
   rfl
theorem ct_spec_l2Make' {P : Nat} {emin emax : Int} {W E : Nat} {ex : Bool} (h : Fmt P emin emax W E ex) (neg lead : Bool) (exp : Nat) (he : exp < 2 ^ E) (a : Int) (hea : Nn a exp) :
  CtV Tryd.prog 109 [dscV P emin emax W E ex, .bool neg, .int .i64 a, .bool lead, .slice none 0 0] [] (.agg #[.int .u64 (hiI (makeN P W ex neg lead exp 0)), .int .u64 (loI (makeN P W ex neg lead exp 0))]) := by
 have := ct_spec_l2Make h neg lead exp 0 he (Nat.pow_pos (by decide)) a hea none 0
 rw [ofN_nil B32_2] at this
 exact Ct_drop (Row_nil _ _) this
end Go.Proofs.YtodhmbbiifhiaaaDoor.M
end
section
namespace Go.Proofs.YtodhmbbiifhiaaaDoor.M
open Go.RowKit Go.Proofs.YtodhmbbiifhiaaaDoor.G Go.Proofs.YtodhmbbiifhiaaaDoorV.PrintWords Go.Proofs.YtodhmbbiifhiaaaDoorV.PrintLast Go.Proofs.YtodhmbbiifhiaaaDoor.X
set_option linter.unusedVariables false
set_option linter.unusedSimpArgs false
structure Fmt2 (P : Nat) (emin emax : Int) (W E : Nat) (ex : Bool) : Prop extends Fmt P emin emax W E ex where
  top : 2 * emax + 1 = ((2 ^ E - 1 : Nat) : Int)
  mn : emin = 1 - emax
  p3 : 3 ≤ P
theorem fmt2_0 : Fmt2 24 (-126) 127 32 8 false := ⟨fmt0, by decide, by decide, by decide⟩
theorem fmt2_1 : Fmt2 53 (-1022) 1023 64 11 false := ⟨fmt1, by decide, by decide, by decide⟩
theorem fmt2_2 : Fmt2 64 (-16382) 16383 80 15 true := ⟨fmt2, by decide, by decide, by decide⟩
theorem fmt2_3 : Fmt2 113 (-16382) 16383 128 15 false := ⟨fmt3, by decide, by decide, by decide⟩
theorem hilo_inj {a b : Nat} (h1 : hiI a = hiI b) (h2 : loI a = loI b) : a = b := by
  unfold hiI at h1
  unfold loI at h2
  omega
section
variable {P : Nat} {emin emax : Int} {W E : Nat} {ex : Bool}
theorem unp_make (h : Fmt P emin emax W E ex) (neg : Bool) (e rest : Nat) (he : e < 2 ^ E) (hr : rest < 2 ^ (P - 1)) : unpN P emin emax W E ex (makeN P W ex neg (decide (e ≠ 0)) e rest) = partsOf P emin emax E e neg rest := by
  have hw1 := h.w1
  have p0 := h.p0
  have hlt := makeN_lt h neg (decide (e ≠ 0)) e rest he hr
  unfold unpN
  rw [if_neg (Nat.not_le.2 hlt)]
  obtain ⟨low, hlow⟩ : ∃ low, low = rest + (if ex = true ∧ decide (e ≠ 0) = true then 2 ^ (P - 1) else 0) := ⟨_, rfl⟩
  have hl : low < 2 ^ fracN P ex := by
    rw [hlow]
    unfold fracN
    cases ex with
    | true =>
      rw [if_pos rfl]
      have h2 : 2 ^ P = 2 ^ (P - 1) * 2 := by rw [← Nat.pow_succ]; congr 1; omega
      split <;> omega
    | false =>
      rw [if_neg (show ¬ (false = true ∧ decide (e ≠ 0) = true) from fun a => absurd a.1 (by decide)), if_neg (show ¬ false = true by decide)]
      exact hr
  have hm : makeN P W ex neg (decide (e ≠ 0)) e rest = low + (e + (if neg = true then 2 ^ E else 0)) * 2 ^ fracN P ex := by
    unfold makeN
    rw [← hlow, Nat.add_mul, Nat.add_assoc]
    congr 2
    cases neg with
    | true => rw [if_pos rfl, if_pos rfl, ← Nat.pow_add]; congr 1; omega
    | false => rw [if_neg (by decide), if_neg (by decide), Nat.zero_mul]
  have hp : 0 < 2 ^ fracN P ex := Nat.pow_pos (by decide)
  have m1 : makeN P W ex neg (decide (e ≠ 0)) e rest % 2 ^ fracN P ex = low := by rw [hm, Nat.add_mul_mod_self_right, Nat.mod_eq_of_lt hl]
  have m2 : makeN P W ex neg (decide (e ≠ 0)) e rest / 2 ^ fracN P ex = e + (if neg = true then 2 ^ E else 0) := by rw [hm, Nat.add_mul_div_right _ _ hp, Nat.div_eq_of_lt hl, Nat.zero_add]
  have m3 : (e + (if neg = true then 2 ^ E else 0)) % 2 ^ E = e := by
    cases neg with
    | true => rw [if_pos rfl, Nat.add_mod_right, Nat.mod_eq_of_lt he]
    | false => rw [if_neg (by decide), Nat.add_zero, Nat.mod_eq_of_lt he]
  have m4 : decide (makeN P W ex neg (decide (e ≠ 0)) e rest / 2 ^ (W - 1) % 2 = 1) = neg := by
    have : 2 ^ (W - 1) = 2 ^ fracN P ex * 2 ^ E := by rw [← Nat.pow_add]; congr 1; omega
    rw [this, ← Nat.div_div_eq_div_mul, m2]
    have hE : 0 < 2 ^ E := Nat.pow_pos (by decide)
    cases neg with
    | true =>
      rw [if_pos rfl, Nat.add_div_right _ hE, Nat.div_eq_of_lt he]
      rfl
    | false =>
      rw [if_neg (by decide), Nat.add_zero, Nat.div_eq_of_lt he]
      rfl
  rw [m4]
  cases ex with
  | false =>
    have hf : fracN P false = P - 1 := rfl
    rw [hf] at m1 m2
    rw [if_neg (by decide), m1, m2, m3, hlow, if_neg (show ¬ (false = true ∧ decide (e ≠ 0) = true) from fun a => absurd a.1 (by decide)), Nat.add_zero]
  | true =>
    have hf : fracN P true = P := rfl
    rw [hf] at m1 m2
    rw [if_pos rfl, m1, m2, m3]
    have hq : low % 2 ^ (P - 1) = rest := by
      rw [hlow]
      split
      · rw [Nat.add_mod_right, Nat.mod_eq_of_lt hr]
      · rw [Nat.add_zero, Nat.mod_eq_of_lt hr]
    rw [hq, if_pos]
    rw [hlow]
    by_cases h0 : e = 0
    · rw [if_neg (by simp [h0])]
      exact ⟨fun z => by omega, fun z => absurd h0 z⟩
    · rw [if_pos (by simp [h0])]
      exact ⟨fun _ => h0, fun _ => by omega⟩
theorem unp_cases (w : Nat) : unpN P emin emax W E ex w = badP ∨ ∃ e neg rest, e < 2 ^ E ∧ rest < 2 ^ (P - 1) ∧ unpN P emin emax W E ex w = partsOf P emin emax E e neg rest := by
  have h1 : ∀ z : Nat, z % 2 ^ E < 2 ^ E := fun z => Nat.mod_lt _ (Nat.pow_pos (by decide))
  have h2 : ∀ z : Nat, z % 2 ^ (P - 1) < 2 ^ (P - 1) := fun z => Nat.mod_lt _ (Nat.pow_pos (by decide))
  unfold unpN
  split
  · exact .inl rfl
  · split
    · split
      · exact .inr ⟨_, _, _, h1 _, h2 _, rfl⟩
      · exact .inl rfl
    · exact .inr ⟨_, _, _, h1 _, h2 _, rfl⟩
theorem unp_sig (h : Fmt P emin emax W E ex) {w : Nat} {c : Int} {neg : Bool} {S : Nat} {q : Int} (hu : unpN P emin emax W E ex w = (c, neg, hiI S, loI S, q)) : (c = 2 → S < 2 ^ (P - 1)) ∧ (c = 3 → 2 ^ (P - 1) ≤ S ∧ S < 2 ^ P) := by
  have p0 := h.p0
  have hP : 2 ^ P = 2 ^ (P - 1) * 2 := by rw [← Nat.pow_succ]; congr 1; omega
  rcases unp_cases (P := P) (emin := emin) (emax := emax) (W := W) (E := E) (ex := ex) w with hb | ⟨e, n2, rest, he, hr, hb⟩
  · rw [hb] at hu
    have : c = 0 := by have := congrArg Prod.fst hu; exact this.symm
    exact ⟨fun z => by omega, fun z => by omega⟩
  · rw [hb] at hu
    unfold partsOf at hu
    split at hu
    · split at hu
      · have : c = 4 := (congrArg Prod.fst hu).symm
        exact ⟨fun z => by omega, fun z => by omega⟩
      · have : c = 5 := (congrArg Prod.fst hu).symm
        exact ⟨fun z => by omega, fun z => by omega⟩
    · split at hu
      · split at hu
        · have : c = 1 := (congrArg Prod.fst hu).symm
          exact ⟨fun z => by omega, fun z => by omega⟩
        · simp only [Prod.mk.injEq] at hu
          obtain ⟨h1, h2, h3, h4, h5⟩ := hu
          have := hilo_inj h3 h4
          exact ⟨fun z => by omega, fun z => by omega⟩
      · simp only [Prod.mk.injEq] at hu
        obtain ⟨h1, h2, h3, h4, h5⟩ := hu
        have := hilo_inj h3 h4
        exact ⟨fun z => by omega, fun z => by omega⟩
end
def packN (P : Nat) (emax : Int) (W E : Nat) (ex : Bool) (c : Int) (neg : Bool) (S : Nat) (q : Int) : Option Nat :=
  if c = 1 then some (makeN P W ex neg false 0 0)
  else if c = 4 then some (makeN P W ex neg true (2 ^ E - 1) 0)
  else if c = 5 then some (makeN P W ex false true (2 ^ E - 1) (2 ^ (P - 2)))
  else if c = 2 then (if S < 2 ^ (P - 1) then some (makeN P W ex neg false 0 S) else none)
  else if c = 3 then (if (2 ^ (P - 1) ≤ S ∧ S < 2 ^ P) ∧ 1 ≤ q + emax + P - 1 ∧ q + emax + P - 1 < ((2 ^ E - 1 : Nat) : Int) then some (makeN P W ex neg true (q + emax + P - 1).toNat (S % 2 ^ (P - 1))) else none)
  else none
def packR (P : Nat) (emin emax : Int) (W E : Nat) (ex : Bool) (c : Int) (neg : Bool) (S : Nat) (q : Int) : Nat × Bool :=
  match packN P emax W E ex c neg S q with
  | none => (0, false)
  | some w => if unpN P emin emax W E ex w = (c, neg, hiI S, loI S, q) then (w, true) else (0, false)
def eqb (u p : Prt) : Bool := (u.1 == p.1) && ((u.2.1 == p.2.1) && (((u.2.2.1 == p.2.2.1) && (u.2.2.2.1 == p.2.2.2.1)) && (u.2.2.2.2 == p.2.2.2.2)))
theorem eqb_iff (u p : Prt) : eqb u p = true ↔ u = p := by
  obtain ⟨a, b, c, d, e⟩ := u
  obtain ⟨a', b', c', d', e'⟩ := p
  simp [eqb, Prod.mk.injEq, and_assoc]
theorem packR_some {P : Nat} {emin emax : Int} {W E : Nat} {ex : Bool} {c : Int} {neg : Bool} {S : Nat} {q : Int} {w : Nat} (h : packN P emax W E ex c neg S q = some w) :
    packR P emin emax W E ex c neg S q = if unpN P emin emax W E ex w = (c, neg, hiI S, loI S, q) then (w, true) else (0, false) := by unfold packR; rw [h]
theorem packR_none {P : Nat} {emin emax : Int} {W E : Nat} {ex : Bool} {c : Int} {neg : Bool} {S : Nat} {q : Int} (h : packN P emax W E ex c neg S q = none) : packR P emin emax W E ex c neg S q = (0, false) := by unfold packR; rw [h]
theorem packR_of {P : Nat} {emin emax : Int} {W E : Nat} {ex : Bool} {c : Int} {neg : Bool} {S : Nat} {q : Int} {w : Nat} (h : packN P emax W E ex c neg S q = some w ∨ (packR P emin emax W E ex c neg S q = (0, false) ∧ unpN P emin emax W E ex w ≠ (c, neg, hiI S, loI S, q))) :
    packR P emin emax W E ex c neg S q = if unpN P emin emax W E ex w = (c, neg, hiI S, loI S, q) then (w, true) else (0, false) := by
  rcases h with h | ⟨h1, h2⟩
  · exact packR_some h
  · rw [h1, if_neg h2]
theorem wrap_flat (a b c : Int) : wrap64 (wrap64 (wrap64 a + b) - c) = wrap64 (a + b - c) := by
  unfold wrap64
  omega
theorem wrap_big (x : Int) (h : 9223372036854775808 ≤ x) (h2 : x ≤ 9223372036855775808) : wrap64 x < 0 := by
  unfold wrap64
  omega
theorem wrapE (q emax : Int) (P : Nat) (hq : -9223372036854775808 ≤ q ∧ q ≤ 9223372036854775807) (h0 : 0 ≤ emax) (h1 : emax ≤ 20000) (hP : P ≤ 113) (hP1 : 1 ≤ P) :
    IntKind.i64.wrap (IntKind.i64.wrap (IntKind.i64.wrap (q + emax) + (P : Int)) - 1) = q + emax + P - 1 ∨ (IntKind.i64.wrap (IntKind.i64.wrap (IntKind.i64.wrap (q + emax) + (P : Int)) - 1) < 1 ∧ 9223372036854775808 ≤ q + emax + P - 1) := by
  rw [i64_w, i64_w, i64_w, wrap_flat]
  by_cases h : q + emax + P - 1 ≤ 9223372036854775807
  · exact .inl (wrap64_id ⟨by omega, h⟩)
  · exact .inr ⟨Int.lt_of_lt_of_le (wrap_big _ (by omega) (by omega)) (by decide), by omega⟩
theorem bits_ex (x : Nat) : ∃ m, IsBits x m := by
  induction x using Nat.strongRecOn with
  | _ x ih =>
    by_cases h0 : x = 0
    · exact ⟨0, by rw [h0]; exact IsBits.zero⟩
    · obtain ⟨m, h1, h2⟩ := ih (x / 2) (by omega)
      refine ⟨m + 1, ?_, .inr ?_⟩
      · rw [Nat.pow_succ]; omega
      · rcases h2 with h2 | h2
        · subst h2; simp at h1 ⊢; omega
        · have hm : m ≠ 0 := by
            intro z; subst z; simp at h2 h1; omega
          have : 2 ^ m = 2 ^ (m - 1) * 2 := by rw [← Nat.pow_succ]; congr 1; omega
          simp only [Nat.add_sub_cancel]
          rw [this]
          omega
theorem bits_lt {x m k : Nat} (h : IsBits x m) : m ≤ k ↔ x < 2 ^ k := by
  constructor
  · intro hk
    exact Nat.lt_of_lt_of_le h.1 (Nat.pow_le_pow_right (by decide) hk)
  · intro hk
    exact h.le hk
def packU (P : Nat) (emax : Int) (E : Nat) (ex : Bool) (c : Int) (S : Nat) (q : Int) : Option Nat :=
  if c = 1 then some 0
  else if c = 2 then some S
  else if c = 3 then (if 1 ≤ q + emax + P - 1 ∧ q + emax + P - 1 < ((2 ^ E - 1 : Nat) : Int) then some (S % 2 ^ fracN P ex ||| (q + emax + P - 1).toNat * 2 ^ fracN P ex) else none)
  else if c = 4 then some (if ex = true then ((2 ^ E - 1) * 2 ^ fracN P ex ||| 2 ^ (P - 1)) else (2 ^ E - 1) * 2 ^ fracN P ex)
  else if c = 5 then some ((if ex = true then ((2 ^ E - 1) * 2 ^ fracN P ex ||| 2 ^ (P - 1)) else (2 ^ E - 1) * 2 ^ fracN P ex) ||| 2 ^ (P - 2))
  else some 0
theorem lor_add {a b i : Nat} (h : b < 2 ^ i) : b ||| a * 2 ^ i = b + a * 2 ^ i := by
  have := Nat.two_pow_add_eq_or_of_lt h a
  rw [Nat.mul_comm a, Nat.or_comm, ← this, Nat.add_comm]
theorem lor_add' {a b i : Nat} (h : b < 2 ^ i) : a * 2 ^ i ||| b = a * 2 ^ i + b := by rw [Nat.or_comm, lor_add h, Nat.add_comm]
theorem lor_top {b i : Nat} (h : b < 2 ^ i) : b ||| 2 ^ i = b + 2 ^ i := by
  have := lor_add (a := 1) h
  rwa [Nat.one_mul] at this
section
variable {P : Nat} {emin emax : Int} {W E : Nat} {ex : Bool}
theorem sign_make (h : Fmt P emin emax W E ex) (neg lead : Bool) (e r u : Nat) (he : e < 2 ^ E) (hr : r < 2 ^ (P - 1)) (hu : u = r + (if ex = true ∧ lead = true then 2 ^ (P - 1) else 0) + e * 2 ^ fracN P ex) :
    (if neg = true then u ||| 2 ^ (W - 1) else u) = makeN P W ex neg lead e r := by
  have hw1 := h.w1
  have h0 : makeN P W ex false lead e r = u := by rw [hu]; unfold makeN; rw [if_neg (show ¬ false = true by decide), Nat.add_zero]
  have hlt : u < 2 ^ (W - 1) := by
    have hl := makeN_lt h true lead e r he hr
    have h1 : makeN P W ex true lead e r = u + 2 ^ (W - 1) := by rw [hu]; unfold makeN; rw [if_pos rfl]
    rw [h1] at hl
    have h5 : 2 ^ W = 2 ^ (W - 1) * 2 := by rw [← Nat.pow_succ]; congr 1; omega
    omega
  cases neg with
  | true =>
    rw [if_pos rfl, lor_top hlt, hu]
    unfold makeN
    rw [if_pos rfl]
  | false => rw [if_neg (by decide), h0]
theorem packU_none (h : Fmt2 P emin emax W E ex) {c : Int} {neg : Bool} {S : Nat} {q : Int} (hu : packU P emax E ex c S q = none) : packR P emin emax W E ex c neg S q = (0, false) := by
  unfold packU at hu
  split at hu
  · cases hu
  · split at hu
    · cases hu
    · split at hu
      · rename_i h1 h2 h3
        split at hu
        · cases hu
        · rename_i h4
          refine packR_none ?_
          unfold packN
          rw [if_neg h1, if_neg (by omega), if_neg (by omega), if_neg h2, if_pos h3, if_neg (fun z => h4 z.2)]
      · split at hu
        · cases hu
        · split at hu
          · cases hu
          · cases hu
theorem packU_some (h : Fmt2 P emin emax W E ex) {c : Int} {neg : Bool} {S : Nat} {q : Int} {u : Nat} (hu : packU P emax E ex c S q = some u) :
    packR P emin emax W E ex c neg S q = if unpN P emin emax W E ex (if neg = true then u ||| 2 ^ (W - 1) else u) = (c, neg, hiI S, loI S, q) then ((if neg = true then u ||| 2 ^ (W - 1) else u), true) else (0, false) := by
  have h1 := h.toFmt
  have p3 := h.p3
  have e0 : 0 < 2 ^ E := Nat.pow_pos (by decide)
  have e1 : 2 ^ E - 1 < 2 ^ E := by omega
  have z0 : 0 < 2 ^ (P - 1) := Nat.pow_pos (by decide)
  have r2 : 2 ^ (P - 2) < 2 ^ (P - 1) := Nat.pow_lt_pow_right (by decide) (by omega)
  have hP : 2 ^ P = 2 ^ (P - 1) * 2 := by rw [← Nat.pow_succ]; congr 1; omega
  have hfr : 2 ^ (P - 1) ≤ 2 ^ fracN P ex := Nat.pow_le_pow_right (by decide) (by unfold fracN; split <;> omega)
  -- the sign bit alone
  have zero : ∀ n : Bool, unpN P emin emax W E ex (if n = true then 0 ||| 2 ^ (W - 1) else 0) = (1, n, 0, 0, 0) := by
    intro n
    rw [sign_make h1 n false 0 0 0 e0 z0 (by simp)]
    have := unp_make h1 n 0 0 e0 z0
    simp only [ne_eq, not_true, decide_false] at this
    rw [this]
    unfold partsOf
    have hE := h1.e0
    have : (2 : Nat) ≤ 2 ^ E := by
      have := Nat.pow_le_pow_right (n := 2) (by decide) hE
      simpa using this
    rw [if_neg (by omega), if_pos rfl, if_pos rfl]
  have tb : (if ex = true then ((2 ^ E - 1) * 2 ^ fracN P ex ||| 2 ^ (P - 1)) else (2 ^ E - 1) * 2 ^ fracN P ex) = (if ex = true ∧ true = true then 2 ^ (P - 1) else 0) + (2 ^ E - 1) * 2 ^ fracN P ex := by
    cases hex : ex with
    | true =>
      rw [if_pos rfl, if_pos ⟨rfl, rfl⟩, lor_add' (by unfold fracN; rw [if_pos rfl]; omega), Nat.add_comm]
    | false => rw [if_neg (by decide), if_neg (fun z => absurd z.1 (by decide)), Nat.zero_add]
  refine packR_of ?_
  unfold packU at hu
  by_cases c1 : c = 1
  · rw [if_pos c1] at hu
    cases hu
    exact .inl (by unfold packN; rw [if_pos c1, sign_make h1 neg false 0 0 0 e0 z0 (by simp)])
  rw [if_neg c1] at hu
  by_cases c2 : c = 2
  · rw [if_pos c2] at hu
    cases hu
    have hpk : packN P emax W E ex c neg S q = if S < 2 ^ (P - 1) then some (makeN P W ex neg false 0 S) else none := by unfold packN; rw [if_neg c1, if_neg (by omega), if_neg (by omega), if_pos c2]
    by_cases hS : S < 2 ^ (P - 1)
    · exact .inl (by rw [hpk, if_pos hS, sign_make h1 neg false 0 S S e0 hS (by simp)])
    · refine .inr ⟨packR_none (by rw [hpk, if_neg hS]), fun he => hS ((unp_sig h1 he).1 c2)⟩
  rw [if_neg c2] at hu
  by_cases c3 : c = 3
  · rw [if_pos c3] at hu
    have hpk : packN P emax W E ex c neg S q = if (2 ^ (P - 1) ≤ S ∧ S < 2 ^ P) ∧ 1 ≤ q + emax + P - 1 ∧ q + emax + P - 1 < ((2 ^ E - 1 : Nat) : Int) then some (makeN P W ex neg true (q + emax + P - 1).toNat (S % 2 ^ (P - 1))) else none := by unfold packN; rw [if_neg c1, if_neg (by omega), if_neg (by omega), if_neg c2, if_pos c3]
    split at hu
    · rename_i hr
      cases hu
      have he3 : (q + emax + P - 1).toNat < 2 ^ E := by omega
      by_cases hS : 2 ^ (P - 1) ≤ S ∧ S < 2 ^ P
      · refine .inl ?_
        rw [hpk, if_pos ⟨hS, hr⟩, sign_make h1 neg true _ (S % 2 ^ (P - 1)) _ he3 (Nat.mod_lt _ z0) ?_]
        rw [lor_add (Nat.mod_lt _ (Nat.pow_pos (by decide)))]
        congr 1
        cases hex : ex with
        | true =>
          have : fracN P true = P := rfl
          rw [this, if_pos ⟨rfl, rfl⟩, Nat.mod_eq_of_lt hS.2, Nat.mod_eq_sub_mod hS.1, Nat.mod_eq_of_lt (by omega)]
          omega
        | false =>
          have : fracN P false = P - 1 := rfl
          rw [this, if_neg (fun z => absurd z.1 (by decide)), Nat.add_zero]
      · exact .inr ⟨packR_none (by rw [hpk, if_neg (fun z => hS z.1)]), fun he => hS ((unp_sig h1 he).2 c3)⟩
    · cases hu
  rw [if_neg c3] at hu
  by_cases c4 : c = 4
  · rw [if_pos c4] at hu
    cases hu
    exact .inl (by unfold packN; rw [if_neg c1, if_pos c4, sign_make h1 neg true (2 ^ E - 1) 0 _ e1 z0 (by rw [tb, Nat.zero_add])])
  rw [if_neg c4] at hu
  by_cases c5 : c = 5
  · rw [if_pos c5] at hu
    injection hu with hu
    have hu2 : u = 2 ^ (P - 2) + (if ex = true ∧ true = true then 2 ^ (P - 1) else 0) + (2 ^ E - 1) * 2 ^ fracN P ex := by
      rw [← hu, tb]
      cases hex : ex with
      | true =>
        have hf : fracN P true = P := rfl
        rw [if_pos ⟨rfl, rfl⟩, hf]
        have e5 : 2 ^ (P - 1) + (2 ^ E - 1) * 2 ^ P = (1 + (2 ^ E - 1) * 2) * 2 ^ (P - 1) := by rw [hP, Nat.add_mul, Nat.one_mul, Nat.mul_comm (2 ^ (P - 1)) 2, Nat.mul_assoc]
        rw [Nat.add_assoc, e5, lor_add' r2, Nat.add_comm]
      | false =>
        rw [if_neg (fun z => absurd z.1 (by decide)), Nat.zero_add, Nat.add_zero, lor_add' (by have : fracN P false = P - 1 := rfl; rw [this]; exact r2), Nat.add_comm]
    have hm : (if neg = true then u ||| 2 ^ (W - 1) else u) = makeN P W ex neg true (2 ^ E - 1) (2 ^ (P - 2)) := sign_make h1 neg true _ _ _ e1 r2 hu2
    rw [hm]
    have hpk : packN P emax W E ex c neg S q = some (makeN P W ex false true (2 ^ E - 1) (2 ^ (P - 2))) := by unfold packN; rw [if_neg c1, if_neg c4, if_pos c5]
    have hE := h1.e0
    have hE2 : (2 : Nat) ≤ 2 ^ E := by
      have := Nat.pow_le_pow_right (n := 2) (by decide) hE
      simpa using this
    have hun : ∀ n, unpN P emin emax W E ex (makeN P W ex n true (2 ^ E - 1) (2 ^ (P - 2))) = (5, false, 0, 0, 0) := by
      intro n
      have := unp_make h1 n (2 ^ E - 1) (2 ^ (P - 2)) e1 r2
      have hd : decide (2 ^ E - 1 ≠ 0) = true := by simp; omega
      rw [hd] at this
      rw [this]
      unfold partsOf
      rw [if_pos rfl, if_neg (Nat.ne_of_gt (Nat.pow_pos (by decide)))]
    cases neg with
    | false => exact .inl hpk
    | true =>
      refine .inr ⟨?_, ?_⟩
      · rw [packR_some hpk, hun false, if_neg]
        intro z
        simp at z
      · rw [hun true]
        intro z
        simp at z
  rw [if_neg c5] at hu
  cases hu
  refine .inr ⟨packR_none (by unfold packN; rw [if_neg c1, if_neg c4, if_neg c5, if_neg c2, if_neg c3]), ?_⟩
  rw [zero neg]
  intro z
  exact c1 (congrArg Prod.fst z).symm
end
end Go.Proofs.YtodhmbbiifhiaaaDoor.M
end
section
namespace Go.Proofs.YtodhmbbiifhiaaaDoor.M
open Go.RowKit Go.Proofs.YtodhmbbiifhiaaaDoor.G Go.Proofs.YtodhmbbiifhiaaaDoorV.PrintWords Go.Proofs.YtodhmbbiifhiaaaDoorV.PrintLast Go.Proofs.YtodhmbbiifhiaaaDoor.X
set_option linter.unusedVariables false
set_option linter.unusedSimpArgs false
def VP (P : Nat) (emin emax : Int) (c : Int) (S : Nat) (q : Int) : Prop :=
  (c = 1 ∧ S = 0 ∧ q = 0) ∨ (c = 4 ∧ S = 0 ∧ q = 0) ∨ (c = 2 ∧ 0 < S ∧ S < 2 ^ (P - 1) ∧ q = emin - P + 1) ∨ (c = 3 ∧ 2 ^ (P - 1) ≤ S ∧ S < 2 ^ P ∧ emin - P + 1 ≤ q ∧ q ≤ emax - P + 1)
section
variable {P : Nat} {emin emax : Int} {W E : Nat} {ex : Bool}
theorem two_P (h : Fmt P emin emax W E ex) : 2 ^ P = 2 * 2 ^ (P - 1) := by
  have := h.p0
  rw [Nat.mul_comm, ← Nat.pow_succ]
  congr 1
  omega
theorem hi0 : hiI 0 = 0 := rfl
theorem unp_form (h : Fmt2 P emin emax W E ex) (w : Nat) : unpN P emin emax W E ex w = badP ∨ unpN P emin emax W E ex w = (5, false, 0, 0, 0) ∨ ∃ c neg S q, unpN P emin emax W E ex w = (c, neg, hiI S, loI S, q) ∧ S < 2 ^ P ∧ VP P emin emax c S q := by
  have t2 := two_P h.toFmt
  have hp := Nat.pow_pos (n := P - 1) (show 0 < 2 by decide)
  have tp := h.top
  have mn := h.mn
  rcases unp_cases (P := P) (emin := emin) (emax := emax) (W := W) (E := E) (ex := ex) w with hb | ⟨e, neg, rest, he, hr, hu⟩
  · exact .inl hb
  · refine .inr ?_
    rw [hu]
    unfold partsOf
    by_cases h1 : e = 2 ^ E - 1
    · rw [if_pos h1]
      by_cases h2 : rest = 0
      · rw [if_pos h2]
        exact .inr ⟨4, neg, 0, 0, rfl, by omega, .inr (.inl ⟨rfl, rfl, rfl⟩)⟩
      · rw [if_neg h2]
        exact .inl rfl
    · rw [if_neg h1]
      refine .inr ?_
      by_cases h2 : e = 0
      · rw [if_pos h2]
        by_cases h3 : rest = 0
        · rw [if_pos h3]
          exact ⟨1, neg, 0, 0, rfl, by omega, .inl ⟨rfl, rfl, rfl⟩⟩
        · rw [if_neg h3]
          exact ⟨2, neg, rest, _, rfl, by omega, .inr (.inr (.inl ⟨rfl, by omega, hr, rfl⟩))⟩
      · rw [if_neg h2]
        exact ⟨3, neg, rest + 2 ^ (P - 1), _, rfl, by omega, .inr (.inr (.inr ⟨rfl, by omega, by omega, by omega, by omega⟩))⟩
theorem pack_ok (h : Fmt2 P emin emax W E ex) {c : Int} {neg : Bool} {S : Nat} {q : Int} (hv : VP P emin emax c S q) : (packR P emin emax W E ex c neg S q).2 = true := by
  have t2 := two_P h.toFmt
  have hp := Nat.pow_pos (n := P - 1) (show 0 < 2 by decide)
  have hE := Nat.pow_le_pow_right (n := 2) (by decide) h.e0
  have tp := h.top
  have mn := h.mn
  rcases hv with ⟨rfl, rfl, rfl⟩ | ⟨rfl, rfl, rfl⟩ | ⟨rfl, h1, h2, rfl⟩ | ⟨rfl, h1, h2, h3, h4⟩
  · rw [packR_some (w := makeN P W ex neg false 0 0) (by unfold packN; rw [if_pos rfl]), if_pos]
    have := unp_make h.toFmt neg 0 0 (by omega) hp
    rw [show decide ((0 : Nat) ≠ 0) = false from rfl] at this
    rw [this, partsOf, if_neg (by omega), if_pos rfl, if_pos rfl]
    rfl
  · rw [packR_some (w := makeN P W ex neg true (2 ^ E - 1) 0) (by unfold packN; rw [if_neg (by decide), if_pos rfl]), if_pos]
    have := unp_make h.toFmt neg (2 ^ E - 1) 0 (by omega) hp
    rw [decide_eq_true (show 2 ^ E - 1 ≠ 0 by omega)] at this
    rw [this, partsOf, if_pos rfl, if_pos rfl]
    rfl
  · rw [packR_some (w := makeN P W ex neg false 0 S) (by unfold packN; rw [if_neg (by decide), if_neg (by decide), if_neg (by decide), if_pos rfl, if_pos h2]), if_pos]
    have := unp_make h.toFmt neg 0 S (by omega) h2
    rw [show decide ((0 : Nat) ≠ 0) = false from rfl] at this
    rw [this, partsOf, if_neg (by omega), if_pos rfl, if_neg (by omega)]
  · have hS : S % 2 ^ (P - 1) = S - 2 ^ (P - 1) := by rw [Nat.mod_eq_sub_mod h1, Nat.mod_eq_of_lt (by omega)]
    obtain ⟨e, he⟩ : ∃ e : Nat, (e : Int) = q + emax + P - 1 := ⟨(q + emax + P - 1).toNat, by omega⟩
    have hen : (q + emax + P - 1).toNat = e := by omega
    rw [packR_some (w := makeN P W ex neg true e (S % 2 ^ (P - 1))) (by unfold packN; rw [if_neg (by decide), if_neg (by decide), if_neg (by decide), if_neg (by decide), if_pos rfl, if_pos ⟨⟨h1, h2⟩, by omega, by omega⟩, hen]), if_pos]
    have := unp_make h.toFmt neg e (S % 2 ^ (P - 1)) (by omega) (by omega)
    rw [decide_eq_true (show e ≠ 0 by omega)] at this
    rw [this, partsOf, if_neg (by omega), if_neg (by omega), hS, show S - 2 ^ (P - 1) + 2 ^ (P - 1) = S by omega, show (e : Int) - emax - P + 1 = q by omega]
end
end Go.Proofs.YtodhmbbiifhiaaaDoor.M
end
section
namespace Go.Proofs.YtodhmbbiifhiaaaDoor.M
open Go.RowKit Go.Proofs.YtodhmbbiifhiaaaDoor.G Go.Proofs.YtodhmbbiifhiaaaDoorV.PrintWords Go.Proofs.YtodhmbbiifhiaaaDoorV.PrintLast Go.Proofs.YtodhmbbiifhiaaaDoor.X
set_option linter.unusedVariables false
set_option linter.unusedSimpArgs false
theorem field_up (x s n E : Nat) (h : n + 1 ≤ E) : x / 2 ^ (s + (n + 1)) % 2 ^ (E - (n + 1)) * 2 + x / 2 ^ (s + n) % 2 = x / 2 ^ (s + n) % 2 ^ (E - n) := by
 have e1 : x / 2 ^ (s + (n + 1)) = x / 2 ^ (s + n) / 2 := by rw [Nat.div_div_eq_div_mul, ← Nat.pow_succ]; rfl
 have e2 : (2 : Nat) ^ (E - n) = 2 * 2 ^ (E - (n + 1)) := by rw [Nat.mul_comm, ← Nat.pow_succ]; congr 1; omega
 rw [e1, e2, Nat.mod_mul, Nat.add_comm, Nat.mul_comm]
theorem ct_spec_Unpack {P : Nat} {emin emax : Int} {W E : Nat} {ex : Bool} (h : Fmt P emin emax W E ex) (f : Int) (hf : spec_Describe.f f = some ((P : Int), emin, emax, (W : Int), (E : Int), ex)) (x : Nat) (hx : x < B128) : CtV Tryd.prog 10 [.int .i64 f, .agg #[.int .u64 (hiI x), .int .u64 (loI x)]] [] (prtV (unpN P emin emax W E ex x)) := by
 refine ct_of Tryd.func10 rfl (by kernel_rfl) (fun B w0 => ?_)
 have p0 := h.p0
 have p1 := h.p1
 have w1 := h.w1
 have w2 := h.w2
 have e1 := h.e1
 obtain ⟨m, hm⟩ := bits_ex x
 have hb := bits_lt (k := W) hm
 have sm : Sm x := sm128 (Nat.lt_of_lt_of_le hx (by decide))
 have fN : fracN P ex ≤ P := by unfold fracN; split <;> omega
 have sf : Sm (x % 2 ^ fracN P ex) := sm.mono (Nat.mod_le _ _)
 refine xg ?_
 refine xb 3 [.int .u64 (hiI x), .int .u64 (loI x)] 25 (fun g0 => ?_)
 refine xb 4 [.int .i64 0, .bool false, .int .u64 0, .int .u64 0, .int .i64 0] 29 (fun g1 => ?_)
 refine xz [] [] ?_
 refine xg ?_
 refine xn 1 [] [(16, .int .i64 f)] ?_
 refine xcv 17 (ct_spec_Describe (f) hf) zs0 ?_
 refine xb 5 [.int .i64 0, .int .i64 0, .int .i64 0, .int .i64 0, .int .i64 0, .bool false] 79 (fun g2 => ?_)
 refine xy [(3, [2])] [] [(2, [.int .i64 (P : Int), .int .i64 emin, .int .i64 emax, .int .i64 (W : Int), .int .i64 (E : Int), .bool ex])] ?_
 refine SW_seq ?_
 refine xr [(1, [2])] [(20, .bool ((P : Int) == 0))] ?_
 refine xs ((P : Int) == 0) (fun q0 => ?_) (fun q0 => ?_)
 ·exfalso
  have := beq_iff_eq.1 q0
  omega
 ·refine SW_skip ?_
  refine xg ?_
  refine xn 1 [(0, [0])] [(22, .agg #[.int .u64 (hiI x), .int .u64 (loI x)])] ?_
  refine xcr 23 (ct_spec_l2Of (x) hx) zs0 (fun A0 k0 => ?_)
  refine xz [] [(6, .slice A0 (List.length (ofN B32 x)) k0)] ?_
  refine SW_seq ?_
  refine xd (fun hB => ?_)
  refine xdk [(0, []), (2, []), (3, [2])] [(27, .int .i64 (W : Int)), (24, .slice A0 (List.length (ofN B32 x)) k0)] hB ?_
  refine xdv 1 25 (ct_spec_l1Bits (x) (A0) (k0) sm (m) hm) (zsS zi0 zs0) ?_
  refine xdk [(4, [])] [(28, .bool (decide ((m : Int) > (W : Int))))] hB ?_
  refine xdz ?_
  refine xs (decide ((m : Int) > (W : Int))) (fun q1 => ?_) (fun q1 => ?_)
  ·refine xq [(1, [1])] [] [] ?_
   refine SW_ret ?_
   refine xe () (.agg #[.int .i64 0, .bool false, .int .u64 0, .int .u64 0, .int .i64 0]) [1] ?_ trivial
   rw [unpN, if_pos]
   ·rfl
   ·have := of_decide_eq_true q1
    exact Nat.le_of_not_lt (fun z => by have := hb.2 z; omega)
  ·have hW : x < 2 ^ W := hb.1 (by have := of_decide_eq_false q1; omega)
   refine SW_skip ?_
   refine xr [(1, [2])] [(7, .int .i64 (IntKind.wrap IntKind.i64 ((P : Int) - 1)))] ?_
   refine SW_cut (fun s' => ∃ a, Nn a (fracN P ex) ∧ Weak s' ⟨[(0, .int .i64 f), (4, .pointer (some ⟨g1, 0, none⟩)), (5, .pointer (some ⟨g2, 0, none⟩)), (6, .slice A0 (ofN B32 x).length k0), (7, .int .i64 a)], [⟨g0, [.int .u64 (hiI x), .int .u64 (loI x)], 25⟩, ⟨g1, [.int .i64 0, .bool false, .int .u64 0, .int .u64 0, .int .i64 0], 29⟩, ⟨g2, [.int .i64 P, .int .i64 emin, .int .i64 emax, .int .i64 W, .int .i64 E, .bool ex], 79⟩], [Row .u64 A0 k0 (ofN B32 x)]⟩) ?_ ?_
   ·refine xr [(1, [2])] [(34, .bool ex)] ?_
    refine xs (ex) (fun q2 => ?_) (fun q2 => ?_)
    ·refine xrl [(1, [2])] [(7, .int .i64 (P : Int))] ?_
     exact ⟨(P : Int), ⟨by unfold fracN; rw [if_pos q2]⟩, Weak.mk' (by kernel_rfl) rfl (zsS zi0 zs0)⟩
    ·refine SW_skip ?_
     exact ⟨IntKind.i64.wrap ((P : Int) - 1), Nn.wrap (by unfold fracN; rw [q2, if_neg (by decide)]; omega) (by omega), Weak.mk' (by kernel_rfl) rfl (zsS zi0 zs0)⟩
   ·rintro s' ⟨a, na, hw⟩
    refine SW_weak hw ?_
    refine xg ?_
    refine xn 2 [] [(38, .int .i64 a), (37, .slice A0 (List.length (ofN B32 x)) k0)] ?_
    refine xcr 39 (ct_spec_l2Low (x) (A0) (k0) (a) (fracN P ex) na (by omega) sm) (zsS zi0 zs0) (fun A1 k1 => ?_)
    refine xz [] [(8, .slice A1 (List.length (ofN B32 (x % 2 ^ fracN P ex))) k1)] ?_
    refine xr [] [(9, .int .i64 0)] ?_
    refine SW_seq ?_
    refine xr [(1, [2])] [(10, .int .i64 (IntKind.wrap IntKind.i64 ((E : Int) - 1)))] ?_
    refine SW_block ?_
    refine SW_loopn (fun n s' => n ≤ E ∧ ∃ e i, e = ((x / 2 ^ (fracN P ex + n) % 2 ^ (E - n) : Nat) : Int) ∧ i = (n : Int) - 1 ∧ Weak s' ⟨[(4, .pointer (some ⟨g1, 0, none⟩)), (5, .pointer (some ⟨g2, 0, none⟩)), (6, .slice A0 (ofN B32 x).length k0), (7, .int .i64 a), (8, .slice A1 (ofN B32 (x % 2 ^ fracN P ex)).length k1), (9, .int .i64 e), (10, .int .i64 i)], [⟨g0, [.int .u64 (hiI x), .int .u64 (loI x)], 25⟩, ⟨g1, [.int .i64 0, .bool false, .int .u64 0, .int .u64 0, .int .i64 0], 29⟩, ⟨g2, [.int .i64 P, .int .i64 emin, .int .i64 emax, .int .i64 W, .int .i64 E, .bool ex], 79⟩], [Row .u64 A0 k0 (ofN B32 x), Row .u64 A1 k1 (ofN B32 (x % 2 ^ fracN P ex))]⟩) E ?_ ?_
    ·exact ⟨Nat.le_refl _, _, _, by rw [Nat.sub_self, Nat.pow_zero, Nat.mod_one], wsi (by omega), Weak.mk' (by kernel_rfl) rfl (zsS (ziS zi0) (zsS zi0 zs0))⟩
    ·rintro n s' ⟨hn, e, i, he, hi, hw⟩
     refine SW_weak hw ?_
     refine SW_seq ?_
     refine xr [] [(44, .bool (decide (i ≥ 0)))] ?_
     refine xs (decide (i ≥ 0)) (fun q2 => ?_) (fun q2 => ?_)
     ·have hi0 : 0 ≤ i := of_decide_eq_true q2
      obtain ⟨j, rfl⟩ : ∃ j, n = j + 1 := ⟨n - 1, by omega⟩
      have nb : Nn (IntKind.i64.wrap (a + i)) (fracN P ex + j) := Nn.wrap (by rw [na.out]; omega) (by omega)
      refine SW_skip ?_
      refine SW_seq ?_
      refine SW_block ?_
      refine SW_region ?_
      refine xn 6 [] [(52, .int .i64 (IntKind.wrap IntKind.i64 (a + i))), (49, .slice A0 (List.length (ofN B32 x)) k0), (48, .int .i64 (IntKind.wrap IntKind.i64 (e * 2)))] ?_
      refine xcv 53 (ct_spec_l1Bit (x) (A0) (k0) (IntKind.wrap IntKind.i64 (a + i)) (fracN P ex + j) nb (by omega) sm) (zsS zi0 zs0) ?_
      refine xz [] [(9, .int .i64 (IntKind.wrap IntKind.i64 (IntKind.wrap IntKind.i64 (e * 2) + IntKind.wrap IntKind.i64 (((x / 2 ^ (fracN P ex + j) % 2) : Nat) : Int))))] ?_
      refine xrl [] [(10, .int .i64 (IntKind.wrap IntKind.i64 (i - 1)))] ?_
      refine ⟨j, Nat.lt_succ_self j, by omega, ?_⟩
      refine ⟨(IntKind.wrap IntKind.i64 (IntKind.wrap IntKind.i64 (e * 2) + IntKind.wrap IntKind.i64 (((x / 2 ^ (fracN P ex + j) % 2) : Nat) : Int)) : Int), (IntKind.wrap IntKind.i64 (i - 1) : Int), ?_, ?_, xw (zsS zi0 (zsS (ziS zi0) zs0))⟩
      ·have hp : x / 2 ^ (fracN P ex + (j + 1)) % 2 ^ (E - (j + 1)) < 2 ^ (E - (j + 1)) := Nat.mod_lt _ (Nat.pow_pos (by decide))
       have hp2 : 2 ^ (E - (j + 1)) ≤ 2 ^ 15 := Nat.pow_le_pow_right (by decide) (by omega)
       have hp3 : x / 2 ^ (fracN P ex + j) % 2 < 2 := Nat.mod_lt _ (by decide)
       rw [← field_up x _ _ _ hn, he, wsi (x := _ * 2) (by omega), wsi (x := ((_ % 2 : Nat) : Int)) (by omega), wsi (by omega)]
       omega
      ·rw [wsi (by omega)]
       omega
     ·have hi0 : ¬ 0 ≤ i := of_decide_eq_false q2
      obtain rfl : n = 0 := by omega
      have nW : Nn (IntKind.i64.wrap ((W : Int) - 1)) (W - 1) := Nn.wrap (by omega) (by omega)
      obtain ⟨F, hF⟩ : ∃ F, F = x / 2 ^ fracN P ex % 2 ^ E := ⟨_, rfl⟩
      obtain ⟨ng, hng⟩ : ∃ ng : Bool, ng = (((x / 2 ^ (W - 1) % 2 : Nat) : Int) == 1) := ⟨_, rfl⟩
      have heF : e = (F : Int) := by rw [he, hF]; rfl
      refine SW_exit ?_
      refine xg ?_
      refine xn 4 [(2, [2])] [(59, .int .i64 (IntKind.wrap IntKind.i64 ((W : Int) - 1))), (56, .slice A0 (List.length (ofN B32 x)) k0)] ?_
      refine xcv 60 (ct_spec_l1Bit (x) (A0) (k0) (IntKind.wrap IntKind.i64 ((W : Int) - 1)) (W - 1) nW (by omega) sm) (zsS zi0 zs0) ?_
      refine xn 7 [] [(62, .agg #[.int .i64 0, .bool ((((x / 2 ^ (W - 1) % 2) : Nat) : Int) == 1), .int .u64 0, .int .u64 0, .int .i64 0])] ?_
      refine xb 11 [.int .i64 0, .bool false, .int .u64 0, .int .u64 0, .int .i64 0] 29 (fun g3 => ?_)
      refine xy [(8, [3])] [] [(3, [.int .i64 0, .bool ((((x / 2 ^ (W - 1) % 2) : Nat) : Int) == 1), .int .u64 0, .int .u64 0, .int .i64 0])] ?_
      refine xr [] [(12, .int .i64 1)] ?_
      refine SW_seq ?_
      refine xr [] [(13, .int .i64 0)] ?_
      refine SW_block ?_
      refine SW_loopn (fun n s' => n ≤ E ∧ ∃ t i, t = ((2 ^ (E - n) : Nat) : Int) ∧ i = ((E - n : Nat) : Int) ∧ Weak s' ⟨[(4, .pointer (some ⟨g1, 0, none⟩)), (5, .pointer (some ⟨g2, 0, none⟩)), (8, .slice A1 (ofN B32 (x % 2 ^ fracN P ex)).length k1), (9, .int .i64 e), (11, .pointer (some ⟨g3, 0, none⟩)), (12, .int .i64 t), (13, .int .i64 i)], [⟨g0, [.int .u64 (hiI x), .int .u64 (loI x)], 25⟩, ⟨g1, [.int .i64 0, .bool false, .int .u64 0, .int .u64 0, .int .i64 0], 29⟩, ⟨g2, [.int .i64 P, .int .i64 emin, .int .i64 emax, .int .i64 W, .int .i64 E, .bool ex], 79⟩, ⟨g3, [.int .i64 0, .bool ng, .int .u64 0, .int .u64 0, .int .i64 0], 29⟩], [Row .u64 A1 k1 (ofN B32 (x % 2 ^ fracN P ex))]⟩) E ?_ ?_
      ·refine ⟨Nat.le_refl _, ?_⟩
       rw [hng]
       refine ⟨(1 : Int), (0 : Int), ?_, ?_, xw (zsS (ziS zi0) zs0)⟩
       ·rw [Nat.sub_self]; rfl
       ·rw [Nat.sub_self]; rfl
      ·rintro n s' ⟨hn, t, i, ht, hi, hw⟩
       refine SW_weak hw ?_
       have h2 : 2 ^ (E - n) ≤ 2 ^ 15 := Nat.pow_le_pow_right (by decide) (by omega)
       refine SW_seq ?_
       refine xr [(2, [2])] [(66, .bool (decide (i < (E : Int))))] ?_
       refine xs (decide (i < (E : Int))) (fun q3 => ?_) (fun q3 => ?_)
       ·have hlt : i < E := of_decide_eq_true q3
        refine SW_skip ?_
        refine SW_seq ?_
        refine SW_block ?_
        refine xrl [] [(12, .int .i64 (IntKind.wrap IntKind.i64 (t * 2)))] ?_
        refine xrl [] [(13, .int .i64 (IntKind.wrap IntKind.i64 (i + 1)))] ?_
        refine ⟨n - 1, by omega, by omega, ?_⟩
        refine ⟨(IntKind.wrap IntKind.i64 (t * 2) : Int), (IntKind.wrap IntKind.i64 (i + 1) : Int), ?_, ?_, xw (zsS zi0 zs0)⟩
        ·have h3 : 2 ^ (E - (n - 1)) = 2 ^ (E - n) * 2 := by rw [show E - (n - 1) = (E - n) + 1 by omega, Nat.pow_succ]
         rw [ht, h3]
         generalize 2 ^ (E - n) = v at h2 ⊢
         have h4 : (2 : Nat) ^ 15 = 32768 := rfl
         rw [wsi (by omega)]
         omega
        ·rw [wsi (by omega)]; omega
       ·have hge : ¬ i < E := of_decide_eq_false q3
        obtain rfl : n = 0 := by omega
        rw [Nat.sub_zero] at ht h2
        have hT0 : 2 ≤ 2 ^ E := Nat.pow_le_pow_right (n := 2) (by decide) h.e0
        have htop : IntKind.i64.wrap (t - 1) = ((2 ^ E - 1 : Nat) : Int) := by
         rw [ht]
         have h4 : (2 : Nat) ^ 15 = 32768 := rfl
         generalize 2 ^ E = v at h2 hT0
         rw [wsi (by omega)]
         omega
        have nP : Nn (IntKind.i64.wrap ((P : Int) - 1)) (P - 1) := Nn.wrap (by omega) (by omega)
        have hng2 : ng = decide (x / 2 ^ (W - 1) % 2 = 1) := by
         rw [hng, Bool.eq_iff_iff, beq_iff_eq, decide_eq_true_iff]
         omega
        refine SW_exit ?_
        refine xr [] [(12, .int .i64 (IntKind.wrap IntKind.i64 (t - 1)))] ?_
        refine xr [] [(14, .bool true)] ?_
        refine xr [] [(15, .slice A1 (List.length (ofN B32 (x % 2 ^ fracN P ex))) k1)] ?_
        refine SW_cut (fun s' => ∃ A c, unpN P emin emax W E ex x = partsOf P emin emax E F ng (x % 2 ^ (P - 1)) ∧ Weak s' ⟨[(4, .pointer (some ⟨g1, 0, none⟩)), (5, .pointer (some ⟨g2, 0, none⟩)), (9, .int .i64 e), (11, .pointer (some ⟨g3, 0, none⟩)), (12, .int .i64 (IntKind.i64.wrap (t - 1))), (15, .slice A (ofN B32 (x % 2 ^ (P - 1))).length c)], [⟨g0, [.int .u64 (hiI x), .int .u64 (loI x)], 25⟩, ⟨g1, [.int .i64 0, .bool false, .int .u64 0, .int .u64 0, .int .i64 0], 29⟩, ⟨g2, [.int .i64 P, .int .i64 emin, .int .i64 emax, .int .i64 W, .int .i64 E, .bool ex], 79⟩, ⟨g3, [.int .i64 0, .bool ng, .int .u64 0, .int .u64 0, .int .i64 0], 29⟩], [Row .u64 A c (ofN B32 (x % 2 ^ (P - 1)))]⟩) ?_ ?_
        ·refine xr [(1, [2])] [(75, .bool ex)] ?_
         refine xs (ex) (fun q4 => ?_) (fun q4 => ?_)
         ·have hf2 : fracN P ex = P := by unfold fracN; rw [if_pos q4]
          have hmm : x % 2 ^ P % 2 ^ (P - 1) = x % 2 ^ (P - 1) := Nat.mod_mod_of_dvd _ (Nat.pow_dvd_pow 2 (by omega))
          rw [hf2] at sf hF
          rw [hf2]
          have hbit : (((x % 2 ^ P / 2 ^ (P - 1) % 2 : Nat) : Int) == 1) = decide (2 ^ (P - 1) ≤ x % 2 ^ P) := by
           rw [bit_top (v := x % 2 ^ P) (m := P - 1) (by rw [show P - 1 + 1 = P by omega]; exact Nat.mod_lt _ (Nat.pow_pos (by decide)))]
           by_cases hL : 2 ^ (P - 1) ≤ x % 2 ^ P
           ·rw [if_pos hL, decide_eq_true hL]; rfl
           ·rw [if_neg hL, decide_eq_false hL]; rfl
          have hbad : ¬ (2 ^ (P - 1) ≤ x % 2 ^ P ↔ F ≠ 0) → unpN P emin emax W E ex x = badP := by
           intro hn
           rw [unpN, if_neg (by omega), if_pos q4, ← hF, if_neg hn]
          have hgood : (2 ^ (P - 1) ≤ x % 2 ^ P ↔ F ≠ 0) → unpN P emin emax W E ex x = partsOf P emin emax E F ng (x % 2 ^ P % 2 ^ (P - 1)) := by
           intro hn
           rw [unpN, if_neg (by omega), if_pos q4, ← hF, if_pos hn, hng2]
          by_cases hF0 : F = 0
          ·have z1 : (e == 0) = true := by rw [heF, hF0]; rfl
           have z2 : decide (e > 0) = false := decide_eq_false (by omega)
           by_cases hL : 2 ^ (P - 1) ≤ x % 2 ^ P
           ·have z3 := hbit.trans (decide_eq_true hL)
            refine xg ?_
            refine xn 4 [(2, [2])] [(79, .int .i64 (IntKind.wrap IntKind.i64 ((P : Int) - 1))), (76, .slice A1 (List.length (ofN B32 (x % 2 ^ P))) k1)] ?_
            refine xcv 80 (ct_spec_l1Bit (x % 2 ^ P) (A1) (k1) (IntKind.wrap IntKind.i64 ((P : Int) - 1)) (P - 1) nP (by omega) sf) (zsS zi0 zs0) ?_
            refine xz [] [(14, .bool ((((x % 2 ^ P / 2 ^ (P - 1) % 2) : Nat) : Int) == 1))] ?_
            refine xg ?_
            refine xn 4 [(2, [2])] [(85, .int .i64 (IntKind.wrap IntKind.i64 ((P : Int) - 1))), (82, .slice A1 (List.length (ofN B32 (x % 2 ^ P))) k1)] ?_
            refine xcr 86 (ct_spec_l2Low (x % 2 ^ P) (A1) (k1) (IntKind.wrap IntKind.i64 ((P : Int) - 1)) (P - 1) nP (by omega) sf) (zsS zi0 zs0) (fun A2 k2 => ?_)
            refine xz [] [(15, .slice A2 (List.length (ofN B32 (x % 2 ^ P % 2 ^ (P - 1)))) k2)] ?_
            refine xg ?_
            refine xn 3 [] [(89, .bool (e == 0))] ?_
            refine xkt 89 z1 ?_
            refine xn 6 [] [(92, .bool ((((x % 2 ^ P / 2 ^ (P - 1) % 2) : Nat) : Int) == 1))] ?_
            refine xkt 92 z3 ?_
            refine xz [] [(99, .bool true)] ?_
            refine xs1 ?_
            refine xq [(1, [1])] [] [] ?_
            refine SW_ret ?_
            refine xe () (.agg #[.int .i64 0, .bool false, .int .u64 0, .int .u64 0, .int .i64 0]) [1] ?_ trivial
            rw [hbad (fun z => z.1 hL hF0)]
            rfl
           ·have z3 := hbit.trans (decide_eq_false hL)
            refine xg ?_
            refine xn 4 [(2, [2])] [(79, .int .i64 (IntKind.wrap IntKind.i64 ((P : Int) - 1))), (76, .slice A1 (List.length (ofN B32 (x % 2 ^ P))) k1)] ?_
            refine xcv 80 (ct_spec_l1Bit (x % 2 ^ P) (A1) (k1) (IntKind.wrap IntKind.i64 ((P : Int) - 1)) (P - 1) nP (by omega) sf) (zsS zi0 zs0) ?_
            refine xz [] [(14, .bool ((((x % 2 ^ P / 2 ^ (P - 1) % 2) : Nat) : Int) == 1))] ?_
            refine xg ?_
            refine xn 4 [(2, [2])] [(85, .int .i64 (IntKind.wrap IntKind.i64 ((P : Int) - 1))), (82, .slice A1 (List.length (ofN B32 (x % 2 ^ P))) k1)] ?_
            refine xcr 86 (ct_spec_l2Low (x % 2 ^ P) (A1) (k1) (IntKind.wrap IntKind.i64 ((P : Int) - 1)) (P - 1) nP (by omega) sf) (zsS zi0 zs0) (fun A2 k2 => ?_)
            refine xz [] [(15, .slice A2 (List.length (ofN B32 (x % 2 ^ P % 2 ^ (P - 1)))) k2)] ?_
            refine xg ?_
            refine xn 3 [] [(89, .bool (e == 0))] ?_
            refine xkt 89 z1 ?_
            refine xn 6 [] [(92, .bool ((((x % 2 ^ P / 2 ^ (P - 1) % 2) : Nat) : Int) == 1))] ?_
            refine xkf 92 z3 ?_
            refine xn 9 [] [(95, .bool (decide (e > 0)))] ?_
            refine xkf 95 z2 ?_
            refine xz [] [(99, .bool false)] ?_
            refine xs0 ?_
            refine SW_skip ?_
            rw [← hmm]
            refine ⟨(A2), (k2), ?_, xw (zsS zi0 zs0)⟩
            exact hgood ⟨fun z => absurd z hL, fun z => absurd hF0 z⟩
          ·have z1 : (e == 0) = false := by rw [heF, beq_eq_false_iff_ne]; omega
           have z2 : decide (e > 0) = true := decide_eq_true (by omega)
           by_cases hL : 2 ^ (P - 1) ≤ x % 2 ^ P
           ·have z3 := hbit.trans (decide_eq_true hL)
            have z4 : (!(((x % 2 ^ P / 2 ^ (P - 1) % 2 : Nat) : Int) == 1)) = false := by rw [z3]; rfl
            refine xg ?_
            refine xn 4 [(2, [2])] [(79, .int .i64 (IntKind.wrap IntKind.i64 ((P : Int) - 1))), (76, .slice A1 (List.length (ofN B32 (x % 2 ^ P))) k1)] ?_
            refine xcv 80 (ct_spec_l1Bit (x % 2 ^ P) (A1) (k1) (IntKind.wrap IntKind.i64 ((P : Int) - 1)) (P - 1) nP (by omega) sf) (zsS zi0 zs0) ?_
            refine xz [] [(14, .bool ((((x % 2 ^ P / 2 ^ (P - 1) % 2) : Nat) : Int) == 1))] ?_
            refine xg ?_
            refine xn 4 [(2, [2])] [(85, .int .i64 (IntKind.wrap IntKind.i64 ((P : Int) - 1))), (82, .slice A1 (List.length (ofN B32 (x % 2 ^ P))) k1)] ?_
            refine xcr 86 (ct_spec_l2Low (x % 2 ^ P) (A1) (k1) (IntKind.wrap IntKind.i64 ((P : Int) - 1)) (P - 1) nP (by omega) sf) (zsS zi0 zs0) (fun A2 k2 => ?_)
            refine xz [] [(15, .slice A2 (List.length (ofN B32 (x % 2 ^ P % 2 ^ (P - 1)))) k2)] ?_
            refine xg ?_
            refine xn 3 [] [(89, .bool (e == 0))] ?_
            refine xkf 89 z1 ?_
            refine xn 9 [] [(95, .bool (decide (e > 0))), (92, .bool false)] ?_
            refine xkt 95 z2 ?_
            refine xz [] [(99, .bool !(((x % 2 ^ P / 2 ^ (P - 1) % 2) : Nat) : Int) == 1)] ?_
            refine xsf z4 ?_
            refine SW_skip ?_
            rw [← hmm]
            refine ⟨(A2), (k2), ?_, xw (zsS zi0 zs0)⟩
            exact hgood ⟨fun _ => hF0, fun _ => hL⟩
           ·have z3 := hbit.trans (decide_eq_false hL)
            have z4 : (!(((x % 2 ^ P / 2 ^ (P - 1) % 2 : Nat) : Int) == 1)) = true := by rw [z3]; rfl
            refine xg ?_
            refine xn 4 [(2, [2])] [(79, .int .i64 (IntKind.wrap IntKind.i64 ((P : Int) - 1))), (76, .slice A1 (List.length (ofN B32 (x % 2 ^ P))) k1)] ?_
            refine xcv 80 (ct_spec_l1Bit (x % 2 ^ P) (A1) (k1) (IntKind.wrap IntKind.i64 ((P : Int) - 1)) (P - 1) nP (by omega) sf) (zsS zi0 zs0) ?_
            refine xz [] [(14, .bool ((((x % 2 ^ P / 2 ^ (P - 1) % 2) : Nat) : Int) == 1))] ?_
            refine xg ?_
            refine xn 4 [(2, [2])] [(85, .int .i64 (IntKind.wrap IntKind.i64 ((P : Int) - 1))), (82, .slice A1 (List.length (ofN B32 (x % 2 ^ P))) k1)] ?_
            refine xcr 86 (ct_spec_l2Low (x % 2 ^ P) (A1) (k1) (IntKind.wrap IntKind.i64 ((P : Int) - 1)) (P - 1) nP (by omega) sf) (zsS zi0 zs0) (fun A2 k2 => ?_)
            refine xz [] [(15, .slice A2 (List.length (ofN B32 (x % 2 ^ P % 2 ^ (P - 1)))) k2)] ?_
            refine xg ?_
            refine xn 3 [] [(89, .bool (e == 0))] ?_
            refine xkf 89 z1 ?_
            refine xn 9 [] [(95, .bool (decide (e > 0))), (92, .bool false)] ?_
            refine xkt 95 z2 ?_
            refine xz [] [(99, .bool !(((x % 2 ^ P / 2 ^ (P - 1) % 2) : Nat) : Int) == 1)] ?_
            refine xst z4 ?_
            refine xq [(1, [1])] [] [] ?_
            refine SW_ret ?_
            refine xe () (.agg #[.int .i64 0, .bool false, .int .u64 0, .int .u64 0, .int .i64 0]) [1] ?_ trivial
            rw [hbad (fun z => hL (z.2 hF0))]
            rfl
         ·have hf2 : fracN P ex = P - 1 := by unfold fracN; rw [q4]; rfl
          refine SW_skip ?_
          rw [← hf2]
          refine ⟨(A1), (k1), ?_, xw (zsS zi0 zs0)⟩
          rw [unpN, if_neg (by omega), if_neg (by rw [q4]; decide), ← hf2, hng2, hF]
        ·rintro s' ⟨A, c, hU, hw⟩
         refine SW_weak hw ?_
         rw [hU]
         have bR : x % 2 ^ (P - 1) < B128 := Nat.lt_of_le_of_lt (Nat.mod_le _ _) hx
         have sR : Sm (x % 2 ^ (P - 1)) := sm.mono (Nat.mod_le _ _)
         have sT : Sm (2 ^ (P - 1)) := Sm.of (k := P) (Nat.pow_lt_pow_right (by decide) (by omega)) (by omega)
         have bS : x % 2 ^ (P - 1) + 2 ^ (P - 1) < B128 := by
          have y1 := Nat.mod_lt x (Nat.pow_pos (n := P - 1) (show 0 < 2 by decide))
          have y2 : 2 ^ P = 2 * 2 ^ (P - 1) := by rw [Nat.mul_comm, ← Nat.pow_succ]; congr 1; omega
          have y3 : 2 ^ P ≤ 2 ^ 127 := Nat.pow_le_pow_right (by decide) (by omega)
          have y4 : (2 : Nat) ^ 127 < B128 := by decide
          omega
         have hz : ((((ofN B32 (x % 2 ^ (P - 1))).length : Nat) : Int) == 0) = decide (x % 2 ^ (P - 1) = 0) := by
          have y := ofN_zero B32_2 (x % 2 ^ (P - 1))
          rw [Bool.eq_iff_iff, beq_iff_eq, decide_eq_true_iff, ← y]
          omega
         have hm0 := h.m0
         have hm1 := h.m1
         have hFl : F < 2 ^ E := by rw [hF]; exact Nat.mod_lt _ (Nat.pow_pos (by decide))
         have hE2 : (2 : Nat) ^ 15 = 32768 := rfl
         by_cases c1 : F = 2 ^ E - 1
         ·have z1 : (e == IntKind.i64.wrap (t - 1)) = true := by rw [htop, heF, c1]; exact beq_self_eq_true _
          by_cases c2 : x % 2 ^ (P - 1) = 0
          ·have z2 := hz.trans (decide_eq_true c2)
           refine SW_seq ?_
           refine SW_block ?_
           refine xg ?_
           refine xn 4 [] [(123, .bool (e == IntKind.wrap IntKind.i64 (t - 1)))] ?_
           refine xkt 123 z1 ?_
           refine xz [] [(119, .bool ((((List.length (ofN B32 (x % 2 ^ (P - 1)))) : Nat) : Int) == 0))] ?_
           refine xst z2 ?_
           refine xql [(1, [3])] [] [(3, [.int .i64 4, .bool ng, .int .u64 0, .int .u64 0, .int .i64 0])] ?_
           refine xq [(0, [3]), (1, [1])] [] [(1, [.int .i64 4, .bool ng, .int .u64 0, .int .u64 0, .int .i64 0])] ?_
           refine SW_ret ?_
           refine xe () (.agg #[.int .i64 4, .bool ng, .int .u64 0, .int .u64 0, .int .i64 0]) [1] ?_ trivial
           rw [partsOf, if_pos c1, if_pos c2]
           rfl
          ·have z2 := hz.trans (decide_eq_false c2)
           refine SW_seq ?_
           refine SW_block ?_
           refine xg ?_
           refine xn 4 [] [(123, .bool (e == IntKind.wrap IntKind.i64 (t - 1)))] ?_
           refine xkt 123 z1 ?_
           refine xz [] [(119, .bool ((((List.length (ofN B32 (x % 2 ^ (P - 1)))) : Nat) : Int) == 0))] ?_
           refine xsf z2 ?_
           refine xr [] [(129, .bool (e == IntKind.wrap IntKind.i64 (t - 1)))] ?_
           refine xst z1 ?_
           refine xq [(1, [1])] [] [(1, [.int .i64 5, .bool false, .int .u64 0, .int .u64 0, .int .i64 0])] ?_
           refine SW_ret ?_
           refine xe () (.agg #[.int .i64 5, .bool false, .int .u64 0, .int .u64 0, .int .i64 0]) [1] ?_ trivial
           rw [partsOf, if_pos c1, if_neg c2]
           rfl
         ·have z1 : (e == IntKind.i64.wrap (t - 1)) = false := by rw [htop, heF, beq_eq_false_iff_ne]; omega
          by_cases c3 : F = 0
          ·have z3 : (e == 0) = true := by rw [heF, c3]; rfl
           by_cases c2 : x % 2 ^ (P - 1) = 0
           ·have z2 := hz.trans (decide_eq_true c2)
            refine SW_seq ?_
            refine SW_block ?_
            refine xg ?_
            refine xn 4 [] [(123, .bool (e == IntKind.wrap IntKind.i64 (t - 1)))] ?_
            refine xkf 123 z1 ?_
            refine xz [] [(119, .bool false)] ?_
            refine xs0 ?_
            refine xr [] [(129, .bool (e == IntKind.wrap IntKind.i64 (t - 1)))] ?_
            refine xsf z1 ?_
            refine xg ?_
            refine xn 3 [] [(137, .bool (e == 0))] ?_
            refine xkt 137 z3 ?_
            refine xz [] [(134, .bool ((((List.length (ofN B32 (x % 2 ^ (P - 1)))) : Nat) : Int) == 0))] ?_
            refine xst z2 ?_
            refine xql [(1, [3])] [] [(3, [.int .i64 1, .bool ng, .int .u64 0, .int .u64 0, .int .i64 0])] ?_
            refine xq [(0, [3]), (1, [1])] [] [(1, [.int .i64 1, .bool ng, .int .u64 0, .int .u64 0, .int .i64 0])] ?_
            refine SW_ret ?_
            refine xe () (.agg #[.int .i64 1, .bool ng, .int .u64 0, .int .u64 0, .int .i64 0]) [1] ?_ trivial
            rw [partsOf, if_neg c1, if_pos c3, if_pos c2]
            rfl
           ·have z2 := hz.trans (decide_eq_false c2)
            refine SW_seq ?_
            refine SW_block ?_
            refine xg ?_
            refine xn 4 [] [(123, .bool (e == IntKind.wrap IntKind.i64 (t - 1)))] ?_
            refine xkf 123 z1 ?_
            refine xz [] [(119, .bool false)] ?_
            refine xs0 ?_
            refine xr [] [(129, .bool (e == IntKind.wrap IntKind.i64 (t - 1)))] ?_
            refine xsf z1 ?_
            refine xg ?_
            refine xn 3 [] [(137, .bool (e == 0))] ?_
            refine xkt 137 z3 ?_
            refine xz [] [(134, .bool ((((List.length (ofN B32 (x % 2 ^ (P - 1)))) : Nat) : Int) == 0))] ?_
            refine xsf z2 ?_
            refine xr [] [(143, .bool (e == 0))] ?_
            refine xst z3 ?_
            refine xq [(1, [3])] [] [(3, [.int .i64 2, .bool ng, .int .u64 0, .int .u64 0, .int .i64 0])] ?_
            refine xg ?_
            refine xn 1 [] [(147, .slice A (List.length (ofN B32 (x % 2 ^ (P - 1)))) c)] ?_
            refine xcv 148 (ct_spec_l2Word (x % 2 ^ (P - 1)) (A) (c) bR) (zsS zi0 zs0) ?_
            refine xy [(3, [3])] [] [(3, [.int .i64 2, .bool ng, .int .u64 (hiI (x % 2 ^ (P - 1))), .int .u64 (loI (x % 2 ^ (P - 1))), .int .i64 0])] ?_
            refine xql [(1, [2]), (3, [2]), (7, [3])] [] [(3, [.int .i64 2, .bool ng, .int .u64 (hiI (x % 2 ^ (P - 1))), .int .u64 (loI (x % 2 ^ (P - 1))), .int .i64 (IntKind.wrap IntKind.i64 (IntKind.wrap IntKind.i64 (emin - (P : Int)) + 1))])] ?_
            refine xq [(0, [3]), (1, [1])] [] [(1, [.int .i64 2, .bool ng, .int .u64 (hiI (x % 2 ^ (P - 1))), .int .u64 (loI (x % 2 ^ (P - 1))), .int .i64 (IntKind.wrap IntKind.i64 (IntKind.wrap IntKind.i64 (emin - (P : Int)) + 1))])] ?_
            refine SW_ret ?_
            refine xe () (.agg #[.int .i64 2, .bool ng, .int .u64 (hiI (x % 2 ^ (P - 1))), .int .u64 (loI (x % 2 ^ (P - 1))), .int .i64 (IntKind.wrap IntKind.i64 (IntKind.wrap IntKind.i64 (emin - (P : Int)) + 1))]) [1] ?_ trivial
            rw [partsOf, if_neg c1, if_pos c3, if_neg c2, wsi (x := emin - _) (by omega), wsi (by omega)]
            rfl
          ·have z3 : (e == 0) = false := by rw [heF, beq_eq_false_iff_ne]; omega
           refine SW_seq ?_
           refine SW_block ?_
           refine xg ?_
           refine xn 4 [] [(123, .bool (e == IntKind.wrap IntKind.i64 (t - 1)))] ?_
           refine xkf 123 z1 ?_
           refine xz [] [(119, .bool false)] ?_
           refine xs0 ?_
           refine xr [] [(129, .bool (e == IntKind.wrap IntKind.i64 (t - 1)))] ?_
           refine xsf z1 ?_
           refine xg ?_
           refine xn 3 [] [(137, .bool (e == 0))] ?_
           refine xkf 137 z3 ?_
           refine xz [] [(134, .bool false)] ?_
           refine xs0 ?_
           refine xr [] [(143, .bool (e == 0))] ?_
           refine xsf z3 ?_
           refine xq [(1, [3])] [] [(3, [.int .i64 3, .bool ng, .int .u64 0, .int .u64 0, .int .i64 0])] ?_
           refine xg ?_
           refine xn 4 [(2, [2])] [(105, .int .i64 (IntKind.wrap IntKind.i64 ((P : Int) - 1))), (102, .slice A (List.length (ofN B32 (x % 2 ^ (P - 1)))) c)] ?_
           refine xcr 106 (ct_spec_l2Two (IntKind.wrap IntKind.i64 ((P : Int) - 1)) (P - 1) nP (by omega)) zs0 (fun A2 k2 => ?_)
           refine xcr 107 (ct_spec_l1Add (x % 2 ^ (P - 1)) (2 ^ (P - 1)) (A) (A2) (c) (k2) sR sT) (zsS (ziS zi0) (zsS zi0 zs0)) (fun A3 k3 => ?_)
           refine xcv 108 (ct_spec_l2Word (x % 2 ^ (P - 1) + 2 ^ (P - 1)) (A3) (k3) bS) (zsS zi0 zs0) ?_
           refine xy [(8, [3])] [] [(3, [.int .i64 3, .bool ng, .int .u64 (hiI (x % 2 ^ (P - 1) + 2 ^ (P - 1))), .int .u64 (loI (x % 2 ^ (P - 1) + 2 ^ (P - 1))), .int .i64 0])] ?_
           refine xql [(2, [2]), (5, [2]), (9, [3])] [] [(3, [.int .i64 3, .bool ng, .int .u64 (hiI (x % 2 ^ (P - 1) + 2 ^ (P - 1))), .int .u64 (loI (x % 2 ^ (P - 1) + 2 ^ (P - 1))), .int .i64 (IntKind.wrap IntKind.i64 (IntKind.wrap IntKind.i64 (IntKind.wrap IntKind.i64 (e - emax) - (P : Int)) + 1))])] ?_
           refine xq [(0, [3]), (1, [1])] [] [(1, [.int .i64 3, .bool ng, .int .u64 (hiI (x % 2 ^ (P - 1) + 2 ^ (P - 1))), .int .u64 (loI (x % 2 ^ (P - 1) + 2 ^ (P - 1))), .int .i64 (IntKind.wrap IntKind.i64 (IntKind.wrap IntKind.i64 (IntKind.wrap IntKind.i64 (e - emax) - (P : Int)) + 1))])] ?_
           refine SW_ret ?_
           refine xe () (.agg #[.int .i64 3, .bool ng, .int .u64 (hiI (x % 2 ^ (P - 1) + 2 ^ (P - 1))), .int .u64 (loI (x % 2 ^ (P - 1) + 2 ^ (P - 1))), .int .i64 (IntKind.wrap IntKind.i64 (IntKind.wrap IntKind.i64 (IntKind.wrap IntKind.i64 (e - emax) - (P : Int)) + 1))]) [1] ?_ trivial
           have hF15 : F < 32768 := Nat.lt_of_lt_of_le hFl h2
           rw [partsOf, if_neg c1, if_neg c3, heF, wsi (x := (F : Int) - _) (by omega), wsi (x := (F : Int) - _ - _) (by omega), wsi (by omega)]
           rfl
end Go.Proofs.YtodhmbbiifhiaaaDoor.M
end
section
namespace Go.Proofs.YtodhmbbiifhiaaaDoor.M
open Go.RowKit Go.Proofs.YtodhmbbiifhiaaaDoor.G Go.Proofs.YtodhmbbiifhiaaaDoorV.PrintWords Go.Proofs.YtodhmbbiifhiaaaDoorV.PrintLast Go.Proofs.YtodhmbbiifhiaaaDoor.X
set_option linter.unusedVariables false
set_option linter.unusedSimpArgs false
theorem ct_impl_Unpack {P : Nat} {emin emax : Int} {W E : Nat} {ex : Bool} (h : Fmt P emin emax W E ex) (f : Int) (hf : impl_layoutOf.f f = some ((P : Int), emin, emax, (W : Int), (E : Int), ex, true)) (x : Nat) (hx : x < B128) : CtV Tryd.prog 9 [.int .i64 f, .agg #[.int .u64 (hiI x), .int .u64 (loI x)]] [Tabled] (prtV (unpN P emin emax W E ex x)) := by
 refine ct_of Tryd.func9 rfl (by kernel_rfl) (fun B w0 => ?_)
 have p0 := h.p0
 have p1 := h.p1
 have w1 := h.w1
 have w2 := h.w2
 have e1 := h.e1
 have fN : fracN P ex ≤ P := by unfold fracN; split <;> omega
 have nW : Nn (IntKind.i64.wrap ((W : Int) - 1)) (W - 1) := Nn.wrap (by omega) (by omega)
 have nP : Nn (IntKind.i64.wrap ((P : Int) - 1)) (P - 1) := Nn.wrap (by omega) (by omega)
 have bd : ∀ i, x / i < B128 := fun i => Nat.lt_of_le_of_lt (Nat.div_le_self _ _) hx
 have bm : ∀ i, x % i < B128 := fun i => Nat.lt_of_le_of_lt (Nat.mod_le _ _) hx
 have hq : (!(hiI (x / 2 ^ W) == 0 && (loI (x / 2 ^ W) == 0))) = decide (2 ^ W ≤ x) := by
  rw [word_eq0, Bool.eq_iff_iff, Bool.not_eq_true', decide_eq_false_iff_not, decide_eq_true_iff]
  have := Nat.pow_pos (n := W) (show 0 < 2 by decide)
  exact ⟨fun hn => Nat.le_of_not_lt (fun z => hn (Nat.div_eq_of_lt z)), fun hn z => by have := Nat.div_pos hn this; omega⟩
 refine xg ?_
 refine xb 3 [.int .u64 (hiI x), .int .u64 (loI x)] 25 (fun g0 => ?_)
 refine xb 4 [.int .i64 0, .bool false, .int .u64 0, .int .u64 0, .int .i64 0] 29 (fun g1 => ?_)
 refine xz [] [] ?_
 refine xg ?_
 refine xn 1 [] [(14, .int .i64 f)] ?_
 refine xcv 15 (ct_impl_layoutOf (f) hf) (zsS zi0 zs0) ?_
 refine xn 5 [] [(17, .bool true), (16, .agg #[.int .i64 (P : Int), .int .i64 emin, .int .i64 emax, .int .i64 (W : Int), .int .i64 (E : Int), .bool ex])] ?_
 refine xb 5 [.int .i64 0, .int .i64 0, .int .i64 0, .int .i64 0, .int .i64 0, .bool false] 81 (fun g2 => ?_)
 refine xy [(6, [2])] [(6, .bool true)] [(2, [.int .i64 (P : Int), .int .i64 emin, .int .i64 emax, .int .i64 (W : Int), .int .i64 (E : Int), .bool ex])] ?_
 refine SW_cut (fun s' => x < 2 ^ W ∧ Weak s' ⟨[(0, .int .i64 f), (3, .pointer (some ⟨g0, 0, none⟩)), (4, .pointer (some ⟨g1, 0, none⟩)), (5, .pointer (some ⟨g2, 0, none⟩))], [⟨g0, [.int .u64 (hiI x), .int .u64 (loI x)], 25⟩, ⟨g1, [.int .i64 0, .bool false, .int .u64 0, .int .u64 0, .int .i64 0], 29⟩, ⟨g2, [.int .i64 P, .int .i64 emin, .int .i64 emax, .int .i64 W, .int .i64 E, .bool ex], 81⟩], [Tabled]⟩) ?_ ?_
 ·by_cases hW : W < 128
  ·have z1 : decide ((W : Int) < 128) = true := decide_eq_true (by omega)
   by_cases hx2 : 2 ^ W ≤ x
   ·have z2 := hq.trans (decide_eq_true hx2)
    refine xg ?_
    refine xn 8 [(5, [2])] [(25, .bool (decide ((W : Int) < 128))), (20, .bool false)] ?_
    refine xkt 25 z1 ?_
    refine xn 12 [(8, [0]), (11, [2])] [(29, .int .i64 (W : Int)), (26, .agg #[.int .u64 (hiI x), .int .u64 (loI x)])] ?_
    refine xcv 30 (ct_impl_Word_right (x) ((W : Int)) (W) ⟨rfl⟩ (by omega) hx) zs0 ?_
    refine xn 14 [] [(31, .agg #[.int .u64 0, .int .u64 0])] ?_
    refine xv 32 (.bool (!((hiI (x / 2 ^ W) == 0) && (loI (x / 2 ^ W) == 0)))) (fun w _ _ => run_neq rfl (by kernel_rfl) (by kernel_rfl) (by kernel_rfl) w (eq_word _ _ _ _ _ w)) ?_
    refine xz [] [(34, .bool !(hiI (x / 2 ^ W) == 0 && loI (x / 2 ^ W) == 0))] ?_
    refine xst z2 ?_
    refine xq [(1, [1])] [] [] ?_
    refine SW_ret ?_
    refine xe () (.agg #[.int .i64 0, .bool false, .int .u64 0, .int .u64 0, .int .i64 0]) [1] ?_ trivial
    rw [unpN, if_pos hx2]
    rfl
   ·have z2 := hq.trans (decide_eq_false hx2)
    refine xg ?_
    refine xn 8 [(5, [2])] [(25, .bool (decide ((W : Int) < 128))), (20, .bool false)] ?_
    refine xkt 25 z1 ?_
    refine xn 12 [(8, [0]), (11, [2])] [(29, .int .i64 (W : Int)), (26, .agg #[.int .u64 (hiI x), .int .u64 (loI x)])] ?_
    refine xcv 30 (ct_impl_Word_right (x) ((W : Int)) (W) ⟨rfl⟩ (by omega) hx) zs0 ?_
    refine xn 14 [] [(31, .agg #[.int .u64 0, .int .u64 0])] ?_
    refine xv 32 (.bool (!((hiI (x / 2 ^ W) == 0) && (loI (x / 2 ^ W) == 0)))) (fun w _ _ => run_neq rfl (by kernel_rfl) (by kernel_rfl) (by kernel_rfl) w (eq_word _ _ _ _ _ w)) ?_
    refine xz [] [(34, .bool !(hiI (x / 2 ^ W) == 0 && loI (x / 2 ^ W) == 0))] ?_
    refine xsf z2 ?_
    refine SW_skip ?_
    refine ⟨?_, xw (zsS zi0 zs0)⟩
    omega
  ·have z1 : decide ((W : Int) < 128) = false := decide_eq_false (by omega)
   have hx2 : x < 2 ^ W := by rw [show W = 128 by omega]; exact hx
   refine xg ?_
   refine xn 8 [(5, [2])] [(25, .bool (decide ((W : Int) < 128))), (20, .bool false)] ?_
   refine xkf 25 z1 ?_
   refine xz [(8, [0])] [(34, .bool false)] ?_
   refine xs0 ?_
   refine SW_skip ?_
   refine ⟨?_, xw (zsS zi0 zs0)⟩
   exact hx2
 ·rintro s' ⟨hxW, hw⟩
  refine SW_weak hw ?_
  clear hw
  have sR : x / 2 ^ fracN P ex % 2 ^ E < 2 ^ 64 := Nat.lt_of_lt_of_le (Nat.mod_lt _ (Nat.pow_pos (by decide))) (Nat.pow_le_pow_right (by decide) (by omega))
  obtain ⟨e, he⟩ : ∃ e, e = x / 2 ^ fracN P ex % 2 ^ E := ⟨_, rfl⟩
  have hel : e < 2 ^ E := by rw [he]; exact Nat.mod_lt _ (Nat.pow_pos (by decide))
  have he9 : IntKind.i64.wrap (loI e) = (e : Int) := by
   have h4 : 2 ^ E ≤ 2 ^ 15 := Nat.pow_le_pow_right (by decide) e1
   have h5 : e < 32768 := Nat.lt_of_lt_of_le hel h4
   unfold loI
   rw [Nat.mod_eq_of_lt (by omega)]
   exact wsi (by omega)
  have be : e < B128 := by rw [he]; exact Nat.lt_of_le_of_lt (Nat.mod_le _ _) (bd _)
  have hng : (!(hiI (x / 2 ^ (W - 1)) == 0 && (loI (x / 2 ^ (W - 1)) == 0))) = decide (x / 2 ^ (W - 1) % 2 = 1) := by
   have h2 : x / 2 ^ (W - 1) < 2 := Nat.div_lt_of_lt_mul (by rw [← Nat.pow_succ, show (W - 1).succ = W by omega]; exact hxW)
   rw [word_eq0, Bool.eq_iff_iff, Bool.not_eq_true', decide_eq_false_iff_not, decide_eq_true_iff]
   exact small2 _ h2
  have lP : ∀ y, y % 2 ^ (P - 1) < 2 ^ (P - 1) := fun y => Nat.mod_lt _ (Nat.pow_pos (by decide))
  rw [show unpN P emin emax W E ex x = if ex = true then (if (2 ^ (P - 1) ≤ x % 2 ^ P ↔ e ≠ 0) then partsOf P emin emax E e (decide (x / 2 ^ (W - 1) % 2 = 1)) (x % 2 ^ P % 2 ^ (P - 1)) else badP) else partsOf P emin emax E e (decide (x / 2 ^ (W - 1) % 2 = 1)) (x % 2 ^ (P - 1)) by
   rw [unpN, if_neg (by omega), he]
   cases ex <;> rfl]
  rw [← hng]
  refine xg ?_
  refine xn 1 [(0, [2])] [(36, .agg #[.int .i64 (P : Int), .int .i64 emin, .int .i64 emax, .int .i64 (W : Int), .int .i64 (E : Int), .bool ex])] ?_
  refine xcv 37 (ct_impl_layout_fracBits h) zs0 ?_
  refine xz [] [(7, .int .i64 (((fracN P ex) : Nat) : Int))] ?_
  refine xg ?_
  refine xn 2 [(0, [0])] [(39, .int .i64 (((fracN P ex) : Nat) : Int)), (38, .agg #[.int .u64 (hiI x), .int .u64 (loI x)])] ?_
  refine xcv 40 (ct_impl_Word_low (x) ((((fracN P ex) : Nat) : Int)) (fracN P ex) ⟨rfl⟩ (by omega) hx) zs0 ?_
  refine xb 8 [.int .u64 0, .int .u64 0] 25 (fun g3 => ?_)
  refine xy [(4, [3])] [] [(3, [.int .u64 (hiI (x % 2 ^ fracN P ex)), .int .u64 (loI (x % 2 ^ fracN P ex))])] ?_
  refine xd (fun hB => ?_)
  refine xdk [(0, [0]), (1, []), (3, []), (4, []), (5, [2])] [(46, .int .i64 (E : Int)), (42, .int .i64 (((fracN P ex) : Nat) : Int)), (41, .agg #[.int .u64 (hiI x), .int .u64 (loI x)])] hB ?_
  refine xdv 2 43 (ct_impl_Word_right (x) ((((fracN P ex) : Nat) : Int)) (fracN P ex) ⟨rfl⟩ (by omega) hx) zs0 ?_
  refine xdv 6 47 (ct_impl_Word_low (x / 2 ^ fracN P ex) ((E : Int)) (E) ⟨rfl⟩ (by omega) (bd _)) zs0 ?_
  refine xdk [(7, []), (8, []), (9, [])] [(9, .int .i64 (IntKind.wrap IntKind.i64 (loI (x / 2 ^ fracN P ex % 2 ^ E))))] hB ?_
  refine xdz ?_
  refine xg ?_
  refine xn 5 [(0, [0]), (3, [2])] [(54, .int .i64 (IntKind.wrap IntKind.i64 ((W : Int) - 1))), (50, .agg #[.int .u64 (hiI x), .int .u64 (loI x)])] ?_
  refine xcv 55 (ct_impl_Word_right (x) (IntKind.wrap IntKind.i64 ((W : Int) - 1)) (W - 1) nW (by omega) hx) zs0 ?_
  refine xn 7 [] [(56, .agg #[.int .u64 0, .int .u64 0])] ?_
  refine xv 57 (.bool (!((hiI (x / 2 ^ (W - 1)) == 0) && (loI (x / 2 ^ (W - 1)) == 0)))) (fun w _ _ => run_neq rfl (by kernel_rfl) (by kernel_rfl) (by kernel_rfl) w (eq_word _ _ _ _ _ w)) ?_
  refine xz [] [(10, .bool !(hiI (x / 2 ^ (W - 1)) == 0 && loI (x / 2 ^ (W - 1)) == 0))] ?_
  refine xg ?_
  refine xn 1 [(0, [3])] [(58, .agg #[.int .u64 (hiI (x % 2 ^ fracN P ex)), .int .u64 (loI (x % 2 ^ fracN P ex))])] ?_
  refine xb 11 [.int .u64 0, .int .u64 0] 25 (fun g4 => ?_)
  refine xy [(2, [4])] [] [(4, [.int .u64 (hiI (x % 2 ^ fracN P ex)), .int .u64 (loI (x % 2 ^ fracN P ex))])] ?_
  rw [← he]
  refine SW_cut (fun s' => ∃ R F, (if ex = true then (if (2 ^ (P - 1) ≤ x % 2 ^ P ↔ e ≠ 0) then partsOf P emin emax E e (!(hiI (x / 2 ^ (W - 1)) == 0 && (loI (x / 2 ^ (W - 1)) == 0))) (x % 2 ^ P % 2 ^ (P - 1)) else badP) else partsOf P emin emax E e (!(hiI (x / 2 ^ (W - 1)) == 0 && (loI (x / 2 ^ (W - 1)) == 0))) (x % 2 ^ (P - 1))) = partsOf P emin emax E e (!(hiI (x / 2 ^ (W - 1)) == 0 && (loI (x / 2 ^ (W - 1)) == 0))) R ∧ R < 2 ^ (P - 1) ∧ F < B128 ∧ (e = 0 → F = R) ∧ (e ≠ 0 → F ||| 2 ^ (P - 1) = R + 2 ^ (P - 1)) ∧ Weak s' ⟨[(4, .pointer (some ⟨g1, 0, none⟩)), (5, .pointer (some ⟨g2, 0, none⟩)), (8, .pointer (some ⟨g3, 0, none⟩)), (9, .int .i64 (IntKind.i64.wrap (loI e))), (10, .bool (!(hiI (x / 2 ^ (W - 1)) == 0 && (loI (x / 2 ^ (W - 1)) == 0)))), (11, .pointer (some ⟨g4, 0, none⟩))], [⟨g0, [.int .u64 (hiI x), .int .u64 (loI x)], 25⟩, ⟨g1, [.int .i64 0, .bool false, .int .u64 0, .int .u64 0, .int .i64 0], 29⟩, ⟨g2, [.int .i64 P, .int .i64 emin, .int .i64 emax, .int .i64 W, .int .i64 E, .bool ex], 81⟩, ⟨g3, [.int .u64 (hiI F), .int .u64 (loI F)], 25⟩, ⟨g4, [.int .u64 (hiI R), .int .u64 (loI R)], 25⟩], [Tabled]⟩) ?_ ?_
  ·cases ex with
   | true =>
    have f2 : fracN P true = P := rfl
    rw [f2] at *
    have hj : (!(hiI (x % 2 ^ P / 2 ^ (P - 1)) == 0 && (loI (x % 2 ^ P / 2 ^ (P - 1)) == 0))) = decide (2 ^ (P - 1) ≤ x % 2 ^ P) := by
     rw [word_eq0, Bool.eq_iff_iff, Bool.not_eq_true', decide_eq_false_iff_not, decide_eq_true_iff]
     have := Nat.pow_pos (n := P - 1) (show 0 < 2 by decide)
     exact ⟨fun hn => Nat.le_of_not_lt (fun z => hn (Nat.div_eq_of_lt z)), fun hn z => by have := Nat.div_pos hn this; omega⟩
    have hz : (!((!(hiI (x % 2 ^ P / 2 ^ (P - 1)) == 0 && (loI (x % 2 ^ P / 2 ^ (P - 1)) == 0))) == (IntKind.i64.wrap (loI e) != 0))) = decide (¬ (2 ^ (P - 1) ≤ x % 2 ^ P ↔ e ≠ 0)) := by
     rw [hj, he9]
     have : ((e : Int) != 0) = decide (e ≠ 0) := by
      rw [Bool.eq_iff_iff, bne_iff_ne, decide_eq_true_iff]
      omega
     rw [this]
     by_cases a : 2 ^ (P - 1) ≤ x % 2 ^ P <;> by_cases b : e = 0 <;> simp [a, b]
    by_cases hg : (2 ^ (P - 1) ≤ x % 2 ^ P ↔ e ≠ 0)
    ·have z1 := hz.trans (decide_eq_false (not_not_intro hg))
     refine xr [(2, [2])] [(61, .bool true)] ?_
     refine xs1 ?_
     refine xg ?_
     refine xn 5 [(0, [3]), (3, [2])] [(66, .int .i64 (IntKind.wrap IntKind.i64 ((P : Int) - 1))), (62, .agg #[.int .u64 (hiI (x % 2 ^ P)), .int .u64 (loI (x % 2 ^ P))])] ?_
     refine xcv 67 (ct_impl_Word_right (x % 2 ^ P) (IntKind.wrap IntKind.i64 ((P : Int) - 1)) (P - 1) nP (by omega) (bm _)) zs0 ?_
     refine xn 7 [] [(68, .agg #[.int .u64 0, .int .u64 0])] ?_
     refine xv 69 (.bool (!((hiI (x % 2 ^ P / 2 ^ (P - 1)) == 0) && (loI (x % 2 ^ P / 2 ^ (P - 1)) == 0)))) (fun w _ _ => run_neq rfl (by kernel_rfl) (by kernel_rfl) (by kernel_rfl) w (eq_word _ _ _ _ _ w)) ?_
     refine xz [] [(12, .bool !(hiI (x % 2 ^ P / 2 ^ (P - 1)) == 0 && loI (x % 2 ^ P / 2 ^ (P - 1)) == 0))] ?_
     refine SW_seq ?_
     refine xr [] [(73, .bool !(!(hiI (x % 2 ^ P / 2 ^ (P - 1)) == 0 && loI (x % 2 ^ P / 2 ^ (P - 1)) == 0)) == (IntKind.wrap IntKind.i64 (loI e) != 0))] ?_
     refine xsf z1 ?_
     refine SW_skip ?_
     refine SW_region ?_
     refine xn 5 [(0, [3]), (3, [2])] [(79, .int .i64 (IntKind.wrap IntKind.i64 ((P : Int) - 1))), (75, .agg #[.int .u64 (hiI (x % 2 ^ P)), .int .u64 (loI (x % 2 ^ P))])] ?_
     refine xcv 80 (ct_impl_Word_low (x % 2 ^ P) (IntKind.wrap IntKind.i64 ((P : Int) - 1)) (P - 1) nP (by omega) (bm _)) zs0 ?_
     refine xy [(6, [4])] [] [(4, [.int .u64 (hiI (x % 2 ^ P % 2 ^ (P - 1))), .int .u64 (loI (x % 2 ^ P % 2 ^ (P - 1)))])] ?_
     refine ⟨(x % 2 ^ P % 2 ^ (P - 1)), (x % 2 ^ P), ?_, ?_, ?_, ?_, ?_, xw (zsS zi0 zs0)⟩
     ·rw [if_pos rfl, if_pos hg]
     ·exact lP _
     ·exact bm _
     ·intro h0
      exact (Nat.mod_eq_of_lt (Nat.lt_of_not_le (fun z => hg.1 z h0))).symm
     ·intro h0
      have hl := hg.2 h0
      have y1 := Nat.mod_lt x (Nat.pow_pos (n := P) (show 0 < 2 by decide))
      have y2 : 2 ^ P = 2 * 2 ^ (P - 1) := by rw [Nat.mul_comm, ← Nat.pow_succ]; congr 1; omega
      have y3 : x % 2 ^ P = x % 2 ^ P % 2 ^ (P - 1) + 2 ^ (P - 1) := by
       rw [Nat.mod_eq_sub_mod hl, Nat.mod_eq_of_lt (show x % 2 ^ P - 2 ^ (P - 1) < 2 ^ (P - 1) by omega)]
       omega
      have y4 := lor_top (lP (x % 2 ^ P))
      rw [← y3] at y4
      rw [← y4, Nat.or_assoc, Nat.or_self, y4, ← y3]
    ·have z1 := hz.trans (decide_eq_true hg)
     refine xr [(2, [2])] [(61, .bool true)] ?_
     refine xs1 ?_
     refine xg ?_
     refine xn 5 [(0, [3]), (3, [2])] [(66, .int .i64 (IntKind.wrap IntKind.i64 ((P : Int) - 1))), (62, .agg #[.int .u64 (hiI (x % 2 ^ P)), .int .u64 (loI (x % 2 ^ P))])] ?_
     refine xcv 67 (ct_impl_Word_right (x % 2 ^ P) (IntKind.wrap IntKind.i64 ((P : Int) - 1)) (P - 1) nP (by omega) (bm _)) zs0 ?_
     refine xn 7 [] [(68, .agg #[.int .u64 0, .int .u64 0])] ?_
     refine xv 69 (.bool (!((hiI (x % 2 ^ P / 2 ^ (P - 1)) == 0) && (loI (x % 2 ^ P / 2 ^ (P - 1)) == 0)))) (fun w _ _ => run_neq rfl (by kernel_rfl) (by kernel_rfl) (by kernel_rfl) w (eq_word _ _ _ _ _ w)) ?_
     refine xz [] [(12, .bool !(hiI (x % 2 ^ P / 2 ^ (P - 1)) == 0 && loI (x % 2 ^ P / 2 ^ (P - 1)) == 0))] ?_
     refine SW_seq ?_
     refine xr [] [(73, .bool !(!(hiI (x % 2 ^ P / 2 ^ (P - 1)) == 0 && loI (x % 2 ^ P / 2 ^ (P - 1)) == 0)) == (IntKind.wrap IntKind.i64 (loI e) != 0))] ?_
     refine xst z1 ?_
     refine xq [(1, [1])] [] [] ?_
     refine SW_ret ?_
     refine xe () (.agg #[.int .i64 0, .bool false, .int .u64 0, .int .u64 0, .int .i64 0]) [1] ?_ trivial
     rw [if_pos rfl, if_neg hg]
     rfl
   | false =>
    have f2 : fracN P false = P - 1 := rfl
    rw [f2] at *
    refine xr [(2, [2])] [(61, .bool false)] ?_
    refine xs0 ?_
    refine SW_skip ?_
    refine ⟨(x % 2 ^ (P - 1)), (x % 2 ^ (P - 1)), ?_, ?_, ?_, ?_, ?_, xw (zsS zi0 zs0)⟩
    ·rfl
    ·exact lP _
    ·exact bm _
    ·intro _; rfl
    ·intro _; exact lor_top (lP _)
  ·rintro s' ⟨R, F, hU, hR, hF, hF0, hF1, hw⟩
   refine SW_weak hw ?_
   rw [hU]
   have z2 := word_eq0 R
   have z4 := word_eq0 F
   have bP : 2 ^ (P - 1) < B128 := Nat.pow_lt_pow_right (a := 2) (n := 128) (by decide) (by omega)
   have hm0 := h.m0
   have hm1 := h.m1
   by_cases c1 : e = 2 ^ E - 1
   ·have z1 : (IntKind.i64.wrap (loI e) == ((2 ^ E - 1 : Nat) : Int)) = true := by rw [he9, c1]; exact beq_self_eq_true _
    by_cases c2 : R = 0
    ·rw [decide_eq_true c2] at z2
     refine SW_seq ?_
     refine SW_block ?_
     refine xg ?_
     refine xn 2 [(1, [2])] [(83, .agg #[.int .i64 (P : Int), .int .i64 emin, .int .i64 emax, .int .i64 (W : Int), .int .i64 (E : Int), .bool ex]), (82, .int .i64 (IntKind.wrap IntKind.i64 (loI e)))] ?_
     refine xcv 84 (ct_impl_layout_top h) zs0 ?_
     refine xn 5 [] [(86, .bool (IntKind.wrap IntKind.i64 (loI e) == (((2 ^ E - 1) : Nat) : Int)))] ?_
     refine xkt 86 z1 ?_
     refine xn 7 [(5, [4])] [(88, .agg #[.int .u64 0, .int .u64 0]), (87, .agg #[.int .u64 (hiI R), .int .u64 (loI R)])] ?_
     refine xv 89 (.bool ((hiI R == 0) && (loI R == 0))) (fun w _ _ => run_eql rfl (by kernel_rfl) (by kernel_rfl) (by kernel_rfl) w (eq_word _ _ _ _ _ w)) ?_
     refine xz [] [(81, .bool (hiI R == 0 && loI R == 0))] ?_
     refine xst z2 ?_
     refine xq [(2, [1])] [] [(1, [.int .i64 4, .bool !(hiI (x / 2 ^ (W - 1)) == 0 && loI (x / 2 ^ (W - 1)) == 0), .int .u64 0, .int .u64 0, .int .i64 0])] ?_
     refine SW_ret ?_
     refine xe () (.agg #[.int .i64 4, .bool !(hiI (x / 2 ^ (W - 1)) == 0 && loI (x / 2 ^ (W - 1)) == 0), .int .u64 0, .int .u64 0, .int .i64 0]) [1] ?_ trivial
     rw [partsOf, if_pos c1, if_pos c2]
     rfl
    ·rw [decide_eq_false c2] at z2
     refine SW_seq ?_
     refine SW_block ?_
     refine xg ?_
     refine xn 2 [(1, [2])] [(83, .agg #[.int .i64 (P : Int), .int .i64 emin, .int .i64 emax, .int .i64 (W : Int), .int .i64 (E : Int), .bool ex]), (82, .int .i64 (IntKind.wrap IntKind.i64 (loI e)))] ?_
     refine xcv 84 (ct_impl_layout_top h) zs0 ?_
     refine xn 5 [] [(86, .bool (IntKind.wrap IntKind.i64 (loI e) == (((2 ^ E - 1) : Nat) : Int)))] ?_
     refine xkt 86 z1 ?_
     refine xn 7 [(5, [4])] [(88, .agg #[.int .u64 0, .int .u64 0]), (87, .agg #[.int .u64 (hiI R), .int .u64 (loI R)])] ?_
     refine xv 89 (.bool ((hiI R == 0) && (loI R == 0))) (fun w _ _ => run_eql rfl (by kernel_rfl) (by kernel_rfl) (by kernel_rfl) w (eq_word _ _ _ _ _ w)) ?_
     refine xz [] [(81, .bool (hiI R == 0 && loI R == 0))] ?_
     refine xsf z2 ?_
     refine xg ?_
     refine xn 2 [(1, [2])] [(95, .agg #[.int .i64 (P : Int), .int .i64 emin, .int .i64 emax, .int .i64 (W : Int), .int .i64 (E : Int), .bool ex]), (94, .int .i64 (IntKind.wrap IntKind.i64 (loI e)))] ?_
     refine xcv 96 (ct_impl_layout_top h) zs0 ?_
     refine xz [] [(93, .bool (IntKind.wrap IntKind.i64 (loI e) == (((2 ^ E - 1) : Nat) : Int)))] ?_
     refine xst z1 ?_
     refine xq [(1, [1])] [] [(1, [.int .i64 5, .bool false, .int .u64 0, .int .u64 0, .int .i64 0])] ?_
     refine SW_ret ?_
     refine xe () (.agg #[.int .i64 5, .bool false, .int .u64 0, .int .u64 0, .int .i64 0]) [1] ?_ trivial
     rw [partsOf, if_pos c1, if_neg c2]
     rfl
   ·have z1 : (IntKind.i64.wrap (loI e) == ((2 ^ E - 1 : Nat) : Int)) = false := by rw [he9, beq_eq_false_iff_ne]; omega
    by_cases c3 : e = 0
    ·have z3 : (IntKind.i64.wrap (loI e) == 0) = true := by rw [he9, c3]; rfl
     have hFR := hF0 c3
     by_cases c2 : R = 0
     ·rw [decide_eq_true (hFR.trans c2)] at z4
      refine SW_seq ?_
      refine SW_block ?_
      refine xg ?_
      refine xn 2 [(1, [2])] [(83, .agg #[.int .i64 (P : Int), .int .i64 emin, .int .i64 emax, .int .i64 (W : Int), .int .i64 (E : Int), .bool ex]), (82, .int .i64 (IntKind.wrap IntKind.i64 (loI e)))] ?_
      refine xcv 84 (ct_impl_layout_top h) zs0 ?_
      refine xn 5 [] [(86, .bool (IntKind.wrap IntKind.i64 (loI e) == (((2 ^ E - 1) : Nat) : Int)))] ?_
      refine xkf 86 z1 ?_
      refine xz [(5, [4])] [(81, .bool false)] ?_
      refine xs0 ?_
      refine xg ?_
      refine xn 2 [(1, [2])] [(95, .agg #[.int .i64 (P : Int), .int .i64 emin, .int .i64 emax, .int .i64 (W : Int), .int .i64 (E : Int), .bool ex]), (94, .int .i64 (IntKind.wrap IntKind.i64 (loI e)))] ?_
      refine xcv 96 (ct_impl_layout_top h) zs0 ?_
      refine xz [] [(93, .bool (IntKind.wrap IntKind.i64 (loI e) == (((2 ^ E - 1) : Nat) : Int)))] ?_
      refine xsf z1 ?_
      refine xg ?_
      refine xn 3 [] [(102, .bool (IntKind.wrap IntKind.i64 (loI e) == 0))] ?_
      refine xkt 102 z3 ?_
      refine xn 5 [(3, [3])] [(104, .agg #[.int .u64 0, .int .u64 0]), (103, .agg #[.int .u64 (hiI F), .int .u64 (loI F)])] ?_
      refine xv 105 (.bool ((hiI F == 0) && (loI F == 0))) (fun w _ _ => run_eql rfl (by kernel_rfl) (by kernel_rfl) (by kernel_rfl) w (eq_word _ _ _ _ _ w)) ?_
      refine xz [] [(99, .bool (hiI F == 0 && loI F == 0))] ?_
      refine xst z4 ?_
      refine xq [(2, [1])] [] [(1, [.int .i64 1, .bool !(hiI (x / 2 ^ (W - 1)) == 0 && loI (x / 2 ^ (W - 1)) == 0), .int .u64 0, .int .u64 0, .int .i64 0])] ?_
      refine SW_ret ?_
      refine xe () (.agg #[.int .i64 1, .bool !(hiI (x / 2 ^ (W - 1)) == 0 && loI (x / 2 ^ (W - 1)) == 0), .int .u64 0, .int .u64 0, .int .i64 0]) [1] ?_ trivial
      rw [partsOf, if_neg c1, if_pos c3, if_pos c2]
      rfl
     ·rw [decide_eq_false (fun z => c2 (hFR.symm.trans z))] at z4
      refine SW_seq ?_
      refine SW_block ?_
      refine xg ?_
      refine xn 2 [(1, [2])] [(83, .agg #[.int .i64 (P : Int), .int .i64 emin, .int .i64 emax, .int .i64 (W : Int), .int .i64 (E : Int), .bool ex]), (82, .int .i64 (IntKind.wrap IntKind.i64 (loI e)))] ?_
      refine xcv 84 (ct_impl_layout_top h) zs0 ?_
      refine xn 5 [] [(86, .bool (IntKind.wrap IntKind.i64 (loI e) == (((2 ^ E - 1) : Nat) : Int)))] ?_
      refine xkf 86 z1 ?_
      refine xz [(5, [4])] [(81, .bool false)] ?_
      refine xs0 ?_
      refine xg ?_
      refine xn 2 [(1, [2])] [(95, .agg #[.int .i64 (P : Int), .int .i64 emin, .int .i64 emax, .int .i64 (W : Int), .int .i64 (E : Int), .bool ex]), (94, .int .i64 (IntKind.wrap IntKind.i64 (loI e)))] ?_
      refine xcv 96 (ct_impl_layout_top h) zs0 ?_
      refine xz [] [(93, .bool (IntKind.wrap IntKind.i64 (loI e) == (((2 ^ E - 1) : Nat) : Int)))] ?_
      refine xsf z1 ?_
      refine xg ?_
      refine xn 3 [] [(102, .bool (IntKind.wrap IntKind.i64 (loI e) == 0))] ?_
      refine xkt 102 z3 ?_
      refine xn 5 [(3, [3])] [(104, .agg #[.int .u64 0, .int .u64 0]), (103, .agg #[.int .u64 (hiI F), .int .u64 (loI F)])] ?_
      refine xv 105 (.bool ((hiI F == 0) && (loI F == 0))) (fun w _ _ => run_eql rfl (by kernel_rfl) (by kernel_rfl) (by kernel_rfl) w (eq_word _ _ _ _ _ w)) ?_
      refine xz [] [(99, .bool (hiI F == 0 && loI F == 0))] ?_
      refine xsf z4 ?_
      refine xr [] [(109, .bool (IntKind.wrap IntKind.i64 (loI e) == 0))] ?_
      refine xst z3 ?_
      refine xd (fun hB => ?_)
      refine xdk [(0, []), (1, [3]), (2, [2])] [(114, .agg #[.int .i64 (P : Int), .int .i64 emin, .int .i64 emax, .int .i64 (W : Int), .int .i64 (E : Int), .bool ex]), (113, .agg #[.int .u64 (hiI F), .int .u64 (loI F)]), (112, .bool !(hiI (x / 2 ^ (W - 1)) == 0 && loI (x / 2 ^ (W - 1)) == 0))] hB ?_
      refine xdv 3 115 (ct_impl_layout_qMin h) zs0 ?_
      refine xdk [(4, [])] [(116, .agg #[.int .i64 2, .bool !(hiI (x / 2 ^ (W - 1)) == 0 && loI (x / 2 ^ (W - 1)) == 0), .int .u64 (hiI F), .int .u64 (loI F), .int .i64 (emin - (P : Int) + 1)])] hB ?_
      refine xds 5 [1] [(1, [.int .i64 2, .bool !(hiI (x / 2 ^ (W - 1)) == 0 && loI (x / 2 ^ (W - 1)) == 0), .int .u64 (hiI F), .int .u64 (loI F), .int .i64 (emin - (P : Int) + 1)])] ?_
      refine xdz ?_
      refine SW_ret ?_
      refine xe () (.agg #[.int .i64 2, .bool !(hiI (x / 2 ^ (W - 1)) == 0 && loI (x / 2 ^ (W - 1)) == 0), .int .u64 (hiI F), .int .u64 (loI F), .int .i64 (emin - (P : Int) + 1)]) [1] ?_ trivial
      rw [partsOf, if_neg c1, if_pos c3, if_neg c2, hFR]
      kernel_rfl
    ·have z3 : (IntKind.i64.wrap (loI e) == 0) = false := by rw [he9, beq_eq_false_iff_ne]; omega
     refine SW_seq ?_
     refine SW_block ?_
     refine xg ?_
     refine xn 2 [(1, [2])] [(83, .agg #[.int .i64 (P : Int), .int .i64 emin, .int .i64 emax, .int .i64 (W : Int), .int .i64 (E : Int), .bool ex]), (82, .int .i64 (IntKind.wrap IntKind.i64 (loI e)))] ?_
     refine xcv 84 (ct_impl_layout_top h) zs0 ?_
     refine xn 5 [] [(86, .bool (IntKind.wrap IntKind.i64 (loI e) == (((2 ^ E - 1) : Nat) : Int)))] ?_
     refine xkf 86 z1 ?_
     refine xz [(5, [4])] [(81, .bool false)] ?_
     refine xs0 ?_
     refine xg ?_
     refine xn 2 [(1, [2])] [(95, .agg #[.int .i64 (P : Int), .int .i64 emin, .int .i64 emax, .int .i64 (W : Int), .int .i64 (E : Int), .bool ex]), (94, .int .i64 (IntKind.wrap IntKind.i64 (loI e)))] ?_
     refine xcv 96 (ct_impl_layout_top h) zs0 ?_
     refine xz [] [(93, .bool (IntKind.wrap IntKind.i64 (loI e) == (((2 ^ E - 1) : Nat) : Int)))] ?_
     refine xsf z1 ?_
     refine xg ?_
     refine xn 3 [] [(102, .bool (IntKind.wrap IntKind.i64 (loI e) == 0))] ?_
     refine xkf 102 z3 ?_
     refine xz [(3, [3])] [(99, .bool false)] ?_
     refine xs0 ?_
     refine xr [] [(109, .bool (IntKind.wrap IntKind.i64 (loI e) == 0))] ?_
     refine xsf z3 ?_
     refine SW_skip ?_
     refine xd (fun hB => ?_)
     refine xdk [(0, []), (1, [3]), (2, []), (3, []), (4, [2]), (5, []), (8, []), (9, []), (10, []), (11, [2]), (12, []), (13, []), (14, []), (15, [2]), (16, []), (17, [])] [(134, .int .i64 (IntKind.wrap IntKind.i64 (IntKind.wrap IntKind.i64 (IntKind.wrap IntKind.i64 (IntKind.wrap IntKind.i64 (loI e) - emax) - (P : Int)) + 1))), (122, .int .i64 (IntKind.wrap IntKind.i64 ((P : Int) - 1))), (118, .agg #[.int .u64 (hiI F), .int .u64 (loI F)]), (117, .bool !(hiI (x / 2 ^ (W - 1)) == 0 && loI (x / 2 ^ (W - 1)) == 0))] hB ?_
     refine xdv 6 123 (ct_impl_one (IntKind.wrap IntKind.i64 ((P : Int) - 1)) (P - 1) nP (by omega)) zs0 ?_
     refine xdv 7 124 (ct_impl_Word_or (hiI F) (loI F) (hiI (2 ^ (P - 1))) (loI (2 ^ (P - 1))) (F) (2 ^ (P - 1)) ⟨rfl, rfl⟩ ⟨rfl, rfl⟩ hF bP) zs0 ?_
     refine xdk [(18, [])] [(135, .agg #[.int .i64 3, .bool !(hiI (x / 2 ^ (W - 1)) == 0 && loI (x / 2 ^ (W - 1)) == 0), .int .u64 (hiI (F ||| 2 ^ (P - 1))), .int .u64 (loI (F ||| 2 ^ (P - 1))), .int .i64 (IntKind.wrap IntKind.i64 (IntKind.wrap IntKind.i64 (IntKind.wrap IntKind.i64 (IntKind.wrap IntKind.i64 (loI e) - emax) - (P : Int)) + 1))])] hB ?_
     refine xds 19 [1] [(1, [.int .i64 3, .bool !(hiI (x / 2 ^ (W - 1)) == 0 && loI (x / 2 ^ (W - 1)) == 0), .int .u64 (hiI (F ||| 2 ^ (P - 1))), .int .u64 (loI (F ||| 2 ^ (P - 1))), .int .i64 (IntKind.wrap IntKind.i64 (IntKind.wrap IntKind.i64 (IntKind.wrap IntKind.i64 (IntKind.wrap IntKind.i64 (loI e) - emax) - (P : Int)) + 1))])] ?_
     refine xdz ?_
     refine SW_ret ?_
     refine xe () (.agg #[.int .i64 3, .bool !(hiI (x / 2 ^ (W - 1)) == 0 && loI (x / 2 ^ (W - 1)) == 0), .int .u64 (hiI (F ||| 2 ^ (P - 1))), .int .u64 (loI (F ||| 2 ^ (P - 1))), .int .i64 (IntKind.wrap IntKind.i64 (IntKind.wrap IntKind.i64 (IntKind.wrap IntKind.i64 (IntKind.wrap IntKind.i64 (loI e) - emax) - (P : Int)) + 1))]) [1] ?_ trivial
     have hF15 : e < 32768 := Nat.lt_of_lt_of_le hel (show 2 ^ E ≤ 2 ^ 15 from Nat.pow_le_pow_right (by decide) e1)
     rw [partsOf, if_neg c1, if_neg c3, hF1 c3, he9, wsi (x := (e : Int) - _) (by omega), wsi (x := (e : Int) - _ - _) (by omega), wsi (by omega)]
     rfl
end Go.Proofs.YtodhmbbiifhiaaaDoor.M
end
section
namespace Go.Proofs.YtodhmbbiifhiaaaDoor.M
open Go.RowKit Go.Proofs.YtodhmbbiifhiaaaDoor.G Go.Proofs.YtodhmbbiifhiaaaDoorV.PrintWords Go.Proofs.YtodhmbbiifhiaaaDoorV.PrintLast Go.Proofs.YtodhmbbiifhiaaaDoor.X
set_option linter.unusedVariables false
set_option linter.unusedSimpArgs false
structure FD (f : Int) (P : Nat) (emin emax : Int) (W E : Nat) (ex : Bool) : Prop where
 h : Fmt2 P emin emax W E ex
 x1 : 1 ≤ emax
 sf : spec_Describe.f f = some ((P : Int), emin, emax, (W : Int), (E : Int), ex)
 lf : impl_layoutOf.f f = some ((P : Int), emin, emax, (W : Int), (E : Int), ex, true)
theorem fd_or (f : Int) : ((0 ≤ f ∧ f < 4) ∧ ∃ P emin emax W E ex, FD f P emin emax W E ex) ∨ (¬ (0 ≤ f ∧ f < 4) ∧ spec_Describe.f f = some (0, 0, 0, 0, 0, false) ∧ impl_layoutOf.f f = some (0, 0, 0, 0, 0, false, false)) := by
 by_cases h0 : f = 0
 ·subst h0; exact .inl ⟨by decide, _, _, _, _, _, _, fmt2_0, by decide, rfl, rfl⟩
 by_cases h1 : f = 1
 ·subst h1; exact .inl ⟨by decide, _, _, _, _, _, _, fmt2_1, by decide, rfl, rfl⟩
 by_cases h2 : f = 2
 ·subst h2; exact .inl ⟨by decide, _, _, _, _, _, _, fmt2_2, by decide, rfl, rfl⟩
 by_cases h3 : f = 3
 ·subst h3; exact .inl ⟨by decide, _, _, _, _, _, _, fmt2_3, by decide, rfl, rfl⟩
 refine .inr ⟨by omega, ?_, ?_⟩
 ·unfold spec_Describe.f
  rw [if_neg h0, if_neg h1, if_neg h2, if_neg h3]
 ·unfold impl_layoutOf.f
  rw [if_neg h0, if_neg h1, if_neg h2, if_neg h3]
theorem ct_spec_Describe' (f : Int) (hf : spec_Describe.f f = some (0, 0, 0, 0, 0, false)) : CtV Tryd.prog 49 [.int .i64 f] [] (.agg #[.int .i64 0, .int .i64 0, .int .i64 0, .int .i64 0, .int .i64 0, .bool false]) := spec_Describe.calls f _ _ _ _ _ _ hf
theorem ct_impl_layoutOf' (f : Int) (hf : impl_layoutOf.f f = some (0, 0, 0, 0, 0, false, false)) : CtV Tryd.prog 41 [.int .i64 f] [Tabled] (.tuple #[.agg #[.int .i64 0, .int .i64 0, .int .i64 0, .int .i64 0, .int .i64 0, .bool false], .bool false]) :=
 ctV1 (fun w h1 => impl_layoutOf.calls _ _ _ _ _ _ _ _ w h1 hf)
theorem ct_impl_Unpack' (f : Int) (hf : impl_layoutOf.f f = some (0, 0, 0, 0, 0, false, false)) (h l : Int) :
  CtV Tryd.prog 9 [.int .i64 f, .agg #[.int .u64 h, .int .u64 l]] [Tabled] (.agg #[.int .i64 0, .bool false, .int .u64 0, .int .u64 0, .int .i64 0]) := by
 refine ct_of Tryd.func9 rfl (by kernel_rfl) (fun B w0 => ?_)
 refine xg ?_
 refine xb 3 [.int .u64 h, .int .u64 l] 25 (fun g0 => ?_)
 refine xb 4 [.int .i64 0, .bool false, .int .u64 0, .int .u64 0, .int .i64 0] 29 (fun g1 => ?_)
 refine xz [] [] ?_
 refine xg ?_
 refine xn 1 [] [(14, .int .i64 f)] ?_
 refine xcv 15 (ct_impl_layoutOf' (f) hf) (zsS zi0 zs0) ?_
 refine xn 5 [] [(17, .bool false), (16, .agg #[.int .i64 0, .int .i64 0, .int .i64 0, .int .i64 0, .int .i64 0, .bool false])] ?_
 refine xb 5 [.int .i64 0, .int .i64 0, .int .i64 0, .int .i64 0, .int .i64 0, .bool false] 81 (fun g2 => ?_)
 refine xy [(6, [2])] [(6, .bool false)] [] ?_
 refine SW_seq ?_
 refine xr [(8, [0])] [(34, .bool true)] ?_
 refine xs1 ?_
 refine xq [(1, [1])] [] [] ?_
 refine SW_ret ?_
 refine xe () (.agg #[.int .i64 0, .bool false, .int .u64 0, .int .u64 0, .int .i64 0]) [1] ?_ trivial
 rfl
theorem ct_spec_Unpack' (f : Int) (hf : spec_Describe.f f = some (0, 0, 0, 0, 0, false)) (h l : Int) :
  CtV Tryd.prog 10 [.int .i64 f, .agg #[.int .u64 h, .int .u64 l]] [] (.agg #[.int .i64 0, .bool false, .int .u64 0, .int .u64 0, .int .i64 0]) := by
 refine ct_of Tryd.func10 rfl (by kernel_rfl) (fun B w0 => ?_)
 refine xg ?_
 refine xb 3 [.int .u64 h, .int .u64 l] 25 (fun g0 => ?_)
 refine xb 4 [.int .i64 0, .bool false, .int .u64 0, .int .u64 0, .int .i64 0] 29 (fun g1 => ?_)
 refine xz [] [] ?_
 refine xg ?_
 refine xn 1 [] [(16, .int .i64 f)] ?_
 refine xcv 17 (ct_spec_Describe' (f) hf) zs0 ?_
 refine xb 5 [.int .i64 0, .int .i64 0, .int .i64 0, .int .i64 0, .int .i64 0, .bool false] 79 (fun g2 => ?_)
 refine xy [(3, [2])] [] [] ?_
 refine SW_seq ?_
 refine xr [(1, [2])] [(20, .bool true)] ?_
 refine xs1 ?_
 refine xq [(1, [1])] [] [] ?_
 refine SW_ret ?_
 refine xe () (.agg #[.int .i64 0, .bool false, .int .u64 0, .int .u64 0, .int .i64 0]) [1] ?_ trivial
 rfl
end Go.Proofs.YtodhmbbiifhiaaaDoor.M
end
section
namespace Go.Proofs.YtodhmbbiifhiaaaDoor.M
open Go.RowKit Go.Proofs.YtodhmbbiifhiaaaDoor.G Go.Proofs.YtodhmbbiifhiaaaDoorV.PrintWords Go.Proofs.YtodhmbbiifhiaaaDoorV.PrintLast Go.Proofs.YtodhmbbiifhiaaaDoor.X
set_option linter.unusedVariables false
set_option linter.unusedSimpArgs false
def below (x y : Nat) (k : Int) : Bool := if 0 ≤ k then decide (x < y * 2 ^ k.toNat) else decide (x * 2 ^ (-k).toNat < y)
end Go.Proofs.YtodhmbbiifhiaaaDoor.M
end
section
namespace Go.Proofs.YtodhmbbiifhiaaaDoor.M
open Go.RowKit Go.Proofs.YtodhmbbiifhiaaaDoor.G Go.Proofs.YtodhmbbiifhiaaaDoorV.PrintWords Go.Proofs.YtodhmbbiifhiaaaDoorV.PrintLast Go.Proofs.YtodhmbbiifhiaaaDoor.X
set_option linter.unusedVariables false
set_option linter.unusedSimpArgs false
def fldE (P : Nat) (emax : Int) (E : Nat) (c : Int) (q : Int) : Nat := if c = 4 then 2 ^ E - 1 else if c = 3 then (q + emax + P - 1).toNat else 0
def fldR (P : Nat) (c : Int) (S : Nat) : Nat := if c = 3 then S - 2 ^ (P - 1) else S
def wordP (P : Nat) (emax : Int) (W E : Nat) (ex : Bool) (c : Int) (neg : Bool) (S : Nat) (q : Int) : Nat := makeN P W ex neg (decide (fldE P emax E c q ≠ 0)) (fldE P emax E c q) (fldR P c S)
section
variable {P : Nat} {emin emax : Int} {W E : Nat} {ex : Bool}
theorem pack_word (h : Fmt2 P emin emax W E ex) {c : Int} {neg : Bool} {S : Nat} {q : Int} (hv : VP P emin emax c S q) : packR P emin emax W E ex c neg S q = (wordP P emax W E ex c neg S q, true) := by
  have hok := pack_ok h (neg := neg) hv
  have hp := Nat.pow_pos (n := P - 1) (show 0 < 2 by decide)
  have hE := Nat.pow_le_pow_right (n := 2) (by decide) h.e0
  have t2 := two_P h.toFmt
  have tp := h.top
  have mn := h.mn
  have key : ∀ w, packN P emax W E ex c neg S q = some w → packR P emin emax W E ex c neg S q = (w, true) := fun w hw => by
    rw [packR_some hw] at hok ⊢
    split at hok
    · rename_i hu
      rw [if_pos hu]
    · cases hok
  refine key _ ?_
  unfold wordP fldE fldR
  rcases hv with ⟨rfl, rfl, rfl⟩ | ⟨rfl, rfl, rfl⟩ | ⟨rfl, h1, h2, rfl⟩ | ⟨rfl, h1, h2, h3, h4⟩
  · unfold packN
    rw [if_pos rfl]
    rfl
  · unfold packN
    rw [if_neg (by decide), if_pos rfl, if_pos rfl, decide_eq_true (show 2 ^ E - 1 ≠ 0 by omega)]
    rfl
  · unfold packN
    rw [if_neg (by decide), if_neg (by decide), if_neg (by decide), if_pos rfl, if_pos h2]
    rfl
  · have hS : S % 2 ^ (P - 1) = S - 2 ^ (P - 1) := by rw [Nat.mod_eq_sub_mod h1, Nat.mod_eq_of_lt (by omega)]
    unfold packN
    rw [if_neg (by decide), if_neg (by decide), if_neg (by decide), if_neg (by decide), if_pos rfl, if_pos ⟨⟨h1, h2⟩, by omega, by omega⟩, hS, if_neg (show ¬ (3 : Int) = 4 by decide), if_pos rfl, decide_eq_true (show (q + emax + P - 1).toNat ≠ 0 by omega)]
    rfl
theorem parts_fld (h : Fmt2 P emin emax W E ex) {e r : Nat} {n neg : Bool} {c : Int} {S : Nat} {q : Int} (hr : r < 2 ^ (P - 1)) (he : e < 2 ^ E) (hu : partsOf P emin emax E e n r = (c, neg, hiI S, loI S, q)) (hv : VP P emin emax c S q) : n = neg ∧ fldE P emax E c q = e ∧ fldR P c S = r := by
  unfold partsOf at hu
  unfold fldE fldR
  split at hu
  · split at hu
    · injection hu with h1 hu
      injection hu with h2 hu
      injection hu with h3 hu
      injection hu with h4 h5
      subst h1 h2
      have hS : (0 : Nat) = S := hilo_inj h3 h4
      rw [if_pos rfl, if_neg (by decide)]
      exact ⟨rfl, by omega, by omega⟩
    · injection hu with h1 hu
      subst h1
      rcases hv with ⟨z, _⟩ | ⟨z, _⟩ | ⟨z, _⟩ | ⟨z, _⟩ <;> omega
  · split at hu
    · split at hu
      · injection hu with h1 hu
        injection hu with h2 hu
        injection hu with h3 hu
        injection hu with h4 h5
        subst h1 h2
        have hS : (0 : Nat) = S := hilo_inj h3 h4
        rw [if_neg (by decide), if_neg (by decide), if_neg (by decide)]
        exact ⟨rfl, by omega, by omega⟩
      · injection hu with h1 hu
        injection hu with h2 hu
        injection hu with h3 hu
        injection hu with h4 h5
        subst h1 h2
        have hS := hilo_inj h3 h4
        rw [if_neg (by decide), if_neg (by decide), if_neg (by decide)]
        exact ⟨rfl, by omega, by omega⟩
    · injection hu with h1 hu
      injection hu with h2 hu
      injection hu with h3 hu
      injection hu with h4 h5
      subst h1 h2
      have hS := hilo_inj h3 h4
      rw [if_neg (by decide), if_pos rfl, if_pos rfl]
      exact ⟨rfl, by omega, by omega⟩
theorem unp_word (h : Fmt2 P emin emax W E ex) {x : Nat} {c : Int} {neg : Bool} {S : Nat} {q : Int} (hu : unpN P emin emax W E ex x = (c, neg, hiI S, loI S, q)) (hv : VP P emin emax c S q) : x = wordP P emax W E ex c neg S q := by
  have hw1 := h.w1
  have p0 := h.p0
  have hc0 : c ≠ 0 := by rcases hv with ⟨z, _⟩ | ⟨z, _⟩ | ⟨z, _⟩ | ⟨z, _⟩ <;> omega
  have nb : badP ≠ (c, neg, hiI S, loI S, q) := fun z => by
    unfold badP at z
    injection z with z _
    exact hc0 z.symm
  have pE := Nat.pow_pos (n := E) (show 0 < 2 by decide)
  have pP := Nat.pow_pos (n := P - 1) (show 0 < 2 by decide)
  have hP : 2 ^ P = 2 ^ (P - 1) * 2 := by rw [← Nat.pow_succ]; congr 1; omega
  unfold unpN at hu
  split at hu
  · exact absurd hu nb
  · rename_i hxW
    have hxW2 := Nat.lt_of_not_le hxW
    have sgn : ∀ F : Nat, F + E = W - 1 → x = x % 2 ^ F + (x / 2 ^ F % 2 ^ E + (if decide (x / 2 ^ (W - 1) % 2 = 1) = true then 2 ^ E else 0)) * 2 ^ F := by
      intro F hF
      have pF := Nat.pow_pos (n := F) (show 0 < 2 by decide)
      have d1 := Nat.div_add_mod x (2 ^ F)
      have d2 := Nat.div_add_mod (x / 2 ^ F) (2 ^ E)
      have e1 : x / 2 ^ F / 2 ^ E = x / 2 ^ (W - 1) := by rw [Nat.div_div_eq_div_mul, ← Nat.pow_add, hF]
      have e2 : x / 2 ^ (W - 1) < 2 := by
        rw [Nat.div_lt_iff_lt_mul (Nat.pow_pos (by decide))]
        have : 2 ^ W = 2 * 2 ^ (W - 1) := by rw [Nat.mul_comm, ← Nat.pow_succ]; congr 1; omega
        omega
      rw [e1] at d2
      have e3 : x / 2 ^ F % 2 ^ E + (if decide (x / 2 ^ (W - 1) % 2 = 1) = true then 2 ^ E else 0) = x / 2 ^ F := by
        rcases (show ∀ b : Nat, b < 2 → b = 0 ∨ b = 1 from fun b hb => by omega) _ e2 with z | z
        · rw [z] at d2 ⊢
          rw [if_neg (by decide)]
          omega
        · rw [z] at d2 ⊢
          rw [if_pos (by decide)]
          omega
      rw [e3, Nat.mul_comm (x / 2 ^ F)]
      omega
    unfold wordP makeN
    split at hu
    · rename_i hex
      split at hu
      · rename_i hj
        obtain ⟨f1, f2, f3⟩ := parts_fld h (Nat.mod_lt _ pP) (Nat.mod_lt _ pE) hu hv
        have hs := sgn P (by rw [hex] at hw1; have : fracN P true = P := rfl; omega)
        have hF : fracN P ex = P := by rw [hex]; rfl
        rw [f2, f3, hF]
        rw [f1] at hs
        have hlow : x % 2 ^ P = x % 2 ^ P % 2 ^ (P - 1) + (if 2 ^ (P - 1) ≤ x % 2 ^ P then 2 ^ (P - 1) else 0) := by
          have := Nat.mod_lt x (show 0 < 2 ^ P by omega)
          split
          · rename_i z
            rw [Nat.mod_eq_sub_mod z, Nat.mod_eq_of_lt (a := x % 2 ^ P - 2 ^ (P - 1)) (by omega)]
            omega
          · rename_i z
            rw [Nat.mod_eq_of_lt (a := x % 2 ^ P) (by omega)]
            omega
        have hl2 : (if ex = true ∧ decide (x / 2 ^ P % 2 ^ E ≠ 0) = true then 2 ^ (P - 1) else 0) = (if 2 ^ (P - 1) ≤ x % 2 ^ P then 2 ^ (P - 1) else 0) := by
          by_cases z : 2 ^ (P - 1) ≤ x % 2 ^ P
          · rw [if_pos z, if_pos ⟨hex, decide_eq_true (hj.1 z)⟩]
          · rw [if_neg z, if_neg (fun z2 => z (hj.2 (of_decide_eq_true z2.2)))]
        have hW : (if neg = true then 2 ^ E else 0) * 2 ^ P = (if neg = true then 2 ^ (W - 1) else 0) := by
          split
          · rw [← Nat.pow_add]
            congr 1
            omega
          · exact Nat.zero_mul _
        rw [hl2]
        rw [Nat.add_mul, hW] at hs
        generalize (if 2 ^ (P - 1) ≤ x % 2 ^ P then 2 ^ (P - 1) else 0) = X1 at *
        generalize (if neg = true then 2 ^ (W - 1) else 0) = X2 at *
        generalize x / 2 ^ P % 2 ^ E * 2 ^ P = X3 at *
        omega
      · exact absurd hu nb
    · rename_i hex
      obtain ⟨f1, f2, f3⟩ := parts_fld h (Nat.mod_lt _ pP) (Nat.mod_lt _ pE) hu hv
      have hF : fracN P ex = P - 1 := by unfold fracN; rw [if_neg hex]
      have hs := sgn (P - 1) (by omega)
      rw [f2, f3, hF, if_neg (fun z => hex z.1), Nat.add_zero]
      rw [f1] at hs
      have hW : (if neg = true then 2 ^ E else 0) * 2 ^ (P - 1) = (if neg = true then 2 ^ (W - 1) else 0) := by
        split
        · rw [← Nat.pow_add]
          congr 1
          omega
        · exact Nat.zero_mul _
      rw [Nat.add_mul, hW] at hs
      generalize (if neg = true then 2 ^ (W - 1) else 0) = X2 at *
      generalize x / 2 ^ (P - 1) % 2 ^ E * 2 ^ (P - 1) = X3 at *
      omega
end
end Go.Proofs.YtodhmbbiifhiaaaDoor.M
end
section
namespace Go.Proofs.YtodhmbbiifhiaaaDoor.M
open Go.RowKit Go.Proofs.YtodhmbbiifhiaaaDoor.G Go.Proofs.YtodhmbbiifhiaaaDoorV.PrintWords Go.Proofs.YtodhmbbiifhiaaaDoorV.PrintLast Go.Proofs.YtodhmbbiifhiaaaDoor.X
set_option linter.unusedVariables false
set_option linter.unusedSimpArgs false
theorem ct_impl_Pack {P : Nat} {emin emax : Int} {W E : Nat} {ex : Bool} (h : Fmt2 P emin emax W E ex) (f : Int) (hf : impl_layoutOf.f f = some ((P : Int), emin, emax, (W : Int), (E : Int), ex, true)) (c : Int) (neg : Bool) (S : Nat) (hS : S < B128) (q : Int) (hq : -9223372036854775808 ≤ q ∧ q ≤ 9223372036854775807) :
  CtV Tryd.prog 11 [.int .i64 f, .agg #[.int .i64 c, .bool neg, .int .u64 (hiI S), .int .u64 (loI S), .int .i64 q]] [Tabled] (.tuple #[.agg #[.int .u64 (hiI (packR P emin emax W E ex c neg S q).1), .int .u64 (loI (packR P emin emax W E ex c neg S q).1)], .bool (packR P emin emax W E ex c neg S q).2]) := by
 have h1 := h.toFmt
 refine ct_of Tryd.func11 rfl (by kernel_rfl) (fun B w0 => ?_)
 have p3 := h.p3
 have p1 := h.p1
 have w1 := h1.w1
 have w2 := h1.w2
 have m1 := h.m1
 have tp := h.top
 have hF : fracN P ex ≤ P := by unfold fracN; split <;> omega
 have e0 : 0 < 2 ^ E := Nat.pow_pos (by decide)
 have hE15 : 2 ^ E ≤ 2 ^ 15 := Nat.pow_le_pow_right (by decide) h1.e1
 have nP1 : Nn (IntKind.i64.wrap ((P : Int) - 1)) (P - 1) := Nn.wrap (by omega) (by omega)
 have nP2 : Nn (IntKind.i64.wrap ((P : Int) - 2)) (P - 2) := Nn.wrap (by omega) (by omega)
 have nW1 : Nn (IntKind.i64.wrap ((W : Int) - 1)) (W - 1) := Nn.wrap (by omega) (by omega)
 have hp2 : ∀ i, i < 128 → 2 ^ i < B128 := fun i hi => Nat.pow_lt_pow_right (a := 2) (n := 128) (by decide) hi
 have b1 : 2 ^ (P - 1) < B128 := hp2 _ (by omega)
 have b2 : 2 ^ (P - 2) < B128 := hp2 _ (by omega)
 have b3 : 2 ^ (W - 1) < B128 := hp2 _ (by omega)
 have hlor : ∀ x y, x < B128 → y < B128 → x ||| y < B128 := fun x y hx hy => Nat.or_lt_two_pow (n := 128) hx hy
 have hsh : ∀ e, e < 2 ^ E → e * 2 ^ fracN P ex < B128 := by
  intro e he
  have e1 : 2 ^ (fracN P ex + E) = 2 ^ E * 2 ^ fracN P ex := by rw [← Nat.pow_add, Nat.add_comm]
  have e2 : e * 2 ^ fracN P ex < 2 ^ E * 2 ^ fracN P ex := Nat.mul_lt_mul_of_pos_right he (Nat.pow_pos (by decide))
  rw [← e1] at e2
  exact Nat.lt_trans e2 (hp2 _ (by omega))
 have hmod : ∀ e, e < 2 ^ E → e * 2 ^ fracN P ex % B128 = e * 2 ^ fracN P ex := fun e he => Nat.mod_eq_of_lt (hsh e he)
 have btop : (2 ^ E - 1) * 2 ^ fracN P ex < B128 := hsh _ (by omega)
 have wE := wrapE q emax P hq (by omega) m1.2 p1 (by omega)
 have wT : Wd 0 (IntKind.u64.wrap ((2 ^ E - 1 : Nat) : Int)) (2 ^ E - 1) := ⟨by unfold hiI; omega, by unfold loI; rw [wrap_u64_id (by omega)]; omega⟩
 have eT : 2 ^ E - 1 < B128 := Nat.lt_of_le_of_lt (by omega) (hp2 15 (by decide))
 refine xg ?_
 refine xb 3 [.int .i64 c, .bool neg, .int .u64 (hiI S), .int .u64 (loI S), .int .i64 q] 29 (fun g0 => ?_)
 refine xb 4 [.int .u64 0, .int .u64 0] 25 (fun g1 => ?_)
 refine xz [] [(5, .bool false)] ?_
 refine xg ?_
 refine xn 1 [] [(12, .int .i64 f)] ?_
 refine xcv 13 (ct_impl_layoutOf (f) hf) (zsS zi0 zs0) ?_
 refine xn 5 [] [(15, .bool true), (14, .agg #[.int .i64 (P : Int), .int .i64 emin, .int .i64 emax, .int .i64 (W : Int), .int .i64 (E : Int), .bool ex])] ?_
 refine xb 6 [.int .i64 0, .int .i64 0, .int .i64 0, .int .i64 0, .int .i64 0, .bool false] 81 (fun g2 => ?_)
 refine xy [(6, [2])] [(7, .bool true)] [(2, [.int .i64 (P : Int), .int .i64 emin, .int .i64 emax, .int .i64 (W : Int), .int .i64 (E : Int), .bool ex])] ?_
 refine SW_seq ?_
 refine xr [] [(17, .bool false)] ?_
 refine xs0 ?_
 refine SW_skip ?_
 refine xg ?_
 refine xn 1 [(0, [2])] [(19, .agg #[.int .i64 (P : Int), .int .i64 emin, .int .i64 emax, .int .i64 (W : Int), .int .i64 (E : Int), .bool ex])] ?_
 refine xcv 20 (ct_impl_layout_fracBits h1) zs0 ?_
 refine xz [] [(8, .int .i64 (((fracN P ex) : Nat) : Int))] ?_
 refine xg ?_
 refine xn 1 [] [(21, .agg #[.int .u64 0, .int .u64 0])] ?_
 refine xb 9 [.int .u64 0, .int .u64 0] 25 (fun g3 => ?_)
 refine xy [(2, [3])] [] [] ?_
 refine SW_cut (fun s' => ∃ x, x < B128 ∧ packU P emax E ex c S q = some x ∧ Weak s' ⟨[(0, .int .i64 f), (3, .pointer (some ⟨g0, 0, none⟩)), (4, .pointer (some ⟨g1, 0, none⟩)), (6, .pointer (some ⟨g2, 0, none⟩)), (9, .pointer (some ⟨g3, 0, none⟩))], [⟨g0, [.int .i64 c, .bool neg, .int .u64 (hiI S), .int .u64 (loI S), .int .i64 q], 29⟩, ⟨g1, [.int .u64 0, .int .u64 0], 25⟩, ⟨g2, [.int .i64 (P : Int), .int .i64 emin, .int .i64 emax, .int .i64 (W : Int), .int .i64 (E : Int), .bool ex], 81⟩, ⟨g3, [.int .u64 (hiI x), .int .u64 (loI x)], 25⟩], [Tabled]⟩) ?_ ?_
 ·have ltop : ∀ x, x < B128 → (if ex = true then ((2 ^ E - 1) * 2 ^ fracN P ex ||| 2 ^ (P - 1)) else (2 ^ E - 1) * 2 ^ fracN P ex) ||| x < B128 ∧ (if ex = true then ((2 ^ E - 1) * 2 ^ fracN P ex ||| 2 ^ (P - 1)) else (2 ^ E - 1) * 2 ^ fracN P ex) < B128 := by
   intro x hx
   have : (if ex = true then ((2 ^ E - 1) * 2 ^ fracN P ex ||| 2 ^ (P - 1)) else (2 ^ E - 1) * 2 ^ fracN P ex) < B128 := by
    split
    ·exact hlor _ _ btop b1
    ·exact btop
   exact ⟨hlor _ _ this hx, this⟩
  have mT : (2 ^ E - 1) * 2 ^ fracN P ex % B128 = (2 ^ E - 1) * 2 ^ fracN P ex := hmod _ (by omega)
  have bT : (2 ^ E - 1) * 2 ^ fracN P ex % B128 < B128 := Nat.mod_lt _ (by decide)
  have bT2 : (2 ^ E - 1) * 2 ^ fracN P ex % B128 ||| 2 ^ (P - 1) < B128 := hlor _ _ bT b1
  refine xr [(1, [0])] [(23, .int .i64 c)] ?_
  refine SW_block ?_
  refine xr [] [(24, .bool (c == 1))] ?_
  refine xs (c == 1) (fun q0 => ?_) (fun q0 => ?_)
  ·refine SW_skip ?_
   have hc : c = 1 := by simpa using q0
   exact ⟨0, by decide, by unfold packU; rw [if_pos hc], Weak.mk' (by kernel_rfl) rfl (zsS zi0 zs0)⟩
  have hc1 : c ≠ 1 := by simpa using q0
  refine xr [] [(26, .bool (c == 2))] ?_
  refine xs (c == 2) (fun q1 => ?_) (fun q1 => ?_)
  ·refine xql [(1, [0]), (2, [3])] [] [(3, [.int .u64 (hiI S), .int .u64 (loI S)])] ?_
   have hc : c = 2 := by simpa using q1
   exact ⟨S, hS, by unfold packU; rw [if_neg hc1, if_pos hc], Weak.mk' (by kernel_rfl) rfl (zsS zi0 zs0)⟩
  have hc2 : c ≠ 2 := by simpa using q1
  refine xr [] [(30, .bool (c == 3))] ?_
  refine xs (c == 3) (fun q2 => ?_) (fun q2 => ?_)
  ·have hc : c = 3 := by simpa using q2
   have hpk : packU P emax E ex c S q = if 1 ≤ q + emax + P - 1 ∧ q + emax + P - 1 < ((2 ^ E - 1 : Nat) : Int) then some (S % 2 ^ fracN P ex ||| (q + emax + P - 1).toNat * 2 ^ fracN P ex) else none := by unfold packU; rw [if_neg hc1, if_neg hc2, if_pos hc]
   have nope : ¬ (1 ≤ q + emax + P - 1 ∧ q + emax + P - 1 < ((2 ^ E - 1 : Nat) : Int)) → packR P emin emax W E ex c neg S q = (0, false) := fun hn => packU_none h (by rw [hpk, if_neg hn])
   have nope2 : ∀ x : Int, x = IntKind.i64.wrap (IntKind.i64.wrap (IntKind.i64.wrap (q + emax) + (P : Int)) - 1) → ¬ (1 ≤ x ∧ x < ((2 ^ E - 1 : Nat) : Int)) → packR P emin emax W E ex c neg S q = (0, false) := by
    intro x hx hn
    refine nope (fun z => ?_)
    rw [← hx] at wE
    omega
   refine xr [(1, [0]), (4, [2]), (8, [2])] [(10, .int .i64 (IntKind.wrap IntKind.i64 (IntKind.wrap IntKind.i64 (IntKind.wrap IntKind.i64 (q + emax) + (P : Int)) - 1)))] ?_
   refine SW_seq ?_
   refine xg ?_
   refine xn 4 [(1, [0])] [(46, .bool (decide (q < -1048576)))] ?_
   refine xk 46 (decide (q < -1048576)) (fun q3 => ?_) (fun q3 => ?_)
   ·refine xz [(14, [2])] [(60, .bool true)] ?_
    refine xs1 ?_
    refine xq [(1, [1])] [(5, .bool false)] [] ?_
    refine SW_ret ?_
    refine xe () (.tuple #[.agg #[.int .u64 0, .int .u64 0], .bool false]) [1] ?_ trivial
    have := of_decide_eq_true q3
    rw [nope (by omega)]
    rfl
   ·refine xn 9 [(5, [0])] [(51, .bool (decide (q > 1048576)))] ?_
    refine xk 51 (decide (q > 1048576)) (fun q4 => ?_) (fun q4 => ?_)
    ·refine xz [(14, [2])] [(60, .bool true)] ?_
     refine xs1 ?_
     refine xq [(1, [1])] [(5, .bool false)] [] ?_
     refine SW_ret ?_
     refine xe () (.tuple #[.agg #[.int .u64 0, .int .u64 0], .bool false]) [1] ?_ trivial
     have := of_decide_eq_true q4
     rw [nope (by omega)]
     rfl
    ·refine xn 13 [] [(55, .bool (decide (IntKind.wrap IntKind.i64 (IntKind.wrap IntKind.i64 (IntKind.wrap IntKind.i64 (q + emax) + (P : Int)) - 1) < 1)))] ?_
     refine xk 55 (decide (IntKind.wrap IntKind.i64 (IntKind.wrap IntKind.i64 (IntKind.wrap IntKind.i64 (q + emax) + (P : Int)) - 1) < 1)) (fun q5 => ?_) (fun q5 => ?_)
     ·refine xz [(14, [2])] [(60, .bool true)] ?_
      refine xs1 ?_
      refine xq [(1, [1])] [(5, .bool false)] [] ?_
      refine SW_ret ?_
      refine xe () (.tuple #[.agg #[.int .u64 0, .int .u64 0], .bool false]) [1] ?_ trivial
      rw [nope2 _ rfl (fun z => by have := of_decide_eq_true q5; omega)]
      rfl
     ·refine xn 15 [(14, [2])] [(57, .agg #[.int .i64 (P : Int), .int .i64 emin, .int .i64 emax, .int .i64 (W : Int), .int .i64 (E : Int), .bool ex]), (56, .int .i64 (IntKind.wrap IntKind.i64 (IntKind.wrap IntKind.i64 (IntKind.wrap IntKind.i64 (q + emax) + (P : Int)) - 1)))] ?_
      refine xcv 58 (ct_impl_layout_top h1) zs0 ?_
      refine xz [] [(60, .bool (decide (IntKind.wrap IntKind.i64 (IntKind.wrap IntKind.i64 (IntKind.wrap IntKind.i64 (q + emax) + (P : Int)) - 1) ≥ (((2 ^ E - 1) : Nat) : Int))))] ?_
      refine xs (decide (IntKind.wrap IntKind.i64 (IntKind.wrap IntKind.i64 (IntKind.wrap IntKind.i64 (q + emax) + (P : Int)) - 1) ≥ (((2 ^ E - 1) : Nat) : Int))) (fun q6 => ?_) (fun q6 => ?_)
      ·refine xq [(1, [1])] [(5, .bool false)] [] ?_
       refine SW_ret ?_
       refine xe () (.tuple #[.agg #[.int .u64 0, .int .u64 0], .bool false]) [1] ?_ trivial
       rw [nope2 _ rfl (fun z => by have := of_decide_eq_true q6; omega)]
       rfl
      ·have a1 := of_decide_eq_false q5
       have a2 := of_decide_eq_false q6
       have wE2 : IntKind.i64.wrap (IntKind.i64.wrap (IntKind.i64.wrap (q + emax) + (P : Int)) - 1) = q + emax + P - 1 := by
        rcases wE with e | e
        ·exact e
        ·exact absurd e.1 a1
       rw [wE2] at a1 a2
       have e3 : (q + emax + P - 1).toNat < 2 ^ E := by omega
       have nE : Wd 0 (IntKind.u64.wrap (IntKind.i64.wrap (IntKind.i64.wrap (IntKind.i64.wrap (q + emax) + (P : Int)) - 1))) (q + emax + P - 1).toNat := ⟨by unfold hiI; omega, by rw [wE2, wrap_u64_id (by omega)]; unfold loI; omega⟩
       have e4 : (q + emax + P - 1).toNat < B128 := Nat.lt_trans e3 (Nat.lt_of_le_of_lt hE15 (by decide))
       have mE : (q + emax + P - 1).toNat * 2 ^ fracN P ex % B128 = (q + emax + P - 1).toNat * 2 ^ fracN P ex := hmod _ e3
       have bE : (q + emax + P - 1).toNat * 2 ^ fracN P ex % B128 < B128 := Nat.mod_lt _ (by decide)
       have bS : S % 2 ^ fracN P ex < B128 := Nat.lt_of_le_of_lt (Nat.mod_le _ _) hS
       clear wE2 wE nope nope2
       refine SW_skip ?_
       refine SW_region ?_
       refine xn 3 [(1, [0])] [(64, .int .i64 (((fracN P ex) : Nat) : Int)), (63, .agg #[.int .u64 (hiI S), .int .u64 (loI S)])] ?_
       refine xcv 65 (ct_impl_Word_low (S) ((((fracN P ex) : Nat) : Int)) (fracN P ex) ⟨rfl⟩ (by omega) hS) zs0 ?_
       refine xn 8 [] [(69, .int .i64 (((fracN P ex) : Nat) : Int)), (68, .agg #[.int .u64 0, .int .u64 (IntKind.wrap IntKind.u64 (IntKind.wrap IntKind.i64 (IntKind.wrap IntKind.i64 (IntKind.wrap IntKind.i64 (q + emax) + (P : Int)) - 1)))])] ?_
       refine xcv 70 (ct_impl_Word_left (0) (IntKind.wrap IntKind.u64 (IntKind.wrap IntKind.i64 (IntKind.wrap IntKind.i64 (IntKind.wrap IntKind.i64 (q + emax) + (P : Int)) - 1))) (Int.toNat (q + emax + (P : Int) - 1)) nE ((((fracN P ex) : Nat) : Int)) (fracN P ex) ⟨rfl⟩ (by omega) e4) zs0 ?_
       refine xcv 71 (ct_impl_Word_or (hiI (S % 2 ^ fracN P ex)) (loI (S % 2 ^ fracN P ex)) (hiI (Int.toNat (q + emax + (P : Int) - 1) * 2 ^ fracN P ex % B128)) (loI (Int.toNat (q + emax + (P : Int) - 1) * 2 ^ fracN P ex % B128)) (S % 2 ^ fracN P ex) (Int.toNat (q + emax + (P : Int) - 1) * 2 ^ fracN P ex % B128) ⟨rfl, rfl⟩ ⟨rfl, rfl⟩ bS bE) zs0 ?_
       refine xy [(10, [3])] [] [(3, [.int .u64 (hiI (S % 2 ^ fracN P ex ||| Int.toNat (q + emax + (P : Int) - 1) * 2 ^ fracN P ex % B128)), .int .u64 (loI (S % 2 ^ fracN P ex ||| Int.toNat (q + emax + (P : Int) - 1) * 2 ^ fracN P ex % B128))])] ?_
       refine ⟨_, hlor _ _ bS bE, by rw [hpk, if_pos ⟨by omega, by omega⟩, mE], Weak.mk' (by kernel_rfl) rfl (zsS zi0 zs0)⟩
  have hc3 : c ≠ 3 := by simpa using q2
  refine SW_seq ?_
  refine xr [] [(72, .bool (c == 4))] ?_
  refine xs (c == 4) (fun q3 => ?_) (fun q3 => ?_)
  ·have hc : c = 4 := by simpa using q3
   have hpk : packU P emax E ex c S q = some (if ex = true then ((2 ^ E - 1) * 2 ^ fracN P ex ||| 2 ^ (P - 1)) else (2 ^ E - 1) * 2 ^ fracN P ex) := by unfold packU; rw [if_neg hc1, if_neg hc2, if_neg hc3, if_pos hc]
   have k5 : (c == 5) = false := by rw [hc]; rfl
   refine SW_skip ?_
   refine xst q3 ?_
   refine xg ?_
   refine xn 1 [(0, [2])] [(75, .agg #[.int .i64 (P : Int), .int .i64 emin, .int .i64 emax, .int .i64 (W : Int), .int .i64 (E : Int), .bool ex])] ?_
   refine xcv 76 (ct_impl_layout_top h1) zs0 ?_
   refine xn 5 [] [(79, .int .i64 (((fracN P ex) : Nat) : Int)), (78, .agg #[.int .u64 0, .int .u64 (IntKind.wrap IntKind.u64 (((2 ^ E - 1) : Nat) : Int))])] ?_
   refine xcv 80 (ct_impl_Word_left (0) (IntKind.wrap IntKind.u64 (((2 ^ E - 1) : Nat) : Int)) (2 ^ E - 1) wT ((((fracN P ex) : Nat) : Int)) (fracN P ex) ⟨rfl⟩ (by omega) eT) zs0 ?_
   refine xy [(6, [3])] [] [(3, [.int .u64 (hiI ((2 ^ E - 1) * 2 ^ fracN P ex % B128)), .int .u64 (loI ((2 ^ E - 1) * 2 ^ fracN P ex % B128))])] ?_
   refine SW_seq ?_
   refine xr [(2, [2])] [(83, .bool ex)] ?_
   refine xs (ex) (fun q4 => ?_) (fun q4 => ?_)
   ·refine xdl (fun hB => ?_)
    refine xdk [(0, [3]), (1, []), (2, []), (3, [2]), (4, [])] [(88, .int .i64 (IntKind.wrap IntKind.i64 ((P : Int) - 1))), (84, .agg #[.int .u64 (hiI ((2 ^ E - 1) * 2 ^ fracN P ex % B128)), .int .u64 (loI ((2 ^ E - 1) * 2 ^ fracN P ex % B128))])] hB ?_
    refine xdv 5 89 (ct_impl_one (IntKind.wrap IntKind.i64 ((P : Int) - 1)) (P - 1) nP1 (by omega)) zs0 ?_
    refine xdv 6 90 (ct_impl_Word_or (hiI ((2 ^ E - 1) * 2 ^ fracN P ex % B128)) (loI ((2 ^ E - 1) * 2 ^ fracN P ex % B128)) (hiI (2 ^ (P - 1))) (loI (2 ^ (P - 1))) ((2 ^ E - 1) * 2 ^ fracN P ex % B128) (2 ^ (P - 1)) ⟨rfl, rfl⟩ ⟨rfl, rfl⟩ bT b1) zs0 ?_
    refine xds 7 [3] [(3, [.int .u64 (hiI ((2 ^ E - 1) * 2 ^ fracN P ex % B128 ||| 2 ^ (P - 1))), .int .u64 (loI ((2 ^ E - 1) * 2 ^ fracN P ex % B128 ||| 2 ^ (P - 1)))])] ?_
    refine xdz ?_
    refine xr [(1, [0])] [(93, .bool (c == 5))] ?_
    refine xsf k5 ?_
    refine SW_skip ?_
    exact ⟨_, bT2, by rw [hpk, if_pos q4, mT], Weak.mk' (by kernel_rfl) rfl (zsS zi0 zs0)⟩
   ·refine SW_skip ?_
    refine xr [(1, [0])] [(93, .bool (c == 5))] ?_
    refine xsf k5 ?_
    refine SW_skip ?_
    exact ⟨_, bT, by rw [hpk, if_neg (by rw [q4]; decide), mT], Weak.mk' (by kernel_rfl) rfl (zsS zi0 zs0)⟩
  have hc4 : c ≠ 4 := by simpa using q3
  refine xrl [] [(72, .bool (c == 5))] ?_
  refine xs (c == 5) (fun q4 => ?_) (fun q4 => ?_)
  ·have hc : c = 5 := by simpa using q4
   have hpk : packU P emax E ex c S q = some ((if ex = true then ((2 ^ E - 1) * 2 ^ fracN P ex ||| 2 ^ (P - 1)) else (2 ^ E - 1) * 2 ^ fracN P ex) ||| 2 ^ (P - 2)) := by unfold packU; rw [if_neg hc1, if_neg hc2, if_neg hc3, if_neg hc4, if_pos hc]
   refine xg ?_
   refine xn 1 [(0, [2])] [(75, .agg #[.int .i64 (P : Int), .int .i64 emin, .int .i64 emax, .int .i64 (W : Int), .int .i64 (E : Int), .bool ex])] ?_
   refine xcv 76 (ct_impl_layout_top h1) zs0 ?_
   refine xn 5 [] [(79, .int .i64 (((fracN P ex) : Nat) : Int)), (78, .agg #[.int .u64 0, .int .u64 (IntKind.wrap IntKind.u64 (((2 ^ E - 1) : Nat) : Int))])] ?_
   refine xcv 80 (ct_impl_Word_left (0) (IntKind.wrap IntKind.u64 (((2 ^ E - 1) : Nat) : Int)) (2 ^ E - 1) wT ((((fracN P ex) : Nat) : Int)) (fracN P ex) ⟨rfl⟩ (by omega) eT) zs0 ?_
   refine xy [(6, [3])] [] [(3, [.int .u64 (hiI ((2 ^ E - 1) * 2 ^ fracN P ex % B128)), .int .u64 (loI ((2 ^ E - 1) * 2 ^ fracN P ex % B128))])] ?_
   refine SW_seq ?_
   refine xr [(2, [2])] [(83, .bool ex)] ?_
   refine xs (ex) (fun q5 => ?_) (fun q5 => ?_)
   ·refine xdl (fun hB => ?_)
    refine xdk [(0, [3]), (1, []), (2, []), (3, [2]), (4, [])] [(88, .int .i64 (IntKind.wrap IntKind.i64 ((P : Int) - 1))), (84, .agg #[.int .u64 (hiI ((2 ^ E - 1) * 2 ^ fracN P ex % B128)), .int .u64 (loI ((2 ^ E - 1) * 2 ^ fracN P ex % B128))])] hB ?_
    refine xdv 5 89 (ct_impl_one (IntKind.wrap IntKind.i64 ((P : Int) - 1)) (P - 1) nP1 (by omega)) zs0 ?_
    refine xdv 6 90 (ct_impl_Word_or (hiI ((2 ^ E - 1) * 2 ^ fracN P ex % B128)) (loI ((2 ^ E - 1) * 2 ^ fracN P ex % B128)) (hiI (2 ^ (P - 1))) (loI (2 ^ (P - 1))) ((2 ^ E - 1) * 2 ^ fracN P ex % B128) (2 ^ (P - 1)) ⟨rfl, rfl⟩ ⟨rfl, rfl⟩ bT b1) zs0 ?_
    refine xds 7 [3] [(3, [.int .u64 (hiI ((2 ^ E - 1) * 2 ^ fracN P ex % B128 ||| 2 ^ (P - 1))), .int .u64 (loI ((2 ^ E - 1) * 2 ^ fracN P ex % B128 ||| 2 ^ (P - 1)))])] ?_
    refine xdz ?_
    refine xr [(1, [0])] [(93, .bool (c == 5))] ?_
    refine xst q4 ?_
    refine xdl (fun hB => ?_)
    refine xdk [(0, [3]), (1, []), (2, []), (3, [2]), (4, [])] [(98, .int .i64 (IntKind.wrap IntKind.i64 ((P : Int) - 2))), (94, .agg #[.int .u64 (hiI ((2 ^ E - 1) * 2 ^ fracN P ex % B128 ||| 2 ^ (P - 1))), .int .u64 (loI ((2 ^ E - 1) * 2 ^ fracN P ex % B128 ||| 2 ^ (P - 1)))])] hB ?_
    refine xdv 5 99 (ct_impl_one (IntKind.wrap IntKind.i64 ((P : Int) - 2)) (P - 2) nP2 (by omega)) zs0 ?_
    refine xdv 6 100 (ct_impl_Word_or (hiI ((2 ^ E - 1) * 2 ^ fracN P ex % B128 ||| 2 ^ (P - 1))) (loI ((2 ^ E - 1) * 2 ^ fracN P ex % B128 ||| 2 ^ (P - 1))) (hiI (2 ^ (P - 2))) (loI (2 ^ (P - 2))) ((2 ^ E - 1) * 2 ^ fracN P ex % B128 ||| 2 ^ (P - 1)) (2 ^ (P - 2)) ⟨rfl, rfl⟩ ⟨rfl, rfl⟩ bT2 b2) zs0 ?_
    refine xds 7 [3] [(3, [.int .u64 (hiI ((2 ^ E - 1) * 2 ^ fracN P ex % B128 ||| 2 ^ (P - 1) ||| 2 ^ (P - 2))), .int .u64 (loI ((2 ^ E - 1) * 2 ^ fracN P ex % B128 ||| 2 ^ (P - 1) ||| 2 ^ (P - 2)))])] ?_
    refine xdz ?_
    exact ⟨_, hlor _ _ bT2 b2, by rw [hpk, if_pos q5, mT], Weak.mk' (by kernel_rfl) rfl (zsS zi0 zs0)⟩
   ·refine SW_skip ?_
    refine xr [(1, [0])] [(93, .bool (c == 5))] ?_
    refine xst q4 ?_
    refine xdl (fun hB => ?_)
    refine xdk [(0, [3]), (1, []), (2, []), (3, [2]), (4, [])] [(98, .int .i64 (IntKind.wrap IntKind.i64 ((P : Int) - 2))), (94, .agg #[.int .u64 (hiI ((2 ^ E - 1) * 2 ^ fracN P ex % B128)), .int .u64 (loI ((2 ^ E - 1) * 2 ^ fracN P ex % B128))])] hB ?_
    refine xdv 5 99 (ct_impl_one (IntKind.wrap IntKind.i64 ((P : Int) - 2)) (P - 2) nP2 (by omega)) zs0 ?_
    refine xdv 6 100 (ct_impl_Word_or (hiI ((2 ^ E - 1) * 2 ^ fracN P ex % B128)) (loI ((2 ^ E - 1) * 2 ^ fracN P ex % B128)) (hiI (2 ^ (P - 2))) (loI (2 ^ (P - 2))) ((2 ^ E - 1) * 2 ^ fracN P ex % B128) (2 ^ (P - 2)) ⟨rfl, rfl⟩ ⟨rfl, rfl⟩ bT b2) zs0 ?_
    refine xds 7 [3] [(3, [.int .u64 (hiI ((2 ^ E - 1) * 2 ^ fracN P ex % B128 ||| 2 ^ (P - 2))), .int .u64 (loI ((2 ^ E - 1) * 2 ^ fracN P ex % B128 ||| 2 ^ (P - 2)))])] ?_
    refine xdz ?_
    exact ⟨_, hlor _ _ bT b2, by rw [hpk, if_neg (by rw [q5]; decide), mT], Weak.mk' (by kernel_rfl) rfl (zsS zi0 zs0)⟩
  have hc5 : c ≠ 5 := by simpa using q4
  refine SW_skip ?_
  exact ⟨0, by decide, by unfold packU; rw [if_neg hc1, if_neg hc2, if_neg hc3, if_neg hc4, if_neg hc5], Weak.mk' (by kernel_rfl) rfl (zsS zi0 zs0)⟩
 ·rintro s' ⟨u, hu, hpu, hw⟩
  refine SW_weak hw ?_
  rw [packU_some h hpu]
  refine SW_cut (fun s' => Weak s' ⟨[(0, .int .i64 f), (3, .pointer (some ⟨g0, 0, none⟩)), (4, .pointer (some ⟨g1, 0, none⟩)), (9, .pointer (some ⟨g3, 0, none⟩))], [⟨g0, [.int .i64 c, .bool neg, .int .u64 (hiI S), .int .u64 (loI S), .int .i64 q], 29⟩, ⟨g1, [.int .u64 0, .int .u64 0], 25⟩, ⟨g2, [.int .i64 (P : Int), .int .i64 emin, .int .i64 emax, .int .i64 (W : Int), .int .i64 (E : Int), .bool ex], 81⟩, ⟨g3, [.int .u64 (hiI (if neg = true then u ||| 2 ^ (W - 1) else u)), .int .u64 (loI (if neg = true then u ||| 2 ^ (W - 1) else u))], 25⟩], [Tabled]⟩) ?_ ?_
  ·refine xr [(1, [0])] [(102, .bool neg)] ?_
   refine xs (neg) (fun q0 => ?_) (fun q0 => ?_)
   ·refine xdl (fun hB => ?_)
    refine xdk [(0, [3]), (1, []), (2, []), (3, [2]), (4, [])] [(107, .int .i64 (IntKind.wrap IntKind.i64 ((W : Int) - 1))), (103, .agg #[.int .u64 (hiI u), .int .u64 (loI u)])] hB ?_
    refine xdv 5 108 (ct_impl_one (IntKind.wrap IntKind.i64 ((W : Int) - 1)) (W - 1) nW1 (by omega)) zs0 ?_
    refine xdv 6 109 (ct_impl_Word_or (hiI u) (loI u) (hiI (2 ^ (W - 1))) (loI (2 ^ (W - 1))) (u) (2 ^ (W - 1)) ⟨rfl, rfl⟩ ⟨rfl, rfl⟩ hu b3) zs0 ?_
    refine xds 7 [3] [(3, [.int .u64 (hiI (u ||| 2 ^ (W - 1))), .int .u64 (loI (u ||| 2 ^ (W - 1)))])] ?_
    refine xdz ?_
    rw [if_pos q0]
    exact Weak.mk' (by kernel_rfl) rfl (zsS zi0 zs0)
   ·refine SW_skip ?_
    rw [if_neg (by rw [q0]; decide)]
    exact Weak.mk' (by kernel_rfl) rfl (zsS zi0 zs0)
  ·intro s' hw
   refine SW_weak hw ?_
   have hx : (if neg = true then u ||| 2 ^ (W - 1) else u) < B128 := by
    split
    ·exact hlor _ _ hu b3
    ·exact hu
   generalize (if neg = true then u ||| 2 ^ (W - 1) else u) = x at hx ⊢
   refine SW_seq ?_
   refine xd (fun hB => ?_)
   refine xdk [(0, []), (1, [3]), (3, [0])] [(113, .agg #[.int .i64 c, .bool neg, .int .u64 (hiI S), .int .u64 (loI S), .int .i64 q]), (111, .agg #[.int .u64 (hiI x), .int .u64 (loI x)]), (110, .int .i64 f)] hB ?_
   refine xdv 2 112 (ct_impl_Unpack h1 (f) hf (x) hx) (zsS zi0 zs0) ?_
   refine xdw 4 114 (.bool (!((Prod.fst (unpN P emin emax W E ex x) == c) && ((Prod.fst (Prod.snd (unpN P emin emax W E ex x)) == neg) && (((Prod.fst (Prod.snd (Prod.snd (unpN P emin emax W E ex x))) == hiI S) && (Prod.fst (Prod.snd (Prod.snd (Prod.snd (unpN P emin emax W E ex x)))) == loI S)) && (Prod.snd (Prod.snd (Prod.snd (Prod.snd (unpN P emin emax W E ex x)))) == q)))))) hB (fun w _ _ => run_neq rfl (by kernel_rfl) (by kernel_rfl) (by kernel_rfl) w (eq_parts _ _ _ _ _ _ _ _ _ _ _ w)) ?_
   refine xdz ?_
   refine xs (!(Prod.fst (unpN P emin emax W E ex x) == c && (Prod.fst (Prod.snd (unpN P emin emax W E ex x)) == neg && (Prod.fst (Prod.snd (Prod.snd (unpN P emin emax W E ex x))) == hiI S && Prod.fst (Prod.snd (Prod.snd (Prod.snd (unpN P emin emax W E ex x)))) == loI S && Prod.snd (Prod.snd (Prod.snd (Prod.snd (unpN P emin emax W E ex x)))) == q)))) (fun q0 => ?_) (fun q0 => ?_)
   ·refine xq [(1, [1])] [(5, .bool false)] [] ?_
    refine SW_ret ?_
    refine xe () (.tuple #[.agg #[.int .u64 0, .int .u64 0], .bool false]) [1] ?_ trivial
    rw [if_neg]
    ·rfl
    ·intro hu
     rw [hu] at q0
     simp at q0
   ·refine SW_skip ?_
    refine xq [(0, [3]), (1, [1])] [(5, .bool true)] [(1, [.int .u64 (hiI x), .int .u64 (loI x)])] ?_
    refine SW_ret ?_
    refine xe () (.tuple #[.agg #[.int .u64 (hiI x), .int .u64 (loI x)], .bool true]) [1] ?_ trivial
    rw [if_pos]
    have hq : (!eqb (unpN P emin emax W E ex x) (c, neg, hiI S, loI S, q)) = false := q0
    exact (eqb_iff _ _).1 (by simpa using hq)
end Go.Proofs.YtodhmbbiifhiaaaDoor.M
end
section
namespace Go.Proofs.YtodhmbbiifhiaaaDoor.M
open Go.RowKit Go.Proofs.YtodhmbbiifhiaaaDoor.G Go.Proofs.YtodhmbbiifhiaaaDoorV.PrintWords Go.Proofs.YtodhmbbiifhiaaaDoorV.PrintLast Go.Proofs.YtodhmbbiifhiaaaDoor.X
set_option linter.unusedVariables false
set_option linter.unusedSimpArgs false
theorem ct_spec_l1Reader_next (g : Nat) (A : Option Addr) (c : Nat) (bt : List Int) (a : Int) (i : Nat) (ha : Nn a i) (hi : i ≤ bt.length) (hx : bt.length ≤ 1048576) (dx : Dig 256 bt) :
  CtM Tryd.prog 61 [.pointer (some ⟨g, 0, none⟩)] [⟨g, [.slice A bt.length c, .int .i64 a], 75⟩] [Row .u8 A c bt] (γ := {p : Nat × Nat // p.1 ≤ bt.length ∧ p.2 < 256}) (fun p => .int .i64 (p.1.2 : Int)) (fun p => [⟨g, [.slice A bt.length c, .int .i64 (p.1.1 : Int)], 75⟩]) (fun _ => []) := by
 obtain ⟨rfl⟩ := ha
 refine cm_of Tryd.func61 rfl (by kernel_rfl) (fun B w0 => ?_)
 by_cases h : i < bt.length
 ·have z : decide ((i : Int) ≥ (bt.length : Int)) = false := decide_eq_false (by omega)
  refine SW_know zi0 (fun w h => row_at h (by omega)) (fun ⟨ad, e⟩ => ?_)
  subst e
  have v1 : Ve (IntKind.i64.wrap ((i : Int) + 1)) ((i + 1 : Nat) : Int) := ⟨by rw [wrap_i64 (by omega)]; rfl⟩
  have hd := dx.rd (by decide) (i : Int)
  have v2 : Ve (IntKind.i64.wrap (rd bt (i : Int))) (rd bt (i : Int)).toNat := ⟨by rw [wrap_i64 (by omega)]; omega⟩
  refine xr [] [(2, .int .i64 0)] ?_
  refine SW_seq ?_
  refine xd (fun hB => ?_)
  refine xdk [(0, []), (1, []), (2, []), (3, [0]), (4, []), (5, []), (6, []), (7, [0]), (8, []), (9, [])] [(13, .bool (decide ((i : Int) ≥ (((List.length bt) : Nat) : Int))))] hB ?_
  refine xdz ?_
  refine xsf z ?_
  refine SW_skip ?_
  refine xd (fun hB => ?_)
  refine xdk [(0, []), (1, []), (2, []), (3, [0]), (4, []), (5, []), (6, []), (7, [0])] [(21, .int .i64 (i : Int)), (17, .slice (some ad) (List.length bt) c)] hB ?_
  refine xdfi 8 hB 22 5 (ad) (List.length bt) (c) (i) IntKind.i64 ((i : Int)) ⟨rfl⟩ (by omega) ?_
  refine xdfl 9 hB 23 zi0 (i) (by omega) ?_
  refine xdk [(10, [])] [(3, .int .u8 (rd bt (i : Int)))] hB ?_
  refine xdz ?_
  refine xg ?_
  refine xn 4 [(3, [0])] [(27, .int .i64 (i : Int)), (24, .pointer (some ⟨g, 0, none⟩))] ?_
  refine xve 28 IntKind.i64 (IntKind.wrap IntKind.i64 ((i : Int) + 1)) ((((i + 1) : Nat) : Int)) v1 ?_
  refine xy [(7, [0])] [] [(0, [.slice (some ad) (List.length bt) c, .int .i64 (((i + 1) : Nat) : Int)])] ?_
  refine xg ?_
  refine xn 1 [] [(31, .int .u8 (rd bt (i : Int)))] ?_
  refine xve 32 IntKind.i64 (IntKind.wrap IntKind.i64 (rd bt (i : Int))) ((((Int.toNat (rd bt (i : Int))) : Nat) : Int)) v2 ?_
  refine xz [] [(2, .int .i64 (((Int.toNat (rd bt (i : Int))) : Nat) : Int))] ?_
  refine SW_ret ?_
  refine xmeg (.int .i64 (((Int.toNat (rd bt (i : Int))) : Nat) : Int)) [] ?_
  exact ⟨⟨(i + 1, (rd bt (i : Int)).toNat), by dsimp only; omega, by dsimp only; omega⟩, [true], rfl, rfl, zs0⟩
 ·have z : decide ((i : Int) ≥ (bt.length : Int)) = true := decide_eq_true (by omega)
  refine xr [] [(2, .int .i64 0)] ?_
  refine SW_seq ?_
  refine xd (fun hB => ?_)
  refine xdk [(0, []), (1, []), (2, []), (3, [0]), (4, []), (5, []), (6, []), (7, [0]), (8, []), (9, [])] [(13, .bool (decide ((i : Int) ≥ (((List.length bt) : Nat) : Int))))] hB ?_
  refine xdz ?_
  refine xst z ?_
  refine xr [] [(2, .int .i64 0)] ?_
  refine SW_ret ?_
  refine xmeg (.int .i64 0) [] ?_
  exact ⟨⟨(i, 0), hi, Nat.succ_pos _⟩, [true], rfl, rfl, zs0⟩
theorem wrap_u64_nat (z : Int) : ∃ y : Nat, y < 18446744073709551616 ∧ IntKind.u64.wrap z = (y : Int) := by
 refine ⟨(IntKind.u64.wrap z).toNat, ?_, ?_⟩ <;> simp [IntKind.wrap, IntKind.bits, IntKind.signed] <;> omega
theorem ct_spec_l1Reader_wide (g : Nat) (A : Option Addr) (c : Nat) (bt : List Int) (a : Int) (i : Nat) (ha : Nn a i) (hi : i ≤ bt.length) (hx : bt.length ≤ 1048576) (dx : Dig 256 bt) :
  CtM Tryd.prog 100 [.pointer (some ⟨g, 0, none⟩)] [⟨g, [.slice A bt.length c, .int .i64 a], 75⟩] [Row .u8 A c bt] (γ := {p : Nat × Nat // p.1 ≤ bt.length ∧ p.2 < 18446744073709551616}) (fun p => .int .u64 (p.1.2 : Int)) (fun p => [⟨g, [.slice A bt.length c, .int .i64 (p.1.1 : Int)], 75⟩]) (fun _ => []) := by
 obtain ⟨rfl⟩ := ha
 refine cm_of Tryd.func100 rfl (by kernel_rfl) (fun B w0 => ?_)
 refine xr [] [(2, .int .u64 0)] ?_
 refine xr [] [(3, .int .u64 0)] ?_
 refine SW_seq ?_
 refine xr [] [(4, .int .i64 0)] ?_
 refine SW_block ?_
 refine SW_loopn (fun m s => ∃ (j i' x : Nat), m + j = 8 ∧ i' ≤ bt.length ∧ x < 18446744073709551616 ∧ Weak s ⟨[(0, .pointer (some ⟨g, 0, none⟩)), (3, .int .u64 (x : Int)), (4, .int .i64 (j : Int))], [⟨g, [.slice A bt.length c, .int .i64 (i' : Int)], 75⟩], [Row .u8 A c bt]⟩) 8 ⟨0, i, 0, rfl, hi, by decide, ?_⟩ (fun m s hI => ?_)
 ·exact xw (zsS zi0 zs0)
 ·obtain ⟨j, i', x, h1, h2, h3, hw⟩ := hI
  refine SW_weak hw ?_
  clear hw
  by_cases hj : j < 8
  ·have z : decide ((j : Int) < 8) = true := decide_eq_true (by omega)
   obtain ⟨m, rfl⟩ : ∃ m', m = m' + 1 := ⟨m - 1, by omega⟩
   have v1 : Ve (IntKind.i64.wrap ((j : Int) + 1)) ((j + 1 : Nat) : Int) := ⟨by rw [wrap_i64 (by omega)]; rfl⟩
   refine SW_seq ?_
   refine xr [] [(6, .bool (decide ((j : Int) < 8)))] ?_
   refine xst z ?_
   refine SW_skip ?_
   refine SW_seq ?_
   refine SW_block ?_
   refine SW_region ?_
   refine xn 3 [] [(11, .pointer (some ⟨g, 0, none⟩)), (10, .int .u64 (IntKind.wrap IntKind.u64 ((x : Int) * 2 ^ min (Int.toNat 8) (IntKind.bits IntKind.u64))))] ?_
   (refine xcm 12 [true] (ct_spec_l1Reader_next (g) (A) (c) (bt) (((i' : Nat) : Int)) (i') ⟨rfl⟩ h2 hx dx) (zsS zi0 zs0) (fun zz => ?_); obtain ⟨⟨z0, z1⟩, p2⟩ := zz)
   refine xz [] [(3, .int .u64 (IntKind.wrap IntKind.u64 (((BitVec.toNat (BitVec.ofInt (IntKind.bits IntKind.u64) (IntKind.wrap IntKind.u64 ((x : Int) * 2 ^ min (Int.toNat 8) (IntKind.bits IntKind.u64))) ||| BitVec.ofInt (IntKind.bits IntKind.u64) (IntKind.wrap IntKind.u64 (z1 : Int)))) : Nat) : Int)))] ?_
   refine SW_region ?_
   refine xn 1 [] [(7, .int .i64 (j : Int))] ?_
   refine xve 8 IntKind.i64 (IntKind.wrap IntKind.i64 ((j : Int) + 1)) ((((j + 1) : Nat) : Int)) v1 ?_
   refine xz [] [(4, .int .i64 (((j + 1) : Nat) : Int))] ?_
   obtain ⟨y, hy, ey⟩ := wrap_u64_nat ((BitVec.toNat (BitVec.ofInt IntKind.u64.bits (IntKind.u64.wrap ((x : Int) * 2 ^ min (Int.toNat 8) IntKind.u64.bits)) ||| BitVec.ofInt IntKind.u64.bits (IntKind.u64.wrap (z1 : Int))) : Nat) : Int)
   rw [ey]
   refine ⟨m, by omega, j + 1, z0, y, by omega, p2.1, hy, ?_⟩
   exact xw (zsS zi0 zs0)
  ·have z : decide ((j : Int) < 8) = false := decide_eq_false (by omega)
   refine SW_seq ?_
   refine xr [] [(6, .bool (decide ((j : Int) < 8)))] ?_
   refine xsf z ?_
   refine SW_exit ?_
   refine xr [] [(2, .int .u64 (x : Int))] ?_
   refine SW_ret ?_
   refine xmeg (.int .u64 (x : Int)) [] ?_
   exact ⟨⟨(i', x), h2, h3⟩, [true], rfl, rfl, zs0⟩
end Go.Proofs.YtodhmbbiifhiaaaDoor.M
end
section
namespace Go.Proofs.YtodhmbbiifhiaaaDoor.M
open Go.RowKit Go.Proofs.YtodhmbbiifhiaaaDoor.G Go.Proofs.YtodhmbbiifhiaaaDoorV.PrintWords Go.Proofs.YtodhmbbiifhiaaaDoorV.PrintLast Go.Proofs.YtodhmbbiifhiaaaDoor.X
set_option linter.unusedVariables false
set_option linter.unusedSimpArgs false
theorem ct_spec_l1Reader_format (g : Nat) (A : Option Addr) (c : Nat) (bt : List Int) (a : Int) (i : Nat) (ha : Nn a i) (hi : i ≤ bt.length) (hx : bt.length ≤ 1048576) (dx : Dig 256 bt) :
  CtM Tryd.prog 39 [.pointer (some ⟨g, 0, none⟩)] [⟨g, [.slice A bt.length c, .int .i64 a], 75⟩] [Row .u8 A c bt] (γ := {p : Nat × Int // p.1 ≤ bt.length ∧ -1000 ≤ p.2 ∧ p.2 ≤ 1000}) (fun p => .int .i64 p.1.2) (fun p => [⟨g, [.slice A bt.length c, .int .i64 (p.1.1 : Int)], 75⟩]) (fun _ => []) := by
 refine cm_of Tryd.func39 rfl (by kernel_rfl) (fun B w0 => ?_)
 refine xr [] [(2, .int .i64 0)] ?_
 refine xg ?_
 refine xn 1 [] [(4, .pointer (some ⟨g, 0, none⟩))] ?_
 (refine xcm 5 [true] (ct_spec_l1Reader_next (g) (A) (c) (bt) (a) (i) ha hi hx dx) (zsS zi0 zs0) (fun zz => ?_); obtain ⟨⟨z0, z1⟩, p2⟩ := zz)
 refine xz [] [(3, .int .i64 (z1 : Int))] ?_
 refine SW_seq ?_
 refine xr [] [(7, .bool (decide ((z1 : Int) ≥ 248)))] ?_
 refine xs (decide ((z1 : Int) ≥ 248)) (fun q0 => ?_) (fun q0 => ?_)
 ·have v1 : Ve (IntKind.i64.wrap ((z1 : Int) - 252)) ((z1 : Int) - 252) := ⟨wrap_i64 (by omega)⟩
  refine xg ?_
  refine xn 1 [] [(8, .int .i64 (z1 : Int))] ?_
  refine xve 9 IntKind.i64 (IntKind.wrap IntKind.i64 ((z1 : Int) - 252)) ((z1 : Int) - 252) v1 ?_
  refine xz [] [(2, .int .i64 ((z1 : Int) - 252))] ?_
  refine SW_ret ?_
  refine xmeg (.int .i64 ((z1 : Int) - 252)) [] ?_
  exact ⟨⟨(z0, (z1 : Int) - 252), p2.1, by dsimp only; omega, by dsimp only; omega⟩, [true], rfl, rfl, zs0⟩
 ·have v1 : Ve (Int.tmod (z1 : Int) 4) ((z1 % 4 : Nat) : Int) := ⟨by rw [Int.tmod_eq_emod_of_nonneg (by omega)]; omega⟩
  refine SW_skip ?_
  refine xg ?_
  refine xn 1 [] [(10, .int .i64 (z1 : Int))] ?_
  refine xve 11 IntKind.i64 (Int.tmod (z1 : Int) 4) ((((z1 % 4) : Nat) : Int)) v1 ?_
  refine xz [] [(2, .int .i64 (((z1 % 4) : Nat) : Int))] ?_
  refine SW_ret ?_
  refine xmeg (.int .i64 (((z1 % 4) : Nat) : Int)) [] ?_
  exact ⟨⟨(z0, ((z1 % 4 : Nat) : Int)), p2.1, by dsimp only; omega, by dsimp only; omega⟩, [true], rfl, rfl, zs0⟩
end Go.Proofs.YtodhmbbiifhiaaaDoor.M
end
section
namespace Go.Proofs.YtodhmbbiifhiaaaDoor.M
open Go.RowKit Go.Proofs.YtodhmbbiifhiaaaDoor.G Go.Proofs.YtodhmbbiifhiaaaDoorV.PrintWords Go.Proofs.YtodhmbbiifhiaaaDoorV.PrintLast Go.Proofs.YtodhmbbiifhiaaaDoor.X
set_option linter.unusedVariables false
set_option linter.unusedSimpArgs false
theorem ct_spec_l2Top {P : Nat} {emin emax : Int} {W E : Nat} {ex : Bool} (h : Fmt2 P emin emax W E ex) : CtV Tryd.prog 110 [dscV P emin emax W E ex] [] (.int .i64 ((2 ^ E - 1 : Nat) : Int)) := by
 have m1 := h.m1
 refine ct_of Tryd.func110 rfl (by kernel_rfl) (fun B w0 => ?_)
 refine xg ?_
 refine xb 1 [.int .i64 (P : Int), .int .i64 emin, .int .i64 emax, .int .i64 (W : Int), .int .i64 (E : Int), .bool ex] 79 (fun g0 => ?_)
 refine xz [] [(2, .int .i64 0)] ?_
 refine xr [(1, [0])] [(2, .int .i64 (IntKind.wrap IntKind.i64 (IntKind.wrap IntKind.i64 (2 * emax) + 1)))] ?_
 refine SW_ret ?_
 refine xe () (.int .i64 (IntKind.wrap IntKind.i64 (IntKind.wrap IntKind.i64 (2 * emax) + 1))) [] ?_ trivial
 rw [wsi (x := 2 * emax) (by omega), wsi (by omega), h.top]
theorem ct_spec_Pack {P : Nat} {emin emax : Int} {W E : Nat} {ex : Bool} (h : Fmt2 P emin emax W E ex) (f : Int) (hf : spec_Describe.f f = some ((P : Int), emin, emax, (W : Int), (E : Int), ex)) (c : Int) (neg : Bool) (S : Nat) (hS : S < B128) (q : Int) (hq : -9223372036854775808 ≤ q ∧ q ≤ 9223372036854775807) :
  CtV Tryd.prog 71 [.int .i64 f, .agg #[.int .i64 c, .bool neg, .int .u64 (hiI S), .int .u64 (loI S), .int .i64 q]] [] (.tuple #[.agg #[.int .u64 (hiI (packR P emin emax W E ex c neg S q).1), .int .u64 (loI (packR P emin emax W E ex c neg S q).1)], .bool (packR P emin emax W E ex c neg S q).2]) := by
 have h1 := h.toFmt
 refine ct_of Tryd.func71 rfl (by kernel_rfl) (fun B w0 => ?_)
 have p3 := h.p3
 have p1 := h.p1
 refine xg ?_
 refine xb 3 [.int .i64 c, .bool neg, .int .u64 (hiI S), .int .u64 (loI S), .int .i64 q] 29 (fun g0 => ?_)
 refine xb 4 [.int .u64 0, .int .u64 0] 25 (fun g1 => ?_)
 refine xz [] [(5, .bool false)] ?_
 refine xg ?_
 refine xn 1 [] [(10, .int .i64 f)] ?_
 refine xcv 11 (ct_spec_Describe (f) hf) zs0 ?_
 refine xb 6 [.int .i64 0, .int .i64 0, .int .i64 0, .int .i64 0, .int .i64 0, .bool false] 79 (fun g2 => ?_)
 refine xy [(3, [2])] [] [(2, [.int .i64 (P : Int), .int .i64 emin, .int .i64 emax, .int .i64 (W : Int), .int .i64 (E : Int), .bool ex])] ?_
 refine SW_seq ?_
 refine xr [(1, [2])] [(14, .bool ((P : Int) == 0))] ?_
 refine xs ((P : Int) == 0) (fun q0 => ?_) (fun q0 => ?_)
 ·exfalso
  have := beq_iff_eq.1 q0
  omega
 ·refine SW_skip ?_
  refine xg ?_
  refine xn 1 [] [(16, .agg #[.int .u64 0, .int .u64 0])] ?_
  refine xb 7 [.int .u64 0, .int .u64 0] 25 (fun g3 => ?_)
  refine xy [(2, [3])] [] [] ?_
  refine xg ?_
  refine xn 2 [(1, [0])] [(18, .agg #[.int .u64 (hiI S), .int .u64 (loI S)])] ?_
  refine xcr 19 (ct_spec_l2Of (S) hS) zs0 (fun A0 k0 => ?_)
  refine xz [] [(8, .slice A0 (List.length (ofN B32 S)) k0)] ?_
  have e0 : 0 < 2 ^ E := Nat.pow_pos (by decide)
  have e1 : 2 ^ E - 1 < 2 ^ E := by omega
  have nP2 : Nn (IntKind.i64.wrap ((P : Int) - 2)) (P - 2) := Nn.wrap (by omega) (by omega)
  have r2 : 2 ^ (P - 2) < 2 ^ (P - 1) := Nat.pow_lt_pow_right (by decide) (by omega)
  have nP1 : Nn (IntKind.i64.wrap ((P : Int) - 1)) (P - 1) := Nn.wrap (by omega) (by omega)
  have hlow : S % 2 ^ (P - 1) < 2 ^ (P - 1) := Nat.mod_lt _ (Nat.pow_pos (by decide))
  have h128 : 2 ^ W ≤ B128 := Nat.pow_le_pow_right (n := 2) (by decide) h1.w2
  have mk : ∀ n l e r, e < 2 ^ E → r < 2 ^ (P - 1) → makeN P W ex n l e r < B128 := fun n l e r he hr => Nat.lt_of_lt_of_le (makeN_lt h1 n l e r he hr) h128
  have z0 : 0 < 2 ^ (P - 1) := Nat.pow_pos (by decide)
  obtain ⟨m, hm⟩ := bits_ex S
  have sS : Sm S := sm128 (Nat.lt_of_lt_of_le hS (by decide))
  refine SW_cut (fun s' => ∃ x, x < B128 ∧ packN P emax W E ex c neg S q = some x ∧ Weak s' ⟨[(0, .int .i64 f), (3, .pointer (some ⟨g0, 0, none⟩)), (4, .pointer (some ⟨g1, 0, none⟩)), (7, .pointer (some ⟨g3, 0, none⟩))], [⟨g0, [.int .i64 c, .bool neg, .int .u64 (hiI S), .int .u64 (loI S), .int .i64 q], 29⟩, ⟨g1, [.int .u64 0, .int .u64 0], 25⟩, ⟨g2, [.int .i64 (P : Int), .int .i64 emin, .int .i64 emax, .int .i64 (W : Int), .int .i64 (E : Int), .bool ex], 79⟩, ⟨g3, [.int .u64 (hiI x), .int .u64 (loI x)], 25⟩], []⟩) ?_ ?_
  ·refine xr [(1, [0])] [(21, .int .i64 c)] ?_
   refine SW_block ?_
   refine xr [] [(23, .bool (c == 1))] ?_
   refine xs (c == 1) (fun q1 => ?_) (fun q1 => ?_)
   ·refine SW_region ?_
    refine xn 3 [(0, [2]), (2, [0])] [(27, .bool neg), (25, .agg #[.int .i64 (P : Int), .int .i64 emin, .int .i64 emax, .int .i64 (W : Int), .int .i64 (E : Int), .bool ex])] ?_
    refine xcv 28 (ct_spec_l2Make' h1 (neg) (false) (0) e0 (0) ⟨rfl⟩) zs0 ?_
    refine xy [(4, [3])] [] [(3, [.int .u64 (hiI (makeN P W ex neg false 0 0)), .int .u64 (loI (makeN P W ex neg false 0 0))])] ?_
    have hc : c = 1 := by simpa using q1
    exact ⟨_, mk neg false 0 0 e0 z0, by unfold packN; rw [if_pos hc], Weak.mk' (by kernel_rfl) rfl zs0⟩
   have hc1 : c ≠ 1 := by simpa using q1
   refine xr [] [(29, .bool (c == 4))] ?_
   refine xs (c == 4) (fun q2 => ?_) (fun q2 => ?_)
   ·refine xdl (fun hB => ?_)
    refine xdk [(0, [2]), (1, []), (2, [0]), (3, [2])] [(34, .agg #[.int .i64 (P : Int), .int .i64 emin, .int .i64 emax, .int .i64 (W : Int), .int .i64 (E : Int), .bool ex]), (33, .bool neg), (31, .agg #[.int .i64 (P : Int), .int .i64 emin, .int .i64 emax, .int .i64 (W : Int), .int .i64 (E : Int), .bool ex])] hB ?_
    refine xdv 4 35 (ct_spec_l2Top h) zs0 ?_
    refine xdv 5 36 (ct_spec_l2Make' h1 (neg) (true) (2 ^ E - 1) e1 ((((2 ^ E - 1) : Nat) : Int)) ⟨rfl⟩) zs0 ?_
    refine xds 6 [3] [(3, [.int .u64 (hiI (makeN P W ex neg true (2 ^ E - 1) 0)), .int .u64 (loI (makeN P W ex neg true (2 ^ E - 1) 0))])] ?_
    refine xdz ?_
    have hc : c = 4 := by simpa using q2
    exact ⟨_, mk neg true _ 0 e1 z0, by unfold packN; rw [if_neg hc1, if_pos hc], Weak.mk' (by kernel_rfl) rfl zs0⟩
   have hc4 : c ≠ 4 := by simpa using q2
   refine xr [] [(37, .bool (c == 5))] ?_
   refine xs (c == 5) (fun q3 => ?_) (fun q3 => ?_)
   ·refine xdl (fun hB => ?_)
    refine xdk [(0, [2]), (1, [2]), (3, []), (4, [2]), (5, [])] [(44, .int .i64 (IntKind.wrap IntKind.i64 ((P : Int) - 2))), (40, .agg #[.int .i64 (P : Int), .int .i64 emin, .int .i64 emax, .int .i64 (W : Int), .int .i64 (E : Int), .bool ex]), (39, .agg #[.int .i64 (P : Int), .int .i64 emin, .int .i64 emax, .int .i64 (W : Int), .int .i64 (E : Int), .bool ex])] hB ?_
    refine xdv 2 41 (ct_spec_l2Top h) zs0 ?_
    refine xdr 6 45 (ct_spec_l2Two (IntKind.wrap IntKind.i64 ((P : Int) - 2)) (P - 2) nP2 (by omega)) zs0 (fun A1 k1 => ?_)
    refine xdv 7 46 (ct_spec_l2Make h1 (false) (true) (2 ^ E - 1) (2 ^ (P - 2)) e1 r2 ((((2 ^ E - 1) : Nat) : Int)) ⟨rfl⟩ (A1) (k1)) (zsS zi0 zs0) ?_
    refine xds 8 [3] [(3, [.int .u64 (hiI (makeN P W ex false true (2 ^ E - 1) (2 ^ (P - 2)))), .int .u64 (loI (makeN P W ex false true (2 ^ E - 1) (2 ^ (P - 2))))])] ?_
    refine xdz ?_
    have hc : c = 5 := by simpa using q3
    exact ⟨_, mk false true _ _ e1 r2, by unfold packN; rw [if_neg hc1, if_neg hc4, if_pos hc], Weak.mk' (by kernel_rfl) rfl zs0⟩
   have hc5 : c ≠ 5 := by simpa using q3
   refine xr [] [(47, .bool (c == 2))] ?_
   refine xs (c == 2) (fun q4 => ?_) (fun q4 => ?_)
   ·have hc : c = 2 := by simpa using q4
    have hpk : packN P emax W E ex c neg S q = if S < 2 ^ (P - 1) then some (makeN P W ex neg false 0 S) else none := by unfold packN; rw [if_neg hc1, if_neg hc4, if_neg hc5, if_pos hc]
    have hb := bits_lt (k := P - 1) hm
    refine SW_seq ?_
    refine xd (fun hB => ?_)
    refine xdk [(0, []), (2, []), (3, [2])] [(52, .int .i64 (P : Int)), (49, .slice A0 (List.length (ofN B32 S)) k0)] hB ?_
    refine xdv 1 50 (ct_spec_l1Bits (S) (A0) (k0) sS (m) hm) (zsS zi0 zs0) ?_
    refine xdk [(4, [])] [(53, .bool (decide ((m : Int) ≥ (P : Int))))] hB ?_
    refine xdz ?_
    refine xs (decide ((m : Int) ≥ (P : Int))) (fun q5 => ?_) (fun q5 => ?_)
    ·refine xq [(1, [1])] [(5, .bool false)] [] ?_
     refine SW_ret ?_
     refine xe () (.tuple #[.agg #[.int .u64 0, .int .u64 0], .bool false]) [1] ?_ trivial
     have hge : P ≤ m := by simpa using q5
     rw [packR_none (by rw [hpk, if_neg (by rw [← hb]; omega)])]
     rfl
    have hlt : m < P := by simpa using q5
    have hS2 : S < 2 ^ (P - 1) := hb.1 (by omega)
    refine SW_skip ?_
    refine SW_region ?_
    refine xn 4 [(0, [2]), (2, [0])] [(58, .slice A0 (List.length (ofN B32 S)) k0), (57, .bool neg), (55, .agg #[.int .i64 (P : Int), .int .i64 emin, .int .i64 emax, .int .i64 (W : Int), .int .i64 (E : Int), .bool ex])] ?_
    refine xcv 59 (ct_spec_l2Make h1 (neg) (false) (0) (S) e0 hS2 (0) ⟨rfl⟩ (A0) (k0)) (zsS zi0 zs0) ?_
    refine xy [(5, [3])] [] [(3, [.int .u64 (hiI (makeN P W ex neg false 0 S)), .int .u64 (loI (makeN P W ex neg false 0 S))])] ?_
    exact ⟨_, mk neg false 0 S e0 hS2, by rw [hpk, if_pos hS2], Weak.mk' (by kernel_rfl) rfl zs0⟩
   have hc2 : c ≠ 2 := by simpa using q4
   refine xr [] [(60, .bool (c == 3))] ?_
   refine xs (c == 3) (fun q5 => ?_) (fun q5 => ?_)
   ·have hc : c = 3 := by simpa using q5
    have hpk : packN P emax W E ex c neg S q = if (2 ^ (P - 1) ≤ S ∧ S < 2 ^ P) ∧ 1 ≤ q + emax + P - 1 ∧ q + emax + P - 1 < ((2 ^ E - 1 : Nat) : Int) then some (makeN P W ex neg true (q + emax + P - 1).toNat (S % 2 ^ (P - 1))) else none := by unfold packN; rw [if_neg hc1, if_neg hc4, if_neg hc5, if_neg hc2, if_pos hc]
    have m1 := h.m1
    have tp := h.top
    have wE := wrapE q emax P hq (by omega) m1.2 p1 (by omega)
    have hbP : m = P ↔ 2 ^ (P - 1) ≤ S ∧ S < 2 ^ P := ⟨fun e => by subst e; exact ⟨hm.2.resolve_left (by omega), hm.1⟩, fun e => hm.uniq ⟨e.2, .inr e.1⟩⟩
    have nope : ∀ x : Int, x = IntKind.i64.wrap (IntKind.i64.wrap (IntKind.i64.wrap (q + emax) + (P : Int)) - 1) → ¬ (m = P ∧ 1 ≤ x ∧ x < ((2 ^ E - 1 : Nat) : Int)) → packR P emin emax W E ex c neg S q = (0, false) := by
     intro x hx hn
     refine packR_none ?_
     rw [hpk, if_neg]
     intro hh
     rw [← hx] at wE
     refine hn ⟨hbP.2 hh.1, ?_⟩
     omega
    refine xr [(1, [0]), (3, [2]), (6, [2])] [(9, .int .i64 (IntKind.wrap IntKind.i64 (IntKind.wrap IntKind.i64 (IntKind.wrap IntKind.i64 (q + emax) + (P : Int)) - 1)))] ?_
    refine SW_seq ?_
    refine xd (fun hB => ?_)
    refine xdk [(0, []), (2, []), (3, [2])] [(74, .int .i64 (P : Int)), (71, .slice A0 (List.length (ofN B32 S)) k0)] hB ?_
    refine xdv 1 72 (ct_spec_l1Bits (S) (A0) (k0) sS (m) hm) (zsS zi0 zs0) ?_
    refine xdk [(4, []), (5, [])] [(76, .bool ((m : Int) != (P : Int)))] hB ?_
    refine xdn 76 ((m : Int) != (P : Int)) (fun q6 => ?_) (fun q6 => ?_)
    ·refine xdk [(6, []), (7, []), (8, []), (9, []), (10, []), (11, [2]), (12, []), (13, []), (14, [])] [(85, .bool true)] hB ?_
     refine xdz ?_
     refine xs1 ?_
     refine xq [(1, [1])] [(5, .bool false)] [] ?_
     refine SW_ret ?_
     refine xe () (.tuple #[.agg #[.int .u64 0, .int .u64 0], .bool false]) [1] ?_ trivial
     rw [nope _ rfl (fun z => by rw [z.1] at q6; simp at q6)]
     rfl
    ·have hmP : m = P := by
      have z : (m : Int) = P := by simpa using q6
      omega
     refine xdk [(6, []), (7, []), (8, []), (9, [])] [(80, .bool (decide (IntKind.wrap IntKind.i64 (IntKind.wrap IntKind.i64 (IntKind.wrap IntKind.i64 (q + emax) + (P : Int)) - 1) < 1)))] hB ?_
     refine xdn 80 (decide (IntKind.wrap IntKind.i64 (IntKind.wrap IntKind.i64 (IntKind.wrap IntKind.i64 (q + emax) + (P : Int)) - 1) < 1)) (fun q7 => ?_) (fun q7 => ?_)
     ·refine xdk [(10, []), (11, [2]), (12, []), (13, []), (14, [])] [(85, .bool true)] hB ?_
      refine xdz ?_
      refine xs1 ?_
      refine xq [(1, [1])] [(5, .bool false)] [] ?_
      refine SW_ret ?_
      refine xe () (.tuple #[.agg #[.int .u64 0, .int .u64 0], .bool false]) [1] ?_ trivial
      rw [nope _ rfl (fun z => by have := of_decide_eq_true q7; omega)]
      rfl
     ·refine xdk [(10, []), (11, [2])] [(82, .agg #[.int .i64 (P : Int), .int .i64 emin, .int .i64 emax, .int .i64 (W : Int), .int .i64 (E : Int), .bool ex]), (81, .int .i64 (IntKind.wrap IntKind.i64 (IntKind.wrap IntKind.i64 (IntKind.wrap IntKind.i64 (q + emax) + (P : Int)) - 1)))] hB ?_
      refine xdv 12 83 (ct_spec_l2Top h) zs0 ?_
      refine xdk [(13, []), (14, [])] [(85, .bool (decide (IntKind.wrap IntKind.i64 (IntKind.wrap IntKind.i64 (IntKind.wrap IntKind.i64 (q + emax) + (P : Int)) - 1) ≥ (((2 ^ E - 1) : Nat) : Int))))] hB ?_
      refine xdz ?_
      refine xs (decide (IntKind.wrap IntKind.i64 (IntKind.wrap IntKind.i64 (IntKind.wrap IntKind.i64 (q + emax) + (P : Int)) - 1) ≥ (((2 ^ E - 1) : Nat) : Int))) (fun q8 => ?_) (fun q8 => ?_)
      ·refine xq [(1, [1])] [(5, .bool false)] [] ?_
       refine SW_ret ?_
       refine xe () (.tuple #[.agg #[.int .u64 0, .int .u64 0], .bool false]) [1] ?_ trivial
       rw [nope _ rfl (fun z => by have := of_decide_eq_true q8; omega)]
       rfl
      ·have a1 := of_decide_eq_false q7
       have a2 := of_decide_eq_false q8
       have wE2 : IntKind.i64.wrap (IntKind.i64.wrap (IntKind.i64.wrap (q + emax) + (P : Int)) - 1) = q + emax + P - 1 := by
        rcases wE with e | e
        ·exact e
        ·exact absurd e.1 a1
       rw [wE2] at a1 a2
       have nE : Nn (IntKind.i64.wrap (IntKind.i64.wrap (IntKind.i64.wrap (q + emax) + (P : Int)) - 1)) (q + emax + P - 1).toNat := ⟨by rw [wE2]; omega⟩
       have e3 : (q + emax + P - 1).toNat < 2 ^ E := by omega
       clear wE2 wE nope
       refine SW_skip ?_
       refine xdl (fun hB => ?_)
       refine xdk [(0, [2]), (1, []), (2, [0]), (3, []), (4, []), (5, []), (6, [2]), (7, [])] [(94, .int .i64 (IntKind.wrap IntKind.i64 ((P : Int) - 1))), (91, .slice A0 (List.length (ofN B32 S)) k0), (90, .int .i64 (IntKind.wrap IntKind.i64 (IntKind.wrap IntKind.i64 (IntKind.wrap IntKind.i64 (q + emax) + (P : Int)) - 1))), (89, .bool neg), (87, .agg #[.int .i64 (P : Int), .int .i64 emin, .int .i64 emax, .int .i64 (W : Int), .int .i64 (E : Int), .bool ex])] hB ?_
       refine xdr 8 95 (ct_spec_l2Low (S) (A0) (k0) (IntKind.wrap IntKind.i64 ((P : Int) - 1)) (P - 1) nP1 (by omega) sS) (zsS zi0 zs0) (fun A1 k1 => ?_)
       refine xdv 9 96 (ct_spec_l2Make h1 (neg) (true) (Int.toNat (q + emax + (P : Int) - 1)) (S % 2 ^ (P - 1)) e3 hlow (IntKind.wrap IntKind.i64 (IntKind.wrap IntKind.i64 (IntKind.wrap IntKind.i64 (q + emax) + (P : Int)) - 1)) nE (A1) (k1)) (zsS zi0 zs0) ?_
       refine xds 10 [3] [(3, [.int .u64 (hiI (makeN P W ex neg true (Int.toNat (q + emax + (P : Int) - 1)) (S % 2 ^ (P - 1)))), .int .u64 (loI (makeN P W ex neg true (Int.toNat (q + emax + (P : Int) - 1)) (S % 2 ^ (P - 1))))])] ?_
       refine xdz ?_
       exact ⟨_, mk neg true _ _ e3 hlow, by rw [hpk, if_pos ⟨hbP.1 hmP, by omega, by omega⟩], Weak.mk' (by kernel_rfl) rfl zs0⟩
   ·have hc3 : c ≠ 3 := by simpa using q5
    refine xq [(1, [1])] [(5, .bool false)] [] ?_
    refine SW_ret ?_
    refine xe () (.tuple #[.agg #[.int .u64 0, .int .u64 0], .bool false]) [1] ?_ trivial
    rw [packR_none (by unfold packN; rw [if_neg hc1, if_neg hc4, if_neg hc5, if_neg hc2, if_neg hc3])]
    rfl
  ·rintro s' ⟨x, hx, hpk, hw⟩
   refine SW_weak hw ?_
   rw [packR_some hpk]
   refine SW_seq ?_
   refine xd (fun hB => ?_)
   refine xdk [(0, []), (1, [3]), (3, [0])] [(100, .agg #[.int .i64 c, .bool neg, .int .u64 (hiI S), .int .u64 (loI S), .int .i64 q]), (98, .agg #[.int .u64 (hiI x), .int .u64 (loI x)]), (97, .int .i64 f)] hB ?_
   refine xdv 2 99 (ct_spec_Unpack h1 (f) hf (x) hx) zs0 ?_
   refine xdw 4 101 (.bool (!((Prod.fst (unpN P emin emax W E ex x) == c) && ((Prod.fst (Prod.snd (unpN P emin emax W E ex x)) == neg) && (((Prod.fst (Prod.snd (Prod.snd (unpN P emin emax W E ex x))) == hiI S) && (Prod.fst (Prod.snd (Prod.snd (Prod.snd (unpN P emin emax W E ex x)))) == loI S)) && (Prod.snd (Prod.snd (Prod.snd (Prod.snd (unpN P emin emax W E ex x)))) == q)))))) hB (fun w _ _ => run_neq rfl (by kernel_rfl) (by kernel_rfl) (by kernel_rfl) w (eq_parts _ _ _ _ _ _ _ _ _ _ _ w)) ?_
   refine xdz ?_
   refine xs (!(Prod.fst (unpN P emin emax W E ex x) == c && (Prod.fst (Prod.snd (unpN P emin emax W E ex x)) == neg && (Prod.fst (Prod.snd (Prod.snd (unpN P emin emax W E ex x))) == hiI S && Prod.fst (Prod.snd (Prod.snd (Prod.snd (unpN P emin emax W E ex x)))) == loI S && Prod.snd (Prod.snd (Prod.snd (Prod.snd (unpN P emin emax W E ex x)))) == q)))) (fun q1 => ?_) (fun q1 => ?_)
   ·refine xq [(1, [1])] [(5, .bool false)] [] ?_
    refine SW_ret ?_
    refine xe () (.tuple #[.agg #[.int .u64 0, .int .u64 0], .bool false]) [1] ?_ trivial
    rw [if_neg]
    ·rfl
    ·intro hu
     rw [hu] at q1
     simp at q1
   ·refine SW_skip ?_
    refine xq [(0, [3]), (1, [1])] [(5, .bool true)] [(1, [.int .u64 (hiI x), .int .u64 (loI x)])] ?_
    refine SW_ret ?_
    refine xe () (.tuple #[.agg #[.int .u64 (hiI x), .int .u64 (loI x)], .bool true]) [1] ?_ trivial
    rw [if_pos]
    have hq : (!eqb (unpN P emin emax W E ex x) (c, neg, hiI S, loI S, q)) = false := q1
    exact (eqb_iff _ _).1 (by simpa using hq)
end Go.Proofs.YtodhmbbiifhiaaaDoor.M
end
section
namespace Go.Proofs.YtodhmbbiifhiaaaDoor.M
open Go.RowKit Go.Proofs.YtodhmbbiifhiaaaDoor.G Go.Proofs.YtodhmbbiifhiaaaDoorV.PrintWords Go.Proofs.YtodhmbbiifhiaaaDoorV.PrintLast Go.Proofs.YtodhmbbiifhiaaaDoor.X
set_option linter.unusedVariables false
set_option linter.unusedSimpArgs false
structure Zn (a q : Int) : Prop where
 out : a = q
 lo : -9223372036854775808 ≤ q
 hi : q ≤ 9223372036854775807
theorem Zn.wrap {x q : Int} (h : x = q) (hq : -9223372036854775808 ≤ q ∧ q ≤ 9223372036854775807) : Zn (IntKind.i64.wrap x) q := ⟨by rw [wsi (by omega)]; exact h, hq.1, hq.2⟩
theorem ct_spec_Pack' {P : Nat} {emin emax : Int} {W E : Nat} {ex : Bool} (h : Fmt2 P emin emax W E ex) (f : Int) (hf : spec_Describe.f f = some ((P : Int), emin, emax, (W : Int), (E : Int), ex)) (c : Int) (neg : Bool) (hi lo : Int) (S : Nat) (hw : Wd hi lo S) (hS : S < B128) (a q : Int) (hq : Zn a q) :
  CtV Tryd.prog 71 [.int .i64 f, .agg #[.int .i64 c, .bool neg, .int .u64 hi, .int .u64 lo, .int .i64 a]] [] (.tuple #[.agg #[.int .u64 (hiI (packR P emin emax W E ex c neg S q).1), .int .u64 (loI (packR P emin emax W E ex c neg S q).1)], .bool (packR P emin emax W E ex c neg S q).2]) := by
 obtain ⟨rfl, rfl⟩ := hw
 obtain ⟨rfl, h1, h2⟩ := hq
 exact ct_spec_Pack h f hf c neg S hS _ ⟨h1, h2⟩
end Go.Proofs.YtodhmbbiifhiaaaDoor.M
end
section
namespace Go.Proofs.YtodhmbbiifhiaaaDoor.M
open Go.RowKit Go.Proofs.YtodhmbbiifhiaaaDoor.G Go.Proofs.YtodhmbbiifhiaaaDoorV.PrintWords Go.Proofs.YtodhmbbiifhiaaaDoorV.PrintLast Go.Proofs.YtodhmbbiifhiaaaDoor.X
set_option linter.unusedVariables false
set_option linter.unusedSimpArgs false
theorem packR_lt {P : Nat} {emin emax : Int} {W E : Nat} {ex : Bool} (h : Fmt2 P emin emax W E ex) {c : Int} {neg : Bool} {S : Nat} {q : Int} : (packR P emin emax W E ex c neg S q).1 < B128 := by
 have p3 := h.p3
 have w2 := h.w2
 have e0 : 0 < 2 ^ E := Nat.pow_pos (by decide)
 have z0 : 0 < 2 ^ (P - 1) := Nat.pow_pos (by decide)
 have key : ∀ w, packN P emax W E ex c neg S q = some w → w < B128 := by
  intro w hw
  have fin : ∀ neg lead e r, e < 2 ^ E → r < 2 ^ (P - 1) → makeN P W ex neg lead e r < B128 := fun neg lead e r he hr => Nat.lt_of_lt_of_le (makeN_lt h.toFmt neg lead e r he hr) (show 2 ^ W ≤ 2 ^ 128 from Nat.pow_le_pow_right (by decide) w2)
  unfold packN at hw
  split at hw
  ·cases hw
   exact fin _ _ _ _ e0 z0
  ·split at hw
   ·cases hw
    exact fin _ _ _ _ (by omega) z0
   ·split at hw
    ·cases hw
     exact fin _ _ _ _ (by omega) (Nat.pow_lt_pow_right (by decide) (by omega))
    ·split at hw
     ·split at hw
      ·rename_i hS
       cases hw
       exact fin _ _ _ _ e0 hS
      ·cases hw
     ·split at hw
      ·split at hw
       ·rename_i hS
        cases hw
        exact fin _ _ _ _ (by omega) (Nat.mod_lt _ z0)
       ·cases hw
      ·cases hw
 unfold packR
 split
 ·decide
 ·rename_i w hw
  split
  ·exact key w hw
  ·decide
theorem wrap_rng (z : Int) : -9223372036854775808 ≤ IntKind.i64.wrap z ∧ IntKind.i64.wrap z ≤ 9223372036854775807 := by
 simp [IntKind.wrap, IntKind.bits, IntKind.signed]
 omega
theorem hi_mk (x y : Nat) (hx : x < 18446744073709551616) (hy : y < 18446744073709551616) : hiI (y + x * 18446744073709551616) = (x : Int) := by
 unfold hiI
 omega
theorem lo_mk (x y : Nat) (hy : y < 18446744073709551616) : loI (y + x * 18446744073709551616) = (y : Int) := by
 unfold loI
 omega
theorem two_val' (x y : Nat) (hx : x < 18446744073709551616) (hy : y < 18446744073709551616) : Dig B64 [(x : Int), (y : Int)] ∧ val B64 [(x : Int), (y : Int)] = x + y * 18446744073709551616 := by
 refine ⟨Dig.cons (by unfold B64; omega) (Dig.cons (by unfold B64; omega) (Dig.nil _)), ?_⟩
 rw [val_cons, val_one]
 unfold B64
 rw [Int.toNat_natCast, Int.toNat_natCast]
 omega
theorem ct_spec_l1In' (g x y : Nat) (hx : x < 18446744073709551616) (hy : y < 18446744073709551616) : CtM Tryd.prog 70 [.slice (some ⟨g, 0, none⟩) 2 2] [⟨g, [.int .u64 (x : Int), .int .u64 (y : Int)], 23⟩] [] (γ := Option Addr × Nat) (fun p => .slice p.1 (ofN B32 (x + y * 18446744073709551616)).length p.2) (fun _ => []) (fun p => [Row .u64 p.1 p.2 (ofN B32 (x + y * 18446744073709551616))]) := by
 obtain ⟨d, v⟩ := two_val' x y hx hy
 obtain ⟨d2, n2, v2⟩ := ofN_spec B32_2 (x + y * 18446744073709551616)
 exact ctM_row (xs := [(x : Int), (y : Int)]) rfl (by simp) (by simp) (ct_spec_l1In_rows [(x : Int), (y : Int)] _ 2 d (by simp) _ d2 n2 (by rw [v2, v]))
theorem ct_spec_l1Reader_word (f : Int) (g : Nat) (A : Option Addr) (c : Nat) (bt : List Int) (a : Int) (i : Nat) (ha : Nn a i) (hi : i ≤ bt.length) (hx : bt.length ≤ 1048576) (dx : Dig 256 bt) :
  CtM Tryd.prog 40 [.pointer (some ⟨g, 0, none⟩), .int .i64 f] [⟨g, [.slice A bt.length c, .int .i64 a], 75⟩] [Row .u8 A c bt] (γ := {p : Nat × Nat // p.1 ≤ bt.length ∧ p.2 < B128}) (fun p => .agg #[.int .u64 (hiI p.1.2), .int .u64 (loI p.1.2)]) (fun p => [⟨g, [.slice A bt.length c, .int .i64 (p.1.1 : Int)], 75⟩]) (fun _ => []) := by
 obtain ⟨rfl⟩ := ha
 refine cm_of Tryd.func40 rfl (by kernel_rfl) (fun B w0 => ?_)
 -- the format that is drawn in
 obtain ⟨f', P, emin, emax, W, E, ex, r1, r2, r3, r4, r5, r6, d, hr, hf'⟩ : ∃ f' P emin emax W E ex r1 r2 r3 r4 r5 r6, FD f' P emin emax W E ex ∧ spec_Describe.f f = some (r1, r2, r3, r4, r5, r6) ∧ ((f = f' ∧ (P : Int) = r1 ∧ emin = r2 ∧ emax = r3 ∧ (W : Int) = r4 ∧ (E : Int) = r5 ∧ ex = r6) ∨ (f' = 1 ∧ r1 = 0)) := by
  rcases fd_or f with ⟨_, P, emin, emax, W, E, ex, d⟩ | ⟨_, hs, hl⟩
  ·exact ⟨f, P, emin, emax, W, E, ex, _, _, _, _, _, _, d, d.sf, .inl ⟨rfl, rfl, rfl, rfl, rfl, rfl, rfl⟩⟩
  ·exact ⟨1, 53, -1022, 1023, 64, 11, false, _, _, _, _, _, _, ⟨fmt2_1, by decide, rfl, rfl⟩, hs, .inr ⟨rfl, rfl⟩⟩
 have cd := spec_Describe.calls f _ _ _ _ _ _ hr
 have h := d.h
 have hF := h.toFmt
 have hs := d.sf
 have p0 := h.p0
 have p1 := h.p1
 have p3 := h.p3
 have m0 := h.m0
 have m1 := h.m1
 have zP : ((P : Int) == 0) = false := by rw [beq_eq_false_iff_ne]; omega
 refine xg ?_
 refine xb 4 [.int .u64 0, .int .u64 0] 25 (fun g0 => ?_)
 refine xz [] [] ?_
 refine xg ?_
 refine xn 1 [] [(14, .int .i64 f)] ?_
 refine xcv 15 cd zs0 ?_
 refine xb 5 [.int .i64 0, .int .i64 0, .int .i64 0, .int .i64 0, .int .i64 0, .bool false] 79 (fun g1 => ?_)
 refine xy [(3, [2])] [] [(2, [.int .i64 r1, .int .i64 r2, .int .i64 r3, .int .i64 r4, .int .i64 r5, .bool r6])] ?_
 refine SW_cut (fun s' => Weak s' ⟨[(0, .pointer (some ⟨g, 0, none⟩)), (1, .int .i64 f'), (4, .pointer (some ⟨g0, 0, none⟩)), (5, .pointer (some ⟨g1, 0, none⟩))], [⟨g, [.slice A bt.length c, .int .i64 (i : Int)], 75⟩, ⟨g0, [.int .u64 0, .int .u64 0], 25⟩, ⟨g1, [.int .i64 (P : Int), .int .i64 emin, .int .i64 emax, .int .i64 (W : Int), .int .i64 (E : Int), .bool ex], 79⟩], [Row .u8 A c bt]⟩) ?_ ?_
 ·rcases hf' with ⟨rfl, rfl, rfl, rfl, rfl, rfl, rfl⟩ | ⟨rfl, rfl⟩
  ·refine xr [(1, [2])] [(18, .bool ((P : Int) == 0))] ?_
   refine xsf zP ?_
   refine SW_skip ?_
   exact xw (zsS zi0 zs0)
  ·refine xr [(1, [2])] [(18, .bool true)] ?_
   refine xs1 ?_
   refine xg ?_
   refine xcv 19 (ct_spec_Describe (1) hs) zs0 ?_
   refine xy [(1, [2])] [] [(2, [.int .i64 (P : Int), .int .i64 emin, .int .i64 emax, .int .i64 (W : Int), .int .i64 (E : Int), .bool ex])] ?_
   refine xrl [] [(1, .int .i64 1)] ?_
   exact xw (zsS zi0 zs0)
 ·rintro s' hw
  refine SW_weak hw ?_
  clear hw
  have w1 : Ve (IntKind.i64.wrap (emin - (P : Int))) (emin - (P : Int)) := ⟨wrap_i64 (by omega)⟩
  have w2 : Ve (IntKind.i64.wrap (emin - (P : Int) + 1)) (emin - (P : Int) + 1) := ⟨wrap_i64 (by omega)⟩
  refine xg ?_
  refine xn 1 [] [(20, .pointer (some ⟨g, 0, none⟩))] ?_
  (refine xcm 21 [true] (ct_spec_l1Reader_next (g) (A) (c) (bt) ((i : Int)) (i) ⟨rfl⟩ hi hx dx) (zsS zi0 zs0) (fun zz => ?_); obtain ⟨⟨z4, z5⟩, p6⟩ := zz)
  refine xz [] [(6, .int .i64 (z5 : Int))] ?_
  refine xg ?_
  refine xn 1 [] [(22, .pointer (some ⟨g, 0, none⟩))] ?_
  (refine xcm 23 [true] (ct_spec_l1Reader_next (g) (A) (c) (bt) ((z4 : Int)) (z4) ⟨rfl⟩ (by omega) hx dx) (zsS zi0 zs0) (fun zz => ?_); obtain ⟨⟨z7, z8⟩, p9⟩ := zz)
  refine xz [] [(7, .bool (Int.tmod (z8 : Int) 3 == 1))] ?_
  refine xg ?_
  refine xn 2 [] [(27, .agg #[.int .i64 0, .bool (Int.tmod (z8 : Int) 3 == 1), .int .u64 0, .int .u64 0, .int .i64 0])] ?_
  refine xb 8 [.int .i64 0, .bool false, .int .u64 0, .int .u64 0, .int .i64 0] 29 (fun g2 => ?_)
  refine xy [(3, [3])] [] [(3, [.int .i64 0, .bool (Int.tmod (z8 : Int) 3 == 1), .int .u64 0, .int .u64 0, .int .i64 0])] ?_
  refine xg ?_
  refine xn 4 [(1, [2]), (3, [2])] [(31, .int .i64 (P : Int)), (29, .int .i64 emin)] ?_
  refine xve 32 IntKind.i64 (IntKind.wrap IntKind.i64 (emin - (P : Int))) (emin - (P : Int)) w1 ?_
  refine xve 33 IntKind.i64 (IntKind.wrap IntKind.i64 (emin - (P : Int) + 1)) (emin - (P : Int) + 1) w2 ?_
  refine xz [] [(9, .int .i64 (emin - (P : Int) + 1))] ?_
  generalize hnb : (Int.tmod (z8 : Int) 3 == 1) = nb
  have v12 : Ve (Int.tmod (z5 : Int) 12) ((z5 % 12 : Nat) : Int) := ⟨by rw [Int.tmod_eq_emod_of_nonneg (by omega)]; omega⟩
  have hq0 : -9223372036854775808 ≤ emin - (P : Int) + 1 ∧ emin - (P : Int) + 1 ≤ 9223372036854775807 := by omega
  have hb0 : 0 < B128 := by decide
  have hbv : ∀ x y : Nat, x < 18446744073709551616 → y < 18446744073709551616 → x + y * 18446744073709551616 < B128 := fun x y hx hy => by
   have : B128 = 340282366920938463463374607431768211456 := by decide
   omega
  have hsm : ∀ x y : Nat, x < 18446744073709551616 → y < 18446744073709551616 → Sm (x + y * 18446744073709551616) := fun x y hx hy => sm128 (Nat.lt_trans (hbv x y hx hy) (by decide))
  have hdv : ∀ x y n : Nat, x < 18446744073709551616 → y < 18446744073709551616 → (x + y * 18446744073709551616) / 2 ^ n < B128 := fun x y n hx hy => Nat.lt_of_le_of_lt (Nat.div_le_self _ _) (hbv x y hx hy)
  have hmv : ∀ x y n : Nat, x < 18446744073709551616 → y < 18446744073709551616 → (x + y * 18446744073709551616) % 2 ^ n < B128 := fun x y n hx hy => Nat.lt_of_le_of_lt (Nat.mod_le _ _) (hbv x y hx hy)
  have hw1 := h.w1
  have hW : W ≤ 128 := h.w2
  have hle : ∀ z : Nat, 129 - P + z % (P - 1) ≤ 100000000000 := fun z => by
   have := Nat.mod_lt z (show 0 < P - 1 by omega)
   omega
  have hN : ∀ z : Nat, Nn (IntKind.i64.wrap (((129 - P : Nat) : Int) + ((z % (P - 1) : Nat) : Int))) (129 - P + z % (P - 1)) := fun z => by
   have := Nat.mod_lt z (show 0 < P - 1 by omega)
   exact Nn.wrap (by omega) (by omega)
  have b128 : 2 ^ P < B128 := Nat.pow_lt_pow_right (a := 2) (n := 128) (by decide) (by omega)
  have v1 : Ve (IntKind.i64.wrap ((P : Int) - 1)) ((P - 1 : Nat) : Int) := ⟨by rw [wrap_i64 (by omega)]; omega⟩
  have v129 : Ve (IntKind.i64.wrap (129 - (P : Int))) ((129 - P : Nat) : Int) := ⟨by rw [wrap_i64 (by omega)]; omega⟩
  refine SW_cut (fun s' => ∃ (i' : Nat) (cc : Int) (n2 : Bool) (S : Nat) (q : Int), i' ≤ bt.length ∧ S < B128 ∧ (-9223372036854775808 ≤ q ∧ q ≤ 9223372036854775807) ∧ Weak2 s' ⟨[(0, .pointer (some ⟨g, 0, none⟩)), (1, .int .i64 f'), (4, .pointer (some ⟨g0, 0, none⟩)), (6, .int .i64 (z5 : Int)), (7, .bool nb), (8, .pointer (some ⟨g2, 0, none⟩)), (9, .int .i64 (emin - (P : Int) + 1))], [⟨g, [.slice A bt.length c, .int .i64 (i' : Int)], 75⟩, ⟨g0, [.int .u64 0, .int .u64 0], 25⟩, ⟨g2, [.int .i64 cc, .bool n2, .int .u64 (hiI S), .int .u64 (loI S), .int .i64 q], 29⟩], [Row .u8 A c bt]⟩) ?_ ?_
  ·refine xg ?_
   refine xn 1 [] [(34, .int .i64 (z5 : Int))] ?_
   refine xve 35 IntKind.i64 (Int.tmod (z5 : Int) 12) ((((z5 % 12) : Nat) : Int)) v12 ?_
   refine xz [] [] ?_
   refine SW_block ?_
   refine xr [] [(131, .bool ((((z5 % 12) : Nat) : Int) == 0))] ?_
   refine xs ((((z5 % 12) : Nat) : Int) == 0) (fun q0 => ?_) (fun q0 => ?_)
   ·refine xql [(1, [3])] [] [(3, [.int .i64 1, .bool nb, .int .u64 0, .int .u64 0, .int .i64 0])] ?_
    refine ⟨z7, 1, nb, 0, 0, p9.1, hb0, by decide, ?_⟩
    exact xw2 [true, true, false, true] (zsS zi0 zs0)
   ·refine xr [] [(134, .bool ((((z5 % 12) : Nat) : Int) == 1))] ?_
    refine xs ((((z5 % 12) : Nat) : Int) == 1) (fun q1 => ?_) (fun q1 => ?_)
    ·refine xql [(1, [3])] [] [(3, [.int .i64 4, .bool nb, .int .u64 0, .int .u64 0, .int .i64 0])] ?_
     refine ⟨z7, 4, nb, 0, 0, p9.1, hb0, by decide, ?_⟩
     exact xw2 [true, true, false, true] (zsS zi0 zs0)
    ·refine xr [] [(137, .bool ((((z5 % 12) : Nat) : Int) == 2))] ?_
     refine xs ((((z5 % 12) : Nat) : Int) == 2) (fun q2 => ?_) (fun q2 => ?_)
     ·refine xql [(1, [3])] [] [(3, [.int .i64 5, .bool false, .int .u64 0, .int .u64 0, .int .i64 0])] ?_
      refine ⟨z7, 5, false, 0, 0, p9.1, hb0, by decide, ?_⟩
      exact xw2 [true, true, false, true] (zsS zi0 zs0)
     ·refine xr [] [(140, .bool ((((z5 % 12) : Nat) : Int) == 3))] ?_
      refine xs ((((z5 % 12) : Nat) : Int) == 3) (fun q3 => ?_) (fun q3 => ?_)
      ·refine xq [(1, [3])] [] [(3, [.int .i64 2, .bool nb, .int .u64 0, .int .u64 0, .int .i64 0])] ?_
       refine xq [(2, [3])] [] [(3, [.int .i64 2, .bool nb, .int .u64 0, .int .u64 0, .int .i64 (emin - (P : Int) + 1)])] ?_
       refine xdml [false, true, true, true] (fun hB => ?_)
       refine xdk [(0, []), (2, []), (6, []), (7, [1]), (9, []), (11, []), (12, [1])] [(157, .int .i64 (P : Int)), (154, .pointer (some ⟨g, 0, none⟩)), (152, .int .i64 (P : Int)), (147, .pointer (some ⟨g, 0, none⟩)), (145, .pointer (some ⟨g, 0, none⟩))] hB ?_
       refine xdve 8 hB 153 IntKind.i64 (IntKind.wrap IntKind.i64 (129 - (P : Int))) ((((129 - P) : Nat) : Int)) v129 ?_
       refine xdve 13 hB 158 IntKind.i64 (IntKind.wrap IntKind.i64 ((P : Int) - 1)) ((((P - 1) : Nat) : Int)) v1 ?_
       (refine xdcm 1 146 [true] [false, true, true, true] (ct_spec_l1Reader_wide (g) (A) (c) (bt) ((z7 : Int)) (z7) ⟨rfl⟩ (by omega) hx dx) (zsS zi0 zs0) (zsS zi0 zs0) (fun zz => ?_); obtain ⟨⟨z10, z11⟩, p12⟩ := zz)
       (refine xdcm 3 148 [true] [false, true, true, true] (ct_spec_l1Reader_wide (g) (A) (c) (bt) ((z10 : Int)) (z10) ⟨rfl⟩ (by omega) hx dx) (zsS zi0 zs0) (zsS zi0 zs0) (fun zz => ?_); obtain ⟨⟨z13, z14⟩, p15⟩ := zz)
       refine xdbl 4 149 [.int .u64 (z11 : Int), .int .u64 (z14 : Int)] 23 2 (fun g3 => ?_)
       (refine xdcm 5 150 [false, false, false, false, true] [false, true, true, true, false] (ct_spec_l1In' (g3) (z11) (z14) (by omega) (by omega)) zs0 (zsS zi0 zs0) (fun zz => ?_); obtain ⟨z16, z17⟩ := zz)
       (refine xdcm 10 155 [true] [false, true, true, true] (ct_spec_l1Reader_next (g) (A) (c) (bt) ((z13 : Int)) (z13) ⟨rfl⟩ (by omega) hx dx) (zsS (ziS zi0) zs0) (zsS (ziS zi0) zs0) (fun zz => ?_); obtain ⟨⟨z18, z19⟩, p20⟩ := zz)
       refine xdqri 14 hB 159 ((z19 : Int)) ((((P - 1) : Nat) : Int)) ((z19)) ((P - 1)) ⟨rfl⟩ ⟨rfl⟩ (by omega) (by omega) ?_
       refine xdk [(15, [])] [(160, .int .i64 (IntKind.wrap IntKind.i64 ((((129 - P) : Nat) : Int) + (((z19 % (P - 1)) : Nat) : Int))))] hB ?_
       refine xdr 16 161 (ct_spec_l1Right (z11 + z14 * 18446744073709551616) (z16) (z17) (IntKind.wrap IntKind.i64 ((((129 - P) : Nat) : Int) + (((z19 % (P - 1)) : Nat) : Int))) (129 - P + z19 % (P - 1)) (hN _) (hle _) (hsm _ _ (by omega) (by omega))) (zsS zi0 zs0) (fun A0 k0 => ?_)
       refine xdv 17 162 (ct_spec_l2Word ((z11 + z14 * 18446744073709551616) / 2 ^ (129 - P + z19 % (P - 1))) (A0) (k0) (hdv _ _ _ (by omega) (by omega))) (zsS zi0 zs0) ?_
       refine xdk [(18, [])] [(163, .pointer (some ⟨g2, 2, none⟩))] hB ?_
       refine xds 19 [3] [(3, [.int .i64 2, .bool nb, .int .u64 (hiI ((z11 + z14 * 18446744073709551616) / 2 ^ (129 - P + z19 % (P - 1)))), .int .u64 (loI ((z11 + z14 * 18446744073709551616) / 2 ^ (129 - P + z19 % (P - 1)))), .int .i64 (emin - (P : Int) + 1)])] ?_
       refine xdz ?_
       refine ⟨z18, 2, nb, (z11 + z14 * 18446744073709551616) / 2 ^ (129 - P + z19 % (P - 1)), emin - (P : Int) + 1, p20.1, hdv _ _ _ p12.2 p15.2, hq0, ?_⟩
       exact xw2 [true, true, false, true] (zsS (ziS (ziS zi0)) zs0)
      ·refine xr [] [(164, .bool ((((z5 % 12) : Nat) : Int) == 4))] ?_
       refine xs ((((z5 % 12) : Nat) : Int) == 4) (fun q4 => ?_) (fun q4 => ?_)
       ·refine xg ?_
        refine xn 1 [] [(166, .pointer (some ⟨g, 0, none⟩))] ?_
        (refine xcm 167 [true] (ct_spec_l1Reader_wide (g) (A) (c) (bt) ((z7 : Int)) (z7) ⟨rfl⟩ (by omega) hx dx) (zsS zi0 zs0) (fun zz => ?_); obtain ⟨⟨z10, z11⟩, p12⟩ := zz)
        refine xn 3 [] [(168, .pointer (some ⟨g, 0, none⟩))] ?_
        (refine xcm 169 [true] (ct_spec_l1Reader_wide (g) (A) (c) (bt) ((z10 : Int)) (z10) ⟨rfl⟩ (by omega) hx dx) (zsS zi0 zs0) (fun zz => ?_); obtain ⟨⟨z13, z14⟩, p15⟩ := zz)
        refine xy [(5, [1])] [] [(1, [.int .u64 (z11 : Int), .int .u64 (z14 : Int)])] ?_
        refine SW_ret ?_
        refine xmeg (.agg #[.int .u64 (z11 : Int), .int .u64 (z14 : Int)]) [1] ?_
        exact ⟨⟨(z13, z14 + z11 * 18446744073709551616), p15.1, hbv z14 z11 p15.2 p12.2⟩, [true], by dsimp only; rw [hi_mk _ _ p12.2 p15.2, lo_mk _ _ p15.2], rfl, zs0⟩
       ·refine xr [] [(171, .bool ((((z5 % 12) : Nat) : Int) == 5))] ?_
        refine xs ((((z5 % 12) : Nat) : Int) == 5) (fun q5 => ?_) (fun q5 => ?_)
        ·refine xdm [false, true, true, true] (fun hB => ?_)
         refine xdk [(0, []), (2, []), (6, []), (7, [1])] [(180, .int .i64 (W : Int)), (175, .pointer (some ⟨g, 0, none⟩)), (173, .pointer (some ⟨g, 0, none⟩))] hB ?_
         (refine xdcm 1 174 [true] [false, true, true, true] (ct_spec_l1Reader_wide (g) (A) (c) (bt) ((z7 : Int)) (z7) ⟨rfl⟩ (by omega) hx dx) (zsS zi0 zs0) (zsS zi0 zs0) (fun zz => ?_); obtain ⟨⟨z10, z11⟩, p12⟩ := zz)
         (refine xdcm 3 176 [true] [false, true, true, true] (ct_spec_l1Reader_wide (g) (A) (c) (bt) ((z10 : Int)) (z10) ⟨rfl⟩ (by omega) hx dx) (zsS zi0 zs0) (zsS zi0 zs0) (fun zz => ?_); obtain ⟨⟨z13, z14⟩, p15⟩ := zz)
         refine xdbl 4 177 [.int .u64 (z11 : Int), .int .u64 (z14 : Int)] 23 2 (fun g3 => ?_)
         (refine xdcm 5 178 [false, false, false, false, true] [false, true, true, true, false] (ct_spec_l1In' (g3) (z11) (z14) (by omega) (by omega)) zs0 (zsS zi0 zs0) (fun zz => ?_); obtain ⟨z16, z17⟩ := zz)
         refine xdr 8 181 (ct_spec_l2Low (z11 + z14 * 18446744073709551616) (z16) (z17) ((W : Int)) (W) ⟨rfl⟩ (by omega) (hsm _ _ (by omega) (by omega))) (zsS zi0 zs0) (fun A0 k0 => ?_)
         refine xdv 9 182 (ct_spec_l2Word ((z11 + z14 * 18446744073709551616) % 2 ^ W) (A0) (k0) (hmv _ _ _ (by omega) (by omega))) (zsS zi0 zs0) ?_
         refine xds 10 [1] [(1, [.int .u64 (hiI ((z11 + z14 * 18446744073709551616) % 2 ^ W)), .int .u64 (loI ((z11 + z14 * 18446744073709551616) % 2 ^ W))])] ?_
         refine xdz ?_
         refine SW_ret ?_
         refine xmeg (.agg #[.int .u64 (hiI ((z11 + z14 * 18446744073709551616) % 2 ^ W)), .int .u64 (loI ((z11 + z14 * 18446744073709551616) % 2 ^ W))]) [1] ?_
         exact ⟨⟨(z13, (z11 + z14 * 18446744073709551616) % 2 ^ W), p15.1, hmv z11 z14 W p12.2 p15.2⟩, [true], rfl, rfl, zs0⟩
        ·refine xq [(1, [3])] [] [(3, [.int .i64 3, .bool nb, .int .u64 0, .int .u64 0, .int .i64 0])] ?_
         refine xg ?_
         refine xn 2 [(1, [2])] [(38, .int .i64 (P : Int))] ?_
         refine xve 39 IntKind.i64 (IntKind.wrap IntKind.i64 ((P : Int) - 1)) ((((P - 1) : Nat) : Int)) v1 ?_
         refine xcr 40 (ct_spec_l2Two ((((P - 1) : Nat) : Int)) (P - 1) ⟨rfl⟩ (by omega)) zs0 (fun A0 k0 => ?_)
         refine xz [] [(10, .slice A0 (List.length (ofN B32 (2 ^ (P - 1)))) k0)] ?_
         have sP : Sm (2 ^ P) := sm128 (Nat.lt_of_lt_of_le b128 (by decide))
         have sP1 : Sm (2 ^ (P - 1)) := sP.mono (Nat.pow_le_pow_right (by decide) (by omega))
         have hc3 : ∀ z : Nat, Nn (IntKind.u64.wrap (IntKind.i64.wrap (1 + Int.tmod (z : Int) 3))) (1 + z % 3) := fun z => by
          have e : Int.tmod (z : Int) 3 = ((z % 3 : Nat) : Int) := by rw [Int.tmod_eq_emod_of_nonneg (by omega)]; omega
          rw [e]
          exact Nn.u (Nn.wrap (by omega) (by omega)) (by omega)
         have hc4 : ∀ z : Nat, Nn (IntKind.u64.wrap (Int.tmod (z : Int) 4)) (z % 4) := fun z => by
          have e : Int.tmod (z : Int) 4 = ((z % 4 : Nat) : Int) := by rw [Int.tmod_eq_emod_of_nonneg (by omega)]; omega
          rw [e]
          exact Nn.u ⟨rfl⟩ (by omega)
         have hs3 : ∀ z : Nat, Sm (1 + z % 3) := fun z => sm128 (Nat.lt_trans (show 1 + z % 3 < 4 by omega) (by decide))
         have hs4 : ∀ z : Nat, Sm (z % 4) := fun z => sm128 (Nat.lt_trans (show z % 4 < 4 by omega) (by decide))
         have hsl : ∀ z : Nat, Sm (z % 2 ^ (P - 1)) := fun z => sP1.mono (Nat.le_of_lt (Nat.mod_lt _ (Nat.pow_pos (by decide))))
         have hl3 : ∀ z : Nat, 1 + z % 3 ≤ 2 ^ P := fun z => by
          have h1 : 1 + z % 3 ≤ 2 ^ 2 := by omega
          exact Nat.le_trans h1 (Nat.pow_le_pow_right (by decide) p0)
         have b128' := b128
         have t2 := two_P hF
         have hl4 : ∀ z : Nat, 2 ^ (P - 1) + z % 2 ^ (P - 1) < B128 := fun z => by
          have := Nat.mod_lt z (Nat.pow_pos (n := P - 1) (show 0 < 2 by decide))
          omega
         have hP1 : 2 ^ (P - 1) < B128 := Nat.lt_of_le_of_lt (Nat.pow_le_pow_right (by decide) (by omega)) b128
         have t2 := two_P hF
         have hP113 : 2 ^ P ≤ 2 ^ 113 := Nat.pow_le_pow_right (by decide) p1
         have pd : (2 : Nat) ^ 113 + 2 ^ 113 < B128 := by decide
         have hp4 : 4 ≤ 2 ^ (P - 1) := (show 2 ^ 2 ≤ 2 ^ (P - 1) from Nat.pow_le_pow_right (by decide) (by omega))
         refine SW_cut (fun s' => ∃ (i' : Nat) (Sg : Nat) (A1 : Option Addr) (c1 : Nat), i' ≤ bt.length ∧ Sg < B128 ∧ Weak2 s' ⟨[(0, .pointer (some ⟨g, 0, none⟩)), (1, .int .i64 f'), (4, .pointer (some ⟨g0, 0, none⟩)), (5, .pointer (some ⟨g1, 0, none⟩)), (6, .int .i64 (z5 : Int)), (7, .bool nb), (8, .pointer (some ⟨g2, 0, none⟩)), (9, .int .i64 (emin - (P : Int) + 1)), (10, .slice A1 (ofN B32 Sg).length c1)], [⟨g, [.slice A bt.length c, .int .i64 (i' : Int)], 75⟩, ⟨g0, [.int .u64 0, .int .u64 0], 25⟩, ⟨g1, [.int .i64 (P : Int), .int .i64 emin, .int .i64 emax, .int .i64 (W : Int), .int .i64 (E : Int), .bool ex], 79⟩, ⟨g2, [.int .i64 3, .bool nb, .int .u64 0, .int .u64 0, .int .i64 0], 29⟩], [Row .u8 A c bt, Row .u64 A1 c1 (ofN B32 Sg)]⟩) ?_ ?_
         ·refine xg ?_
          refine xn 1 [] [(41, .pointer (some ⟨g, 0, none⟩))] ?_
          (refine xcm 42 [true] (ct_spec_l1Reader_next (g) (A) (c) (bt) ((z7 : Int)) (z7) ⟨rfl⟩ (by omega) hx dx) (zsS (ziS zi0) zs0) (fun zz => ?_); obtain ⟨⟨z10, z11⟩, p12⟩ := zz)
          refine xz [] [(43, .int .i64 (Int.tmod (z11 : Int) 5))] ?_
          refine SW_block ?_
          refine xr [] [(56, .bool (Int.tmod (z11 : Int) 5 == 0))] ?_
          refine xs (Int.tmod (z11 : Int) 5 == 0) (fun q6 => ?_) (fun q6 => ?_)
          ·refine SW_skip ?_
           refine ⟨(z10), (2 ^ (P - 1)), (A0), (k0), ?_, ?_, xw2 [true, true, true, true] (zsS (ziS zi0) (zsS zi0 zs0))⟩
           ·omega
           ·exact hP1
          ·refine xr [] [(58, .bool (Int.tmod (z11 : Int) 5 == 1))] ?_
           refine xs (Int.tmod (z11 : Int) 5 == 1) (fun q7 => ?_) (fun q7 => ?_)
           ·refine SW_region ?_
            refine xn 2 [(1, [2])] [(61, .int .i64 (P : Int))] ?_
            refine xcr 62 (ct_spec_l2Two ((P : Int)) (P) ⟨rfl⟩ (by omega)) zs0 (fun A1 k1 => ?_)
            refine xn 4 [] [(63, .pointer (some ⟨g, 0, none⟩))] ?_
            (refine xcm 64 [true] (ct_spec_l1Reader_next (g) (A) (c) (bt) ((z10 : Int)) (z10) ⟨rfl⟩ (by omega) hx dx) (zsS (ziS (ziS zi0)) zs0) (fun zz => ?_); obtain ⟨⟨z13, z14⟩, p15⟩ := zz)
            refine xn 8 [] [(67, .int .u64 (IntKind.wrap IntKind.u64 (IntKind.wrap IntKind.i64 (1 + Int.tmod (z14 : Int) 3))))] ?_
            refine xcr 68 (ct_spec_l1Of (IntKind.wrap IntKind.u64 (IntKind.wrap IntKind.i64 (1 + Int.tmod (z14 : Int) 3))) (1 + z14 % 3) (hc3 _) (by omega)) zs0 (fun A2 k2 => ?_)
            refine xcr 69 (ct_spec_l1Sub (2 ^ P) (1 + z14 % 3) (A1) (A2) (k1) (k2) sP (hl3 _)) (zsS (ziS zi0) (zsS zi0 zs0)) (fun A3 k3 => ?_)
            refine xz [] [(10, .slice A3 (List.length (ofN B32 (2 ^ P - (1 + z14 % 3)))) k3)] ?_
            refine ⟨(z13), (2 ^ P - (1 + z14 % 3)), (A3), (k3), ?_, ?_, xw2 [true, true, true, true] (zsS (ziS (ziS (ziS (ziS zi0)))) (zsS zi0 zs0))⟩
            ·omega
            ·omega
           ·refine xr [] [(70, .bool (Int.tmod (z11 : Int) 5 == 2))] ?_
            refine xs (Int.tmod (z11 : Int) 5 == 2) (fun q8 => ?_) (fun q8 => ?_)
            ·refine SW_region ?_
             refine xn 2 [] [(73, .pointer (some ⟨g, 0, none⟩)), (72, .slice A0 (List.length (ofN B32 (2 ^ (P - 1)))) k0)] ?_
             (refine xcm 74 [true] (ct_spec_l1Reader_next (g) (A) (c) (bt) ((z10 : Int)) (z10) ⟨rfl⟩ (by omega) hx dx) (zsS (ziS zi0) zs0) (fun zz => ?_); obtain ⟨⟨z13, z14⟩, p15⟩ := zz)
             refine xn 5 [] [(76, .int .u64 (IntKind.wrap IntKind.u64 (Int.tmod (z14 : Int) 4)))] ?_
             refine xcr 77 (ct_spec_l1Of (IntKind.wrap IntKind.u64 (Int.tmod (z14 : Int) 4)) (z14 % 4) (hc4 _) (by omega)) zs0 (fun A1 k1 => ?_)
             refine xcr 78 (ct_spec_l1Add (2 ^ (P - 1)) (z14 % 4) (A0) (A1) (k0) (k1) sP1 (hs4 _)) (zsS (ziS zi0) (zsS zi0 zs0)) (fun A2 k2 => ?_)
             refine xz [] [(10, .slice A2 (List.length (ofN B32 (2 ^ (P - 1) + z14 % 4))) k2)] ?_
             refine ⟨(z13), (2 ^ (P - 1) + z14 % 4), (A2), (k2), ?_, ?_, xw2 [true, true, true, true] (zsS (ziS (ziS (ziS zi0))) (zsS zi0 zs0))⟩
             ·omega
             ·omega
            ·refine xdml [false, true, true, true] (fun hB => ?_)
             refine xdk [(0, []), (1, []), (3, []), (7, []), (8, [1])] [(52, .int .i64 (P : Int)), (47, .pointer (some ⟨g, 0, none⟩)), (45, .pointer (some ⟨g, 0, none⟩)), (44, .slice A0 (List.length (ofN B32 (2 ^ (P - 1)))) k0)] hB ?_
             refine xdve 9 hB 53 IntKind.i64 (IntKind.wrap IntKind.i64 ((P : Int) - 1)) ((((P - 1) : Nat) : Int)) v1 ?_
             (refine xdcm 2 46 [true] [false, true, true, true] (ct_spec_l1Reader_wide (g) (A) (c) (bt) ((z10 : Int)) (z10) ⟨rfl⟩ (by omega) hx dx) (zsS (ziS zi0) zs0) (zsS zi0 (zsS (ziS zi0) zs0)) (fun zz => ?_); obtain ⟨⟨z13, z14⟩, p15⟩ := zz)
             (refine xdcm 4 48 [true] [false, true, true, true] (ct_spec_l1Reader_wide (g) (A) (c) (bt) ((z13 : Int)) (z13) ⟨rfl⟩ (by omega) hx dx) (zsS (ziS zi0) zs0) (zsS zi0 (zsS (ziS zi0) zs0)) (fun zz => ?_); obtain ⟨⟨z16, z17⟩, p18⟩ := zz)
             refine xdbl 5 49 [.int .u64 (z14 : Int), .int .u64 (z17 : Int)] 23 2 (fun g3 => ?_)
             (refine xdcm 6 50 [false, false, false, false, true] [false, true, true, true, false] (ct_spec_l1In' (g3) (z14) (z17) (by omega) (by omega)) zs0 (zsS zi0 (zsS (ziS zi0) zs0)) (fun zz => ?_); obtain ⟨z19, z20⟩ := zz)
             refine xdr 10 54 (ct_spec_l2Low (z14 + z17 * 18446744073709551616) (z19) (z20) ((((P - 1) : Nat) : Int)) (P - 1) ⟨rfl⟩ (by omega) (hsm _ _ (by omega) (by omega))) (zsS zi0 zs0) (fun A1 k1 => ?_)
             refine xdr 11 55 (ct_spec_l1Add (2 ^ (P - 1)) ((z14 + z17 * 18446744073709551616) % 2 ^ (P - 1)) (A0) (A1) (k0) (k1) sP1 (hsl _)) (zsS (ziS (ziS zi0)) (zsS zi0 zs0)) (fun A2 k2 => ?_)
             refine xdk [(12, [])] [(10, .slice A2 (List.length (ofN B32 (2 ^ (P - 1) + (z14 + z17 * 18446744073709551616) % 2 ^ (P - 1)))) k2)] hB ?_
             refine xdz ?_
             refine ⟨(z16), (2 ^ (P - 1) + (z14 + z17 * 18446744073709551616) % 2 ^ (P - 1)), (A2), (k2), ?_, ?_, xw2 [true, true, true, true] (zsS (ziS (ziS (ziS (ziS zi0)))) (zsS zi0 zs0))⟩
             ·omega
             ·exact hl4 _
         ·rintro s' ⟨i', Sg, A1, c1, hi', hSg, hw⟩
          refine SW_weak2 hw ?_
          clear hw
          have sSg : Sm Sg := sm128 (Nat.lt_trans hSg (by decide))
          have vd : Nn (IntKind.i64.wrap (IntKind.i64.wrap (emax - emin) + 1)) (emax - emin + 1).toNat := Nn.wrap (by rw [wrap_i64 (by omega)]; have h1 := h.mn; have h2 := d.x1; omega) (by omega)
          have hd0 : 0 < (emax - emin + 1).toNat := by have := h.mn; have := d.x1; omega
          refine xg ?_
          refine xn 1 [] [(79, .slice A1 (List.length (ofN B32 Sg)) c1)] ?_
          refine xcv 80 (ct_spec_l2Word (Sg) (A1) (c1) hSg) (zsS (ziS zi0) zs0) ?_
          refine xy [(3, [3])] [] [(3, [.int .i64 3, .bool nb, .int .u64 (hiI Sg), .int .u64 (loI Sg), .int .i64 0])] ?_
          refine xg ?_
          refine xn 1 [] [(82, .pointer (some ⟨g, 0, none⟩))] ?_
          (refine xcm 83 [true] (ct_spec_l1Reader_next (g) (A) (c) (bt) (((i' : Nat) : Int)) (i') ⟨rfl⟩ hi' hx dx) (zsS zi0 zs0) (fun zz => ?_); obtain ⟨⟨z10, z11⟩, p12⟩ := zz)
          refine xn 4 [] [(85, .pointer (some ⟨g, 0, none⟩)), (84, .int .i64 (IntKind.wrap IntKind.i64 ((z11 : Int) * 256)))] ?_
          (refine xcm 86 [true] (ct_spec_l1Reader_next (g) (A) (c) (bt) ((z10 : Int)) (z10) ⟨rfl⟩ (by omega) hx dx) (zsS zi0 zs0) (fun zz => ?_); obtain ⟨⟨z13, z14⟩, p15⟩ := zz)
          refine xz [] [(11, .int .i64 (IntKind.wrap IntKind.i64 (IntKind.wrap IntKind.i64 ((z11 : Int) * 256) + (z14 : Int))))] ?_
          refine xg ?_
          refine xn 1 [] [(88, .pointer (some ⟨g, 0, none⟩))] ?_
          (refine xcm 89 [true] (ct_spec_l1Reader_next (g) (A) (c) (bt) ((z13 : Int)) (z13) ⟨rfl⟩ (by omega) hx dx) (zsS zi0 zs0) (fun zz => ?_); obtain ⟨⟨z16, z17⟩, p18⟩ := zz)
          refine xz [] [(90, .int .i64 (Int.tmod (z17 : Int) 4))] ?_
          refine SW_block ?_
          refine xr [] [(102, .bool (Int.tmod (z17 : Int) 4 == 0))] ?_
          refine xs (Int.tmod (z17 : Int) 4 == 0) (fun q6 => ?_) (fun q6 => ?_)
          ·refine xql [(4, [2]), (8, [3])] [] [(3, [.int .i64 3, .bool nb, .int .u64 (hiI Sg), .int .u64 (loI Sg), .int .i64 (IntKind.wrap IntKind.i64 (IntKind.wrap IntKind.i64 (IntKind.wrap IntKind.i64 (Int.tmod (IntKind.wrap IntKind.i64 (IntKind.wrap IntKind.i64 ((z11 : Int) * 256) + (z14 : Int))) 120 - 60) - (P : Int)) + 1))])] ?_
           refine ⟨(z16), (3 : Int), (nb), (Sg), (IntKind.wrap IntKind.i64 (IntKind.wrap IntKind.i64 (IntKind.wrap IntKind.i64 (Int.tmod (IntKind.wrap IntKind.i64 (IntKind.wrap IntKind.i64 ((z11 : Int) * 256) + (z14 : Int))) 120 - 60) - (P : Int)) + 1) : Int), ?_, ?_, ?_, xw2 [true, true, false, true] (zsS zi0 zs0)⟩
           ·omega
           ·exact hSg
           ·exact wrap_rng _
          ·refine xr [] [(112, .bool (Int.tmod (z17 : Int) 4 == 1))] ?_
           refine xs (Int.tmod (z17 : Int) 4 == 1) (fun q7 => ?_) (fun q7 => ?_)
           ·refine xql [(5, [3])] [] [(3, [.int .i64 3, .bool nb, .int .u64 (hiI Sg), .int .u64 (loI Sg), .int .i64 (IntKind.wrap IntKind.i64 (emin - (P : Int) + 1 + Int.tmod (IntKind.wrap IntKind.i64 (IntKind.wrap IntKind.i64 ((z11 : Int) * 256) + (z14 : Int))) 3))])] ?_
            refine ⟨(z16), (3 : Int), (nb), (Sg), (IntKind.wrap IntKind.i64 (emin - (P : Int) + 1 + Int.tmod (IntKind.wrap IntKind.i64 (IntKind.wrap IntKind.i64 ((z11 : Int) * 256) + (z14 : Int))) 3) : Int), ?_, ?_, ?_, xw2 [true, true, false, true] (zsS zi0 zs0)⟩
            ·omega
            ·exact hSg
            ·exact wrap_rng _
           ·refine xr [] [(119, .bool (Int.tmod (z17 : Int) 4 == 2))] ?_
            refine xs (Int.tmod (z17 : Int) 4 == 2) (fun q8 => ?_) (fun q8 => ?_)
            ·refine xql [(1, [2]), (3, [2]), (10, [3])] [] [(3, [.int .i64 3, .bool nb, .int .u64 (hiI Sg), .int .u64 (loI Sg), .int .i64 (IntKind.wrap IntKind.i64 (IntKind.wrap IntKind.i64 (IntKind.wrap IntKind.i64 (emax - (P : Int)) + 1) - Int.tmod (IntKind.wrap IntKind.i64 (IntKind.wrap IntKind.i64 ((z11 : Int) * 256) + (z14 : Int))) 3))])] ?_
             refine ⟨(z16), (3 : Int), (nb), (Sg), (IntKind.wrap IntKind.i64 (IntKind.wrap IntKind.i64 (IntKind.wrap IntKind.i64 (emax - (P : Int)) + 1) - Int.tmod (IntKind.wrap IntKind.i64 (IntKind.wrap IntKind.i64 ((z11 : Int) * 256) + (z14 : Int))) 3) : Int), ?_, ?_, ?_, xw2 [true, true, false, true] (zsS zi0 zs0)⟩
             ·omega
             ·exact hSg
             ·exact wrap_rng _
            ·refine SW_region ?_
             refine xn 8 [(3, [2]), (5, [2])] [(98, .int .i64 (IntKind.wrap IntKind.i64 (IntKind.wrap IntKind.i64 (emax - emin) + 1))), (92, .int .i64 (IntKind.wrap IntKind.i64 (IntKind.wrap IntKind.i64 ((z11 : Int) * 256) + (z14 : Int)))), (91, .int .i64 (emin - (P : Int) + 1))] ?_
             refine xqri 99 (IntKind.wrap IntKind.i64 (IntKind.wrap IntKind.i64 ((z11 : Int) * 256) + (z14 : Int))) (IntKind.wrap IntKind.i64 (IntKind.wrap IntKind.i64 (emax - emin) + 1)) ((((z11) * 256) + (z14))) ((Int.toNat (emax - emin + 1))) (Nn.w (Nn.add (Nn.w (Nn.mul ⟨rfl⟩ ⟨rfl⟩) (by omega)) ⟨rfl⟩) (by omega)) vd (by omega) (by omega) ?_
             refine xy [(11, [3])] [] [(3, [.int .i64 3, .bool nb, .int .u64 (hiI Sg), .int .u64 (loI Sg), .int .i64 (IntKind.wrap IntKind.i64 (emin - (P : Int) + 1 + ((((z11 * 256 + z14) % Int.toNat (emax - emin + 1)) : Nat) : Int)))])] ?_
             refine ⟨(z16), (3 : Int), (nb), (Sg), (IntKind.wrap IntKind.i64 (emin - (P : Int) + 1 + ((((z11 * 256 + z14) % Int.toNat (emax - emin + 1)) : Nat) : Int)) : Int), ?_, ?_, ?_, xw2 [true, true, false, true] (zsS zi0 zs0)⟩
             ·omega
             ·exact hSg
             ·exact wrap_rng _
  ·rintro s' ⟨i', cc, n2, S, q, hi', hS, hq, hw⟩
   refine SW_weak2 hw ?_
   clear hw
   have zq : Zn q q := ⟨rfl, hq.1, hq.2⟩
   obtain ⟨r, er⟩ : ∃ r, packR P emin emax W E ex cc n2 S q = r := ⟨_, rfl⟩
   have hr1 : r.1 < B128 := by rw [← er]; exact packR_lt h
   have cp := ct_spec_Pack' h f' hs cc n2 (hiI S) (loI S) S ⟨rfl, rfl⟩ hS q q zq
   rw [er] at cp
   have z7n : Nn (IntKind.u64.wrap (IntKind.i64.wrap (1 + Int.tmod (z5 : Int) 7))) (1 + z5 % 7) := by
    have e : Int.tmod (z5 : Int) 7 = ((z5 % 7 : Nat) : Int) := by rw [Int.tmod_eq_emod_of_nonneg (by omega)]; omega
    rw [e]
    exact Nn.u (Nn.wrap (by omega) (by omega)) (by omega)
   have w7 : Wd 0 (IntKind.u64.wrap (IntKind.i64.wrap (1 + Int.tmod (z5 : Int) 7))) (1 + z5 % 7) := by
    rw [z7n.out]
    exact ⟨by unfold hiI; omega, by unfold loI; omega⟩
   have b7 : 1 + z5 % 7 < B128 := Nat.lt_trans (show 1 + z5 % 7 < 8 by omega) (by decide)
   have zq0 : Zn (emin - (P : Int) + 1) (emin - (P : Int) + 1) := ⟨rfl, hq0.1, hq0.2⟩
   obtain ⟨r1, r2⟩ := r
   dsimp only at cp hr1
   cases r2 with
   | true =>
    refine xg ?_
    refine xn 2 [(1, [2])] [(185, .agg #[.int .i64 cc, .bool n2, .int .u64 (hiI S), .int .u64 (loI S), .int .i64 q]), (184, .int .i64 f')] ?_
    refine xcv 186 cp zs0 ?_
    refine xn 6 [] [(188, .bool true), (187, .agg #[.int .u64 (hiI r1), .int .u64 (loI r1)])] ?_
    refine xb 12 [.int .u64 0, .int .u64 0] 25 (fun g3 => ?_)
    refine xy [(7, [3])] [(13, .bool true)] [(3, [.int .u64 (hiI r1), .int .u64 (loI r1)])] ?_
    refine SW_seq ?_
    refine xr [] [(190, .bool false)] ?_
    refine xs0 ?_
    refine SW_skip ?_
    refine xq [(0, [3]), (1, [1])] [] [(1, [.int .u64 (hiI r1), .int .u64 (loI r1)])] ?_
    refine SW_ret ?_
    refine xmeg (.agg #[.int .u64 (hiI r1), .int .u64 (loI r1)]) [1] ?_
    exact ⟨⟨(i', r1), hi', hr1⟩, [true], rfl, rfl, zs0⟩
   | false =>
    refine xg ?_
    refine xn 2 [(1, [2])] [(185, .agg #[.int .i64 cc, .bool n2, .int .u64 (hiI S), .int .u64 (loI S), .int .i64 q]), (184, .int .i64 f')] ?_
    refine xcv 186 cp zs0 ?_
    refine xn 6 [] [(188, .bool false), (187, .agg #[.int .u64 (hiI r1), .int .u64 (loI r1)])] ?_
    refine xb 12 [.int .u64 0, .int .u64 0] 25 (fun g3 => ?_)
    refine xy [(7, [3])] [(13, .bool false)] [(3, [.int .u64 (hiI r1), .int .u64 (loI r1)])] ?_
    refine SW_seq ?_
    refine xr [] [(190, .bool true)] ?_
    refine xs1 ?_
    refine SW_region ?_
    refine xn 9 [] [(200, .agg #[.int .i64 2, .bool nb, .int .u64 0, .int .u64 (IntKind.wrap IntKind.u64 (IntKind.wrap IntKind.i64 (1 + Int.tmod (z5 : Int) 7))), .int .i64 (emin - (P : Int) + 1)]), (192, .int .i64 f')] ?_
    refine xcv 201 (ct_spec_Pack' h (f') hs (2) (nb) (0) (IntKind.wrap IntKind.u64 (IntKind.wrap IntKind.i64 (1 + Int.tmod (z5 : Int) 7))) (1 + z5 % 7) w7 b7 (emin - (P : Int) + 1) (emin - (P : Int) + 1) zq0) zs0 ?_
    refine xy [(13, [3])] [] [(3, [.int .u64 (hiI (Prod.fst (packR P emin emax W E ex 2 nb (1 + z5 % 7) (emin - (P : Int) + 1)))), .int .u64 (loI (Prod.fst (packR P emin emax W E ex 2 nb (1 + z5 % 7) (emin - (P : Int) + 1))))])] ?_
    refine xq [(0, [3]), (1, [1])] [] [(1, [.int .u64 (hiI (Prod.fst (packR P emin emax W E ex 2 nb (1 + z5 % 7) (emin - (P : Int) + 1)))), .int .u64 (loI (Prod.fst (packR P emin emax W E ex 2 nb (1 + z5 % 7) (emin - (P : Int) + 1))))])] ?_
    refine SW_ret ?_
    refine xmeg (.agg #[.int .u64 (hiI (Prod.fst (packR P emin emax W E ex 2 nb (1 + z5 % 7) (emin - (P : Int) + 1)))), .int .u64 (loI (Prod.fst (packR P emin emax W E ex 2 nb (1 + z5 % 7) (emin - (P : Int) + 1))))]) [1] ?_
    exact ⟨⟨(i', (packR P emin emax W E ex 2 nb (1 + z5 % 7) (emin - (P : Int) + 1)).1), hi', packR_lt h⟩, [true], rfl, rfl, zs0⟩
theorem ct_spec_DrawUnpack (A : Option Addr) (c : Nat) (bt : List Int) (hx : bt.length ≤ 1048576) (dx : Dig 256 bt) :
  Ct Tryd.prog 8 [.slice A bt.length c] [Row .u8 A c bt] (γ := {p : Int × Nat // (-1000 ≤ p.1 ∧ p.1 ≤ 1000) ∧ p.2 < B128}) (fun p => .tuple #[.int .i64 p.1.1, .agg #[.int .u64 (hiI p.1.2), .int .u64 (loI p.1.2)]]) (fun _ => []) := by
 have h0 : 0 ≤ bt.length := Nat.zero_le _
 refine ct_of Tryd.func8 rfl (by kernel_rfl) (fun B w0 => ?_)
 refine xg ?_
 refine xn 1 [] [(2, .int .i64 0)] ?_
 refine xb 3 [.int .u64 0, .int .u64 0] 25 (fun g0 => ?_)
 refine xz [] [] ?_
 refine xg ?_
 refine xn 2 [] [(7, .agg #[.slice A (List.length bt) c, .int .i64 0])] ?_
 refine xb 8 [.slice A (List.length bt) c, .int .i64 0] 75 (fun g1 => ?_)
 refine xz [] [(4, .pointer (some ⟨g1, 0, none⟩))] ?_
 refine xg ?_
 refine xn 1 [] [(9, .pointer (some ⟨g1, 0, none⟩))] ?_
 (refine xcm 10 [false, true] (ct_spec_l1Reader_format (g1) (A) (c) (bt) (0) (0) ⟨rfl⟩ h0 hx dx) (zsS zi0 zs0) (fun zz => ?_); obtain ⟨⟨z0, z1⟩, p2⟩ := zz)
 refine xz [] [(5, .int .i64 z1)] ?_
 refine xg ?_
 refine xn 3 [] [(13, .int .i64 z1), (12, .pointer (some ⟨g1, 0, none⟩)), (11, .int .i64 z1)] ?_
 (refine xcm 14 [false, true] (ct_spec_l1Reader_word (z1) (g1) (A) (c) (bt) ((z0 : Int)) (z0) ⟨rfl⟩ (by omega) hx dx) (zsS zi0 zs0) (fun zz => ?_); obtain ⟨⟨z3, z4⟩, p5⟩ := zz)
 refine xy [(5, [0])] [(2, .int .i64 z1)] [(0, [.int .u64 (hiI z4), .int .u64 (loI z4)])] ?_
 refine SW_ret ?_
 refine xe ?_ (.tuple #[.int .i64 z1, .agg #[.int .u64 (hiI z4), .int .u64 (loI z4)]]) [0] ?_ ?_
 ·exact ⟨(z1, z4), p2.2, p5.2⟩
 ·rfl
 ·exact zs0
end Go.Proofs.YtodhmbbiifhiaaaDoor.M
end
section
namespace Go.Proofs.YtodhmbbiifhiaaaDoor.X
open Go.RowKit Go.Proofs.YtodhmbbiifhiaaaDoorV.PrintWords Go.Proofs.YtodhmbbiifhiaaaDoorV.PrintLast
set_option linter.unusedVariables false
set_option linter.unusedSimpArgs false
abbrev mkB (g : Nat) (cs : List Value) (e : TypeId) (mk : Nat × Nat) : Box := ⟨g, [], .ob (.cells cs.toArray e mk)⟩
theorem run_mark {P : Program} {w : World} {g n c : Nat} {cs : List Value} {t e : TypeId} (hh : w.heap[g]? = some (.cells cs.toArray e (0, 0))) (ht : P.underlying t = some (.slice e)) (he : P.underlying e = some (.int .u8)) :
    (convert t t (.slice (some ⟨g, 0, none⟩) n c)).run P w = .ok (.slice (some ⟨g, 0, none⟩) n c) { w with heap := w.heap.setIfInBounds g (.cells cs.toArray e (cs.length, cs.length + 1)) } := by
  have hsh : w.shape? g = some (e, cs.length) := by
    unfold World.shape?
    rw [hh]
    simp
  have hfr : w.freeze ⟨g, cs.length, none⟩ 1 = { w with heap := w.heap.setIfInBounds g (.cells cs.toArray e (cs.length, cs.length + 1)) } := by
    unfold World.freeze
    rw [if_neg (by decide)]
    congr 1
    obtain ⟨hlt, hg⟩ := Array.getElem?_eq_some_iff.1 hh
    apply Array.ext
    · simp
    · intro i h1 h2
      rw [Array.getElem_modify]
      by_cases h : g = i
      · subst h
        rw [if_pos rfl, hg]
        simp
      · rw [if_neg h, Array.getElem_setIfInBounds]
        rw [if_neg h]
  simp [convert, run_underlying ht, run_underlying he, markStringish, hsh]
  exact hfr
theorem row_mk {w : World} {g c : Nat} {k : IntKind} {xs : List Int} {ty : TypeId} {mk : Nat × Nat} (h : w.heap[g]? = some (.cells (xs.map (Value.int k)).toArray ty mk)) (hx : xs.length ≤ 9223372036854775807) (hc : xs.length ≤ c) : Row k (some ⟨g, 0, none⟩) c xs w := by
  refine ⟨⟨rfl, hx, fun hp => ⟨⟨g, 0, none⟩, rfl, fun i x hi => ⟨[.int k x], rfl, rfl, fun m u hu => ?_⟩⟩⟩, hc⟩
  match m, hu with
  | 0, hu =>
    cases hu
    rw [add_base, Nat.add_zero]
    show w.cell? ⟨g, i * 1, none⟩ = _
    rw [Nat.mul_one, cell_of_row w g i _ ty mk h]
    simp [hi]
  | m + 1, hu => simp at hu
theorem Holds.fzM {X : Cx} {s : St} {w : World} (hw : Holds X s w) {h : Nat} {g c : Nat} {k : IntKind} {xs : List Int} {ty : TypeId} {mk : Nat × Nat} (hb : s.bs[h]? = some (mkB g (xs.map (Value.int k)) ty mk)) (hx : xs.length ≤ 9223372036854775807) (hc : xs.length ≤ c) (e : List (Nat × Value)) : Holds X ⟨e, delB s.bs h, Row k (some ⟨g, 0, none⟩) c xs :: s.fs⟩ w := by
  have h0 := hw.box _ (List.mem_of_getElem? hb)
  have hd := hw.del h e
  refine hd.facts [_] (fun G hG => ?_)
  rw [List.mem_singleton.1 hG]
  intro W' hW
  refine row_mk (ty := ty) (mk := mk) ((hW g ⟨fun hB => ?_, fun b hm he => ?_⟩ (blk_lt h0)).trans h0) hx hc
  · have h1 := hw.old g hB
    exact (hw.new _ (List.mem_of_getElem? hb)).elim (fun h2 => absurd h1.1 (Nat.not_lt.2 h2)) h1.2
  · exact delB_ne hw.nodup hb hm he.symm
section
variable {X : Cx} {env : List (Nat × Value)} {bs : List Box} {fs : List Fact} {K : Exit → St → Prop} {ops : Array Oper} {j : Nat}
theorem RW_fzM {s0 : St} {ds : List Nat} {lv : Bool} {l : List Bool} (h c g : Nat) (k : IntKind) (xs : List Int) (ty : TypeId) (mk : Nat × Nat) (hx : xs.length ≤ 9223372036854775807) (hc : xs.length ≤ c) (hk : RW X ops ds s0 lv l ⟨env, delB bs h, Row k (some ⟨g, 0, none⟩) c xs :: fs⟩ K) (hb : bs[h]? = some (mkB g (xs.map (Value.int k)) ty mk) := by kernel_rfl) : RW X ops ds s0 lv l ⟨env, bs, fs⟩ K :=
  fun a w ha hw hS => hk a w ⟨ha.size, ha.defers, ha.env⟩ (hw.fzM hb hx hc env) hS
theorem xdmk {s0 : St} {ds : List Nat} {lv : Bool} {l : List Bool} (i h d g n c : Nat) (cs : List Value) (e : TypeId) (m2 : List Bool) {o : Oper} {t : TypeId} {x : Operand} (hf0 : Sub s0.fs fs) (hk : RW X ops ds s0 lv (l.set i true) ⟨(d, .slice (some ⟨g, 0, none⟩) n c) :: env, putB bs h (.cells cs.toArray e (cs.length, cs.length + 1)), fs⟩ K)
    (hrd : (readyT (rtab .any ops).2 l == [i]) = true := by kernel_rfl) (hb : bs[h]? = some ⟨g, cs, e⟩ := by kernel_rfl) (ho : ops[i]? = some o := by rfl) (hop : o.op = .convert t t x := by rfl) (hg : guardD ops env o = some true := by kernel_rfl) (hf : fitO X.n env o = true := by kernel_rfl) (hd : o.dst = some d := by rfl)
    (hx : evD env x = .slice (some ⟨g, 0, none⟩) n c := by kernel_rfl) (ht : X.P.underlying t = some (.slice e) := by kernel_rfl) (he : X.P.underlying e = some (.int .u8) := by kernel_rfl)
    (h2 : pick (putB bs h (.cells cs.toArray e (cs.length, cs.length + 1))) m2 = s0.bs := by kernel_rfl) : RW X ops ds s0 lv l ⟨env, bs, fs⟩ K := by
  obtain ⟨f1, f2, f3⟩ := fitO_spec hf
  refine RW_on (s := ⟨env, bs, fs⟩) rfl ho hg hrd (fun a w ha hw hS => ?_)
  have hrun := run_mark (P := X.P) (n := n) (c := c) (hw.box _ (List.mem_of_getElem? hb)) ht he
  have hex := putB_ext (w := w) (.cells cs.toArray e (cs.length, cs.length + 1)) hb rfl hw.box hw.nodup
  have hr2 : (execOp (evD env) o).run X.P w = .ok (.value (.slice (some ⟨g, 0, none⟩) n c)) { w with heap := w.heap.setIfInBounds g (.cells cs.toArray e (cs.length, cs.length + 1)) } := by
    unfold execOp
    simp only [hop, hx, Sem.run_bind, hrun]
    rfl
  have hw2 := hw.ext hex env
  have hs0 : Holds X s0 { w with heap := w.heap.setIfInBounds g (.cells cs.toArray e (cs.length, cs.length + 1)) } := by
    have h3 := hw2.sub (bs' := s0.bs) (fun b hb => pick_mem h2 b hb) (by rw [← h2]; exact ((pick_sub _ m2).map Box.id).nodup hw2.nodup) s0.env
    exact ⟨h3.below, h3.box, h3.new, h3.nodup, fun F hF => h3.fact F (hf0.mem F hF), h3.old⟩
  unfold Oper.wp
  rw [ha.exec f2 f3, hr2, Oper.upon_value, hd]
  have ha' : Agree X.fr ⟨env, putB bs h (.cells cs.toArray e (cs.length, cs.length + 1)), fs⟩ a := ⟨ha.size, ha.defers, ha.env⟩
  exact ⟨fun _ _ => hs0, hk _ _ (ha'.put (some d) (by rw [← hd]; exact dstOk_lt f1) _) (hw2.put (some d) _) (fun _ => hs0)⟩
end
end Go.Proofs.YtodhmbbiifhiaaaDoor.X
end
section
namespace Go.Proofs.YtodhmbbiifhiaaaDoor.M
open Go.RowKit Go.Proofs.YtodhmbbiifhiaaaDoor.G Go.Proofs.YtodhmbbiifhiaaaDoorV.PrintWords Go.Proofs.YtodhmbbiifhiaaaDoorV.PrintLast Go.Proofs.YtodhmbbiifhiaaaDoor.X
set_option linter.unusedVariables false
set_option linter.unusedSimpArgs false
theorem pack_nan {P : Nat} {emin emax : Int} {W E : Nat} {ex : Bool} (h : Fmt2 P emin emax W E ex) (hx1 : 1 ≤ emax) : ∃ N, N < B128 ∧ packR P emin emax W E ex 5 false 0 0 = (N, true) ∧ unpN P emin emax W E ex N = (5, false, 0, 0, 0) := by
 have p3 := h.p3
 have h1 := h.toFmt
 have e0 : 0 < 2 ^ E := Nat.pow_pos (by decide)
 have tp := h.top
 have hE : 2 ≤ 2 ^ E := by omega
 have hr : 2 ^ (P - 2) < 2 ^ (P - 1) := Nat.pow_lt_pow_right (by decide) (by omega)
 have hr0 : 0 < 2 ^ (P - 2) := Nat.pow_pos (by decide)
 have hd : decide (2 ^ E - 1 ≠ 0) = true := decide_eq_true (by omega)
 have hu := unp_make (emin := emin) (emax := emax) h1 false (2 ^ E - 1) (2 ^ (P - 2)) (by omega) hr
 have hlt := makeN_lt h1 false (decide (2 ^ E - 1 ≠ 0)) (2 ^ E - 1) (2 ^ (P - 2)) (by omega) hr
 rw [hd] at hu hlt
 have hq : partsOf P emin emax E (2 ^ E - 1) false (2 ^ (P - 2)) = (5, false, 0, 0, 0) := by
  unfold partsOf
  rw [if_pos rfl, if_neg (by omega)]
 rw [hq] at hu
 have hu' : unpN P emin emax W E ex (makeN P W ex false true (2 ^ E - 1) (2 ^ (P - 2))) = (5, false, hiI 0, loI 0, 0) := hu
 refine ⟨_, Nat.lt_of_lt_of_le hlt (Nat.pow_le_pow_right (by decide) h1.w2), ?_, hu⟩
 rw [packR_some (w := makeN P W ex false true (2 ^ E - 1) (2 ^ (P - 2))) (by unfold packN; rw [if_neg (by decide), if_neg (by decide), if_pos rfl]), if_pos hu']
theorem ct_impl_ParseExact_nan {P : Nat} {emin emax : Int} {W E : Nat} {ex : Bool} (f : Int) (d : FD f P emin emax W E ex) (hf : 0 ≤ f ∧ f < 4) (N : Nat) (hN : packR P emin emax W E ex 5 false 0 0 = (N, true)) (A : Option Addr) (c : Nat) :
  CtV Tryd.prog 12 [.int .i64 f, .slice A 3 c] [Tabled, Row .u8 A c [110, 97, 110]] (.agg #[.int .u64 (hiI N), .int .u64 (loI N), .int .i64 0, .int .i64 0, .int .i64 0]) := by
 have cp0 := ct_impl_Pack d.h f d.lf 5 false 0 (by decide) 0 (by decide)
 rw [hN] at cp0
 have cp : CtV Tryd.prog 11 [.int .i64 f, .agg #[.int .i64 5, .bool false, .int .u64 0, .int .u64 0, .int .i64 0]] [Tabled] (.tuple #[.agg #[.int .u64 (hiI N), .int .u64 (loI N)], .bool true]) := cp0
 clear cp0
 have ci : CtV Tryd.prog 58 [.int .i64 f] [] (.bool true) := by
  have z1 : decide (f ≥ 0) = true := decide_eq_true hf.1
  have z2 : decide (f < 4) = true := decide_eq_true hf.2
  refine ct_of Tryd.func58 rfl (by kernel_rfl) (fun B w0 => ?_)
  refine xr [] [(2, .bool false)] ?_
  refine xg ?_
  refine xn 3 [] [(5, .bool (decide (f ≥ 0)))] ?_
  refine xkt 5 z1 ?_
  refine xz [] [(2, .bool (decide (f < 4)))] ?_
  refine SW_ret ?_
  refine xe () (.bool (decide (f < 4))) [] ?_ trivial
  rw [z2]
 have cs := ct_impl_ScanDecimal_nan A c
 refine ct_of Tryd.func12 rfl (by kernel_rfl) (fun B w0 => ?_)
 refine xg ?_
 refine xb 4 [.int .u64 0, .int .u64 0, .int .i64 0, .int .i64 0, .int .i64 0] 34 (fun g0 => ?_)
 refine xz [] [] ?_
 refine SW_seq ?_
 refine xg ?_
 refine xn 1 [] [(11, .int .i64 f)] ?_
 refine xcv 12 ci zs0 ?_
 refine xz [] [(13, .bool false)] ?_
 refine xs0 ?_
 refine SW_skip ?_
 refine xg ?_
 refine xn 1 [] [(15, .slice A 3 c)] ?_
 refine xcv 16 cs (zsS (ziS zi0) zs0) ?_
 refine xb 5 [.int .i64 0, .bool false, .slice none 0 0, .int .i64 0, .int .i64 0, .int .i64 0] 96 (fun g1 => ?_)
 refine xy [(3, [1])] [] [(1, [.int .i64 3, .bool false, .slice none 0 0, .int .i64 0, .int .i64 0, .int .i64 0])] ?_
 refine SW_seq ?_
 refine xr [(1, [1])] [(19, .bool false)] ?_
 refine xs0 ?_
 refine SW_skip ?_
 refine SW_seq ?_
 refine xr [(2, [1])] [(27, .int .i64 3)] ?_
 refine SW_block ?_
 refine xr [] [(28, .bool false)] ?_
 refine xs0 ?_
 refine xr [] [(41, .bool true)] ?_
 refine xs1 ?_
 refine xg ?_
 refine xn 2 [] [(45, .agg #[.int .i64 5, .bool false, .int .u64 0, .int .u64 0, .int .i64 0]), (44, .int .i64 f)] ?_
 refine xcv 46 cp (zsS zi0 zs0) ?_
 refine xn 6 [] [(48, .bool true), (47, .agg #[.int .u64 (hiI N), .int .u64 (loI N)])] ?_
 refine xb 8 [.int .u64 0, .int .u64 0] 25 (fun g2 => ?_)
 refine xy [(7, [2])] [] [(2, [.int .u64 (hiI N), .int .u64 (loI N)])] ?_
 refine xq [(0, [2]), (2, [0])] [] [(0, [.int .u64 (hiI N), .int .u64 (loI N), .int .i64 0, .int .i64 0, .int .i64 0])] ?_
 refine SW_ret ?_
 refine xe () (.agg #[.int .u64 (hiI N), .int .u64 (loI N), .int .i64 0, .int .i64 0, .int .i64 0]) [0] ?_ trivial
 rfl
theorem ct_laws_FnPack (A : Option Addr) (c : Nat) (bt : List Int) (dx : Dig 256 bt) : CtV Tryd.prog 3 [.slice A bt.length c] [Tabled, Row .u8 A c bt] (.bool true) := by
 by_cases hx : bt.length ≤ 1048576
 ·have z0 : decide ((bt.length : Int) > 1048576) = false := decide_eq_false (by omega)
  refine ct_of Tryd.func3 rfl (by kernel_rfl) (fun B w0 => ?_)
  have noweak := True.intro
  refine xr [] [(2, .bool false)] ?_
  refine SW_seq ?_
  refine xr [] [(10, .bool (decide ((((List.length bt) : Nat) : Int) > 1048576)))] ?_
  refine xsf z0 ?_
  refine SW_skip ?_
  refine xg ?_
  refine xn 1 [] [(12, .slice A (List.length bt) c)] ?_
  (refine xck 13 (ct_spec_DrawUnpack (A) (c) (bt) hx dx) (zsS (ziS zi0) zs0) (fun zz => ?_); obtain ⟨⟨z1, z2⟩, p3⟩ := zz)
  refine xn 5 [] [(15, .agg #[.int .u64 (hiI z2), .int .u64 (loI z2)]), (14, .int .i64 z1)] ?_
  refine xb 4 [.int .u64 0, .int .u64 0] 25 (fun g0 => ?_)
  refine xy [(7, [0])] [(3, .int .i64 z1)] [(0, [.int .u64 (hiI z2), .int .u64 (loI z2)])] ?_
  refine xg ?_
  refine xn 2 [(1, [0])] [(17, .agg #[.int .u64 (hiI z2), .int .u64 (loI z2)]), (16, .int .i64 z1)] ?_
  rcases fd_or z1 with ⟨hf4, P, emin, emax, W, E, ex, d⟩ | ⟨_, hs, hl⟩
  ·have cu := ct_impl_Unpack d.h.toFmt z1 d.lf z2 p3.2
   have cs := ct_spec_Unpack d.h.toFmt z1 d.sf z2 p3.2
   rcases unp_form d.h z2 with hu | hu | ⟨cc, neg, S, q, hu, hSl, hv⟩
   ·rw [hu, badP, prtV] at cu cs
    have cp0 := ct_impl_Pack d.h z1 d.lf 0 false 0 (by decide) 0 (by decide)
    rw [packR_none (by unfold packN; rw [if_neg (by decide), if_neg (by decide), if_neg (by decide), if_neg (by decide), if_neg (by decide)])] at cp0
    have cp : CtV Tryd.prog 11 [.int .i64 z1, .agg #[.int .i64 0, .bool false, .int .u64 0, .int .u64 0, .int .i64 0]] [Tabled] (.tuple #[.agg #[.int .u64 0, .int .u64 0], .bool false]) := cp0
    clear cp0 noweak
    refine xcv 18 cu (zsS zi0 zs0) ?_
    refine xb 5 [.int .i64 0, .bool false, .int .u64 0, .int .u64 0, .int .i64 0] 29 (fun g1 => ?_)
    refine xy [(4, [1])] [] [] ?_
    refine SW_seq ?_
    refine xd (fun hB => ?_)
    refine xdk [(0, [1]), (1, []), (2, [0])] [(21, .agg #[.int .u64 (hiI z2), .int .u64 (loI z2)]), (20, .int .i64 z1), (19, .agg #[.int .i64 0, .bool false, .int .u64 0, .int .u64 0, .int .i64 0])] hB ?_
    refine xdv 3 22 cs zs0 ?_
    refine xdk [(4, [])] [(23, .bool false)] hB ?_
    refine xdz ?_
    refine xs0 ?_
    refine SW_skip ?_
    refine xg ?_
    refine xn 2 [(1, [1])] [(26, .agg #[.int .i64 0, .bool false, .int .u64 0, .int .u64 0, .int .i64 0]), (25, .int .i64 z1)] ?_
    refine xcv 27 cp (zsS zi0 zs0) ?_
    refine xn 6 [] [(29, .bool false), (28, .agg #[.int .u64 0, .int .u64 0])] ?_
    refine xb 6 [.int .u64 0, .int .u64 0] 25 (fun g2 => ?_)
    refine xy [(7, [2])] [(7, .bool false)] [] ?_
    refine SW_seq ?_
    refine xr [(1, [1])] [(31, .int .i64 0)] ?_
    refine SW_block ?_
    refine xr [] [(32, .bool true)] ?_
    refine xs1 ?_
    refine xr [(3, [2])] [(2, .bool true)] ?_
    refine SW_ret ?_
    refine xe () (.bool true) [] ?_ trivial
    rfl
   ·rw [hu, prtV] at cu cs
    obtain ⟨N, hNB, hN, hNu⟩ := pack_nan d.h d.x1
    have cu2 := ct_impl_Unpack d.h.toFmt z1 d.lf N hNB
    rw [hNu, prtV] at cu2
    have cpe := fun A c => ct_impl_ParseExact_nan z1 d hf4 N hN A c
    have cp0 := ct_impl_Pack d.h z1 d.lf 5 false 0 (by decide) 0 (by decide)
    rw [hN] at cp0
    have cp : CtV Tryd.prog 11 [.int .i64 z1, .agg #[.int .i64 5, .bool false, .int .u64 0, .int .u64 0, .int .i64 0]] [Tabled] (.tuple #[.agg #[.int .u64 (hiI N), .int .u64 (loI N)], .bool true]) := cp0
    clear cp0 noweak
    refine xcv 18 cu (zsS zi0 zs0) ?_
    refine xb 5 [.int .i64 0, .bool false, .int .u64 0, .int .u64 0, .int .i64 0] 29 (fun g1 => ?_)
    refine xy [(4, [1])] [] [(1, [.int .i64 5, .bool false, .int .u64 0, .int .u64 0, .int .i64 0])] ?_
    refine SW_seq ?_
    refine xd (fun hB => ?_)
    refine xdk [(0, [1]), (1, []), (2, [0])] [(21, .agg #[.int .u64 (hiI z2), .int .u64 (loI z2)]), (20, .int .i64 z1), (19, .agg #[.int .i64 5, .bool false, .int .u64 0, .int .u64 0, .int .i64 0])] hB ?_
    refine xdv 3 22 cs zs0 ?_
    refine xdk [(4, [])] [(23, .bool false)] hB ?_
    refine xdz ?_
    refine xs0 ?_
    refine SW_skip ?_
    refine xg ?_
    refine xn 2 [(1, [1])] [(26, .agg #[.int .i64 5, .bool false, .int .u64 0, .int .u64 0, .int .i64 0]), (25, .int .i64 z1)] ?_
    refine xcv 27 cp (zsS zi0 zs0) ?_
    refine xn 6 [] [(29, .bool true), (28, .agg #[.int .u64 (hiI N), .int .u64 (loI N)])] ?_
    refine xb 6 [.int .u64 0, .int .u64 0] 25 (fun g2 => ?_)
    refine xy [(7, [2])] [(7, .bool true)] [(2, [.int .u64 (hiI N), .int .u64 (loI N)])] ?_
    refine SW_seq ?_
    refine xr [(1, [1])] [(31, .int .i64 5)] ?_
    refine SW_block ?_
    refine xr [] [(32, .bool false)] ?_
    refine xs0 ?_
    refine xr [] [(41, .bool true)] ?_
    refine xs1 ?_
    refine xd (fun hB => ?_)
    refine xdk [(0, []), (1, []), (2, []), (3, [2]), (5, [1])] [(48, .agg #[.int .i64 5, .bool false, .int .u64 0, .int .u64 0, .int .i64 0]), (46, .agg #[.int .u64 (hiI N), .int .u64 (loI N)]), (45, .int .i64 z1), (44, .bool true)] hB ?_
    refine xdv 4 47 cu2 (zsS zi0 zs0) ?_
    refine xdk [(6, []), (7, []), (8, []), (9, []), (14, [2])] [(57, .agg #[.int .u64 (hiI N), .int .u64 (loI N)]), (52, .int .i64 z1), (51, .bool true)] hB ?_
    refine xdbl 10 53 [.int .u8 110, .int .u8 97, .int .u8 110] 5 3 (fun g3 => ?_)
    refine xdmk 11 3 54 g3 3 3 [.int .u8 110, .int .u8 97, .int .u8 110] 5 [true, true, true, false] (zsS zi0 (zsS (ziS zi0) zs0)) ?_
    refine RW_fzM 3 3 g3 .u8 [110, 97, 110] 5 (3, 4) (by decide) (by decide) ?_
    refine xdv 12 55 (cpe _ _) (zsS (ziS zi0) (zsS zi0 zs0)) ?_
    refine xdk [(13, [])] [(56, .agg #[.int .u64 (hiI N), .int .u64 (loI N)])] hB ?_
    refine xdw 15 58 (.bool ((hiI N == hiI N) && (loI N == loI N))) hB (fun w _ _ => run_eql rfl (by kernel_rfl) (by kernel_rfl) (by kernel_rfl) w (eq_word _ _ _ _ _ w)) ?_
    refine xdk [(16, []), (17, [])] [(2, .bool (hiI N == hiI N && loI N == loI N))] hB ?_
    refine xdz ?_
    refine SW_ret ?_
    refine xe () (.bool (hiI N == hiI N && loI N == loI N)) [] ?_ trivial
    simp
   ·rw [hu, prtV] at cu cs
    have hw := unp_word d.h hu hv
    have hpk := pack_word (neg := neg) d.h hv
    rw [← hw] at hpk
    have p1 := d.h.toFmt.p1
    have m0 := d.h.toFmt.m0
    have m1 := d.h.toFmt.m1
    have hP : (2 : Nat) ^ P ≤ 2 ^ 128 := Nat.pow_le_pow_right (by decide) (by omega)
    have hSB : S < B128 := Nat.lt_of_lt_of_le hSl hP
    have hq : -9223372036854775808 ≤ q ∧ q ≤ 9223372036854775807 := by
     rcases hv with ⟨_, _, rfl⟩ | ⟨_, _, rfl⟩ | ⟨_, _, _, rfl⟩ | ⟨_, _, _, _, _⟩ <;> omega
    have cp := ct_impl_Pack d.h z1 d.lf cc neg S hSB q hq
    rw [hpk] at cp
    have hcc : cc ≠ 0 ∧ cc ≠ 5 := by rcases hv with ⟨rfl, _⟩ | ⟨rfl, _⟩ | ⟨rfl, _⟩ | ⟨rfl, _⟩ <;> decide
    have y1 : (cc == 0) = false := by rw [beq_eq_false_iff_ne]; exact hcc.1
    have ye : (!(cc == cc && (neg == neg && (hiI S == hiI S && loI S == loI S && q == q)))) = false := by simp
    dsimp only at cu cs
    have y2 : (cc == 5) = false := by rw [beq_eq_false_iff_ne]; exact hcc.2
    clear noweak
    refine xcv 18 cu (zsS zi0 zs0) ?_
    refine xb 5 [.int .i64 0, .bool false, .int .u64 0, .int .u64 0, .int .i64 0] 29 (fun g1 => ?_)
    refine xy [(4, [1])] [] [(1, [.int .i64 cc, .bool neg, .int .u64 (hiI S), .int .u64 (loI S), .int .i64 q])] ?_
    refine SW_seq ?_
    refine xd (fun hB => ?_)
    refine xdk [(0, [1]), (1, []), (2, [0])] [(21, .agg #[.int .u64 (hiI z2), .int .u64 (loI z2)]), (20, .int .i64 z1), (19, .agg #[.int .i64 cc, .bool neg, .int .u64 (hiI S), .int .u64 (loI S), .int .i64 q])] hB ?_
    refine xdv 3 22 cs zs0 ?_
    refine xdw 4 23 (.bool (!((cc == cc) && ((neg == neg) && (((hiI S == hiI S) && (loI S == loI S)) && (q == q)))))) hB (fun w _ _ => run_neq rfl (by kernel_rfl) (by kernel_rfl) (by kernel_rfl) w (eq_parts _ _ _ _ _ _ _ _ _ _ _ w)) ?_
    refine xdz ?_
    refine xsf ye ?_
    refine SW_skip ?_
    refine xg ?_
    refine xn 2 [(1, [1])] [(26, .agg #[.int .i64 cc, .bool neg, .int .u64 (hiI S), .int .u64 (loI S), .int .i64 q]), (25, .int .i64 z1)] ?_
    refine xcv 27 cp (zsS zi0 zs0) ?_
    refine xn 6 [] [(29, .bool true), (28, .agg #[.int .u64 (hiI z2), .int .u64 (loI z2)])] ?_
    refine xb 6 [.int .u64 0, .int .u64 0] 25 (fun g2 => ?_)
    refine xy [(7, [2])] [(7, .bool true)] [(2, [.int .u64 (hiI z2), .int .u64 (loI z2)])] ?_
    refine SW_seq ?_
    refine xr [(1, [1])] [(31, .int .i64 cc)] ?_
    refine SW_block ?_
    refine xr [] [(32, .bool (cc == 0))] ?_
    refine xsf y1 ?_
    refine xr [] [(41, .bool (cc == 5))] ?_
    refine xsf y2 ?_
    refine SW_skip ?_
    refine xg ?_
    refine xn 4 [(2, [2]), (3, [0])] [(63, .agg #[.int .u64 (hiI z2), .int .u64 (loI z2)]), (62, .agg #[.int .u64 (hiI z2), .int .u64 (loI z2)]), (61, .bool true)] ?_
    refine xv 64 (.bool ((hiI z2 == hiI z2) && (loI z2 == loI z2))) (fun w _ _ => run_eql rfl (by kernel_rfl) (by kernel_rfl) (by kernel_rfl) w (eq_word _ _ _ _ _ w)) ?_
    refine xz [] [(2, .bool (hiI z2 == hiI z2 && loI z2 == loI z2))] ?_
    refine SW_ret ?_
    refine xe () (.bool (hiI z2 == hiI z2 && loI z2 == loI z2)) [] ?_ trivial
    simp
  ·have cu := ct_impl_Unpack' z1 hl (hiI z2) (loI z2)
   have cs := ct_spec_Unpack' z1 hs (hiI z2) (loI z2)
   have cp : CtV Tryd.prog 11 [.int .i64 z1, .agg #[.int .i64 0, .bool false, .int .u64 0, .int .u64 0, .int .i64 0]] [Tabled] (.tuple #[.agg #[.int .u64 0, .int .u64 0], .bool false]) := by
    refine ct_of Tryd.func11 rfl (by kernel_rfl) (fun B w0 => ?_)
    clear noweak
    refine xg ?_
    refine xb 3 [.int .i64 0, .bool false, .int .u64 0, .int .u64 0, .int .i64 0] 29 (fun g1 => ?_)
    refine xb 4 [.int .u64 0, .int .u64 0] 25 (fun g2 => ?_)
    refine xz [] [(5, .bool false)] ?_
    refine xg ?_
    refine xn 1 [] [(12, .int .i64 z1)] ?_
    refine xcv 13 (ct_impl_layoutOf' (z1) hl) (zsS zi0 zs0) ?_
    refine xn 5 [] [(15, .bool false), (14, .agg #[.int .i64 0, .int .i64 0, .int .i64 0, .int .i64 0, .int .i64 0, .bool false])] ?_
    refine xb 6 [.int .i64 0, .int .i64 0, .int .i64 0, .int .i64 0, .int .i64 0, .bool false] 81 (fun g3 => ?_)
    refine xy [(6, [2])] [(7, .bool false)] [] ?_
    refine SW_seq ?_
    refine xr [] [(17, .bool true)] ?_
    refine xs1 ?_
    refine xq [(1, [1])] [(5, .bool false)] [] ?_
    refine SW_ret ?_
    refine xe () (.tuple #[.agg #[.int .u64 0, .int .u64 0], .bool false]) [1] ?_ trivial
    rfl
   clear noweak
   refine xcv 18 cu (zsS zi0 zs0) ?_
   refine xb 5 [.int .i64 0, .bool false, .int .u64 0, .int .u64 0, .int .i64 0] 29 (fun g1 => ?_)
   refine xy [(4, [1])] [] [] ?_
   refine SW_seq ?_
   refine xd (fun hB => ?_)
   refine xdk [(0, [1]), (1, []), (2, [0])] [(21, .agg #[.int .u64 (hiI z2), .int .u64 (loI z2)]), (20, .int .i64 z1), (19, .agg #[.int .i64 0, .bool false, .int .u64 0, .int .u64 0, .int .i64 0])] hB ?_
   refine xdv 3 22 cs zs0 ?_
   refine xdk [(4, [])] [(23, .bool false)] hB ?_
   refine xdz ?_
   refine xs0 ?_
   refine SW_skip ?_
   refine xg ?_
   refine xn 2 [(1, [1])] [(26, .agg #[.int .i64 0, .bool false, .int .u64 0, .int .u64 0, .int .i64 0]), (25, .int .i64 z1)] ?_
   refine xcv 27 cp (zsS zi0 zs0) ?_
   refine xn 6 [] [(29, .bool false), (28, .agg #[.int .u64 0, .int .u64 0])] ?_
   refine xb 6 [.int .u64 0, .int .u64 0] 25 (fun g2 => ?_)
   refine xy [(7, [2])] [(7, .bool false)] [] ?_
   refine SW_seq ?_
   refine xr [(1, [1])] [(31, .int .i64 0)] ?_
   refine SW_block ?_
   refine xr [] [(32, .bool true)] ?_
   refine xs1 ?_
   refine xr [(3, [2])] [(2, .bool true)] ?_
   refine SW_ret ?_
   refine xe () (.bool true) [] ?_ trivial
   rfl
 ·have z0 : decide ((bt.length : Int) > 1048576) = true := decide_eq_true (by omega)
  refine ct_of Tryd.func3 rfl (by kernel_rfl) (fun B w0 => ?_)
  refine xr [] [(2, .bool false)] ?_
  refine SW_seq ?_
  refine xr [] [(10, .bool (decide ((((List.length bt) : Nat) : Int) > 1048576)))] ?_
  refine xst z0 ?_
  refine xr [] [(2, .bool true)] ?_
  refine SW_ret ?_
  refine xe () (.bool true) [] ?_ trivial
  rfl
end Go.Proofs.YtodhmbbiifhiaaaDoor.M
end
