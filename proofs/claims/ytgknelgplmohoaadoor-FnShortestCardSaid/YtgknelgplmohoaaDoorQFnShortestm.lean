import Derived.Laws.ResultCell
import Derived.Test.YtgknelgplmohoaaDoorQFnShortestl
section
namespace Go.Proofs.YtgknelgplmohoaaDoor.G
open Go.RowKit
set_option linter.unusedVariables false
set_option linter.unusedSimpArgs false
def table24 : Array Value := #[.int .i64 (24), .int .i64 (-126), .int .i64 (127), .int .i64 (32), .int .i64 (8), .bool false, .int .i64 (53), .int .i64 (-1022), .int .i64 (1023), .int .i64 (64), .int .i64 (11), .bool false, .int .i64 (64), .int .i64 (-16382), .int .i64 (16383), .int .i64 (80), .int .i64 (15), .bool true, .int .i64 (113), .int .i64 (-16382), .int .i64 (16383), .int .i64 (128), .int .i64 (15), .bool false]
def Tabled (w : World) : Prop := 0 < w.heap.size ∧ ∀ i : Nat, i < 24 → w.cell? ⟨0, i, none⟩ = table24[i]?
theorem results_cell_row_tmp {P : Program} {fn : Func} {p u : Tmp} {ty : TypeId} (h : fn.results = #[.cell p ty, .tmp u]) (tmps : Array Value) (w : World) (g : Nat) (t : TypeId) (cs : Array Value) (fr : Nat × Nat) (d : TypeDesc)
    (hp : tmps.getD p undef = .pointer (some ⟨g, 0, none⟩)) (hg : w.heap[g]? = some (.cells cs t fr))
    (hu : P.underlying ty = some d) (hd : (match d with | .struct _ | .array _ _ => true | _ => false) = true) (hi : (P.info? ty).map (·.size) = some cs.size) :
    (results fn tmps).run P w = .ok (.tuple #[.agg cs, tmps.getD u undef]) w := by
  rw [results_cell_tmp h, hp]
  simp [asAddr, run_loadVar_row w g t ty cs fr d hg hu hd hi, Result.andThen]
theorem isFormat_yes (f : Int) (w : World) (h0 : 0 ≤ f) (h1 : f < 4) : Calls Tryd.prog 52 #[.int .i64 f] w fun e w' => e = .returned (.bool true) ∧ w' = w := by
  go_enter Tryd.func52, Tryd.ntmps52
  go_wp2
  go_ret
  exact ⟨rfl, rfl⟩
theorem isFormat_no (f : Int) (w : World) (h : ¬ (0 ≤ f ∧ f < 4)) : Calls Tryd.prog 52 #[.int .i64 f] w fun e w' => e = .returned (.bool false) ∧ w' = w := by
  by_cases h0 : 0 ≤ f
  · have h1 : ¬ f < 4 := fun g => h ⟨h0, g⟩
    clear h
    go_enter Tryd.func52, Tryd.ntmps52
    go_wp2
    go_ret
    exact ⟨rfl, rfl⟩
  · clear h
    go_enter Tryd.func52, Tryd.ntmps52
    go_wp2
    go_ret
    exact ⟨rfl, rfl⟩
set_option maxHeartbeats 1600000 in
theorem layoutOf_0 (w : World) (hs : 0 < w.heap.size) (c0 : w.cell? ⟨0, 0, none⟩ = some (.int .i64 (24))) (c1 : w.cell? ⟨0, 1, none⟩ = some (.int .i64 (-126))) (c2 : w.cell? ⟨0, 2, none⟩ = some (.int .i64 (127))) (c3 : w.cell? ⟨0, 3, none⟩ = some (.int .i64 (32))) (c4 : w.cell? ⟨0, 4, none⟩ = some (.int .i64 (8))) (c5 : w.cell? ⟨0, 5, none⟩ = some (.bool false)) : Calls Tryd.prog 56 #[.int .i64 0] w fun e w' => e = .returned (.tuple #[.agg #[.int .i64 (24), .int .i64 (-126), .int .i64 (127), .int .i64 (32), .int .i64 (8), .bool false], .bool true]) ∧ w' = w.alloc (.cells #[.int .i64 (24), .int .i64 (-126), .int .i64 (127), .int .i64 (32), .int .i64 (8), .bool false] 95) := by
  go_enter Tryd.func56, Tryd.ntmps56
  go_wp2_with (go_at_call 52; refine (isFormat_yes _ _ (by decide) (by decide)).mono ?_; rintro e w' ⟨rfl, rfl⟩)
  refine bodyPost_ret (results_cell_row_tmp rfl _ _ w.heap.size 95 #[.int .i64 (24), .int .i64 (-126), .int .i64 (127), .int .i64 (32), .int .i64 (8), .bool false] (0, 0) _ rfl (heap_alloc_new _ _) Tryd.underlying95 rfl (by kernel_rfl)) rfl ?_
  exact ⟨rfl, rfl⟩
set_option maxHeartbeats 1600000 in
theorem layoutOf_1 (w : World) (hs : 0 < w.heap.size) (c0 : w.cell? ⟨0, 6, none⟩ = some (.int .i64 (53))) (c1 : w.cell? ⟨0, 7, none⟩ = some (.int .i64 (-1022))) (c2 : w.cell? ⟨0, 8, none⟩ = some (.int .i64 (1023))) (c3 : w.cell? ⟨0, 9, none⟩ = some (.int .i64 (64))) (c4 : w.cell? ⟨0, 10, none⟩ = some (.int .i64 (11))) (c5 : w.cell? ⟨0, 11, none⟩ = some (.bool false)) : Calls Tryd.prog 56 #[.int .i64 1] w fun e w' => e = .returned (.tuple #[.agg #[.int .i64 (53), .int .i64 (-1022), .int .i64 (1023), .int .i64 (64), .int .i64 (11), .bool false], .bool true]) ∧ w' = w.alloc (.cells #[.int .i64 (53), .int .i64 (-1022), .int .i64 (1023), .int .i64 (64), .int .i64 (11), .bool false] 95) := by
  go_enter Tryd.func56, Tryd.ntmps56
  go_wp2_with (go_at_call 52; refine (isFormat_yes _ _ (by decide) (by decide)).mono ?_; rintro e w' ⟨rfl, rfl⟩)
  refine bodyPost_ret (results_cell_row_tmp rfl _ _ w.heap.size 95 #[.int .i64 (53), .int .i64 (-1022), .int .i64 (1023), .int .i64 (64), .int .i64 (11), .bool false] (0, 0) _ rfl (heap_alloc_new _ _) Tryd.underlying95 rfl (by kernel_rfl)) rfl ?_
  exact ⟨rfl, rfl⟩
set_option maxHeartbeats 1600000 in
theorem layoutOf_2 (w : World) (hs : 0 < w.heap.size) (c0 : w.cell? ⟨0, 12, none⟩ = some (.int .i64 (64))) (c1 : w.cell? ⟨0, 13, none⟩ = some (.int .i64 (-16382))) (c2 : w.cell? ⟨0, 14, none⟩ = some (.int .i64 (16383))) (c3 : w.cell? ⟨0, 15, none⟩ = some (.int .i64 (80))) (c4 : w.cell? ⟨0, 16, none⟩ = some (.int .i64 (15))) (c5 : w.cell? ⟨0, 17, none⟩ = some (.bool true)) : Calls Tryd.prog 56 #[.int .i64 2] w fun e w' => e = .returned (.tuple #[.agg #[.int .i64 (64), .int .i64 (-16382), .int .i64 (16383), .int .i64 (80), .int .i64 (15), .bool true], .bool true]) ∧ w' = w.alloc (.cells #[.int .i64 (64), .int .i64 (-16382), .int .i64 (16383), .int .i64 (80), .int .i64 (15), .bool true] 95) := by
  go_enter Tryd.func56, Tryd.ntmps56
  go_wp2_with (go_at_call 52; refine (isFormat_yes _ _ (by decide) (by decide)).mono ?_; rintro e w' ⟨rfl, rfl⟩)
  refine bodyPost_ret (results_cell_row_tmp rfl _ _ w.heap.size 95 #[.int .i64 (64), .int .i64 (-16382), .int .i64 (16383), .int .i64 (80), .int .i64 (15), .bool true] (0, 0) _ rfl (heap_alloc_new _ _) Tryd.underlying95 rfl (by kernel_rfl)) rfl ?_
  exact ⟨rfl, rfl⟩
set_option maxHeartbeats 1600000 in
theorem layoutOf_3 (w : World) (hs : 0 < w.heap.size) (c0 : w.cell? ⟨0, 18, none⟩ = some (.int .i64 (113))) (c1 : w.cell? ⟨0, 19, none⟩ = some (.int .i64 (-16382))) (c2 : w.cell? ⟨0, 20, none⟩ = some (.int .i64 (16383))) (c3 : w.cell? ⟨0, 21, none⟩ = some (.int .i64 (128))) (c4 : w.cell? ⟨0, 22, none⟩ = some (.int .i64 (15))) (c5 : w.cell? ⟨0, 23, none⟩ = some (.bool false)) : Calls Tryd.prog 56 #[.int .i64 3] w fun e w' => e = .returned (.tuple #[.agg #[.int .i64 (113), .int .i64 (-16382), .int .i64 (16383), .int .i64 (128), .int .i64 (15), .bool false], .bool true]) ∧ w' = w.alloc (.cells #[.int .i64 (113), .int .i64 (-16382), .int .i64 (16383), .int .i64 (128), .int .i64 (15), .bool false] 95) := by
  go_enter Tryd.func56, Tryd.ntmps56
  go_wp2_with (go_at_call 52; refine (isFormat_yes _ _ (by decide) (by decide)).mono ?_; rintro e w' ⟨rfl, rfl⟩)
  refine bodyPost_ret (results_cell_row_tmp rfl _ _ w.heap.size 95 #[.int .i64 (113), .int .i64 (-16382), .int .i64 (16383), .int .i64 (128), .int .i64 (15), .bool false] (0, 0) _ rfl (heap_alloc_new _ _) Tryd.underlying95 rfl (by kernel_rfl)) rfl ?_
  exact ⟨rfl, rfl⟩
set_option maxHeartbeats 1600000 in
theorem layoutOf_no (f : Int) (w : World) (h : ¬ (0 ≤ f ∧ f < 4)) : Calls Tryd.prog 56 #[.int .i64 f] w fun e w' => e = .returned (.tuple #[.agg #[.int .i64 (0), .int .i64 (0), .int .i64 (0), .int .i64 (0), .int .i64 (0), .bool false], .bool false]) ∧ w' = w.alloc (.cells #[.int .i64 (0), .int .i64 (0), .int .i64 (0), .int .i64 (0), .int .i64 (0), .bool false] 95) := by
  have hk : Hid (¬ (0 ≤ f ∧ f < 4)) := h
  clear h
  go_enter Tryd.func56, Tryd.ntmps56
  go_wp2_with (go_at_call 52; refine (isFormat_no _ _ hk.out).mono ?_; rintro e w' ⟨rfl, rfl⟩)
  refine bodyPost_ret (results_cell_row_tmp rfl _ _ w.heap.size 95 #[.int .i64 (0), .int .i64 (0), .int .i64 (0), .int .i64 (0), .int .i64 (0), .bool false] (0, 0) _ rfl (heap_alloc_new _ _) Tryd.underlying95 rfl (by kernel_rfl)) rfl ?_
  exact ⟨rfl, rfl⟩
def impl_layoutOf.f (f : Int) : Option (Int × Int × Int × Int × Int × Bool × Bool) :=
  some (if f = 0 then (24, -126, 127, 32, 8, false, true) else if f = 1 then (53, -1022, 1023, 64, 11, false, true) else if f = 2 then (64, -16382, 16383, 80, 15, true, true) else if f = 3 then (113, -16382, 16383, 128, 15, false, true) else (0, 0, 0, 0, 0, false, false))
theorem impl_layoutOf.calls (a0 : Int) (r1 r2 r3 r4 r5 : Int) (r6 r7 : Bool) (w : World) (hT : Tabled w) (h : impl_layoutOf.f a0 = some (r1, r2, r3, r4, r5, r6, r7)) :
    Calls Tryd.prog 56 #[.int .i64 a0] w fun e w' => e = .returned (.tuple #[.agg #[.int .i64 r1, .int .i64 r2, .int .i64 r3, .int .i64 r4, .int .i64 r5, .bool r6], .bool r7]) ∧ Below w.heap.size w w' := by
  have h := Option.some.inj h
  have fin : ∀ {v : Value} {o : Obj}, (Calls Tryd.prog 56 #[.int .i64 a0] w fun e w' => e = .returned v ∧ w' = w.alloc o) → Calls Tryd.prog 56 #[.int .i64 a0] w fun e w' => e = .returned v ∧ Below w.heap.size w w' :=
    fun hc => hc.mono fun e w' ⟨he, hw⟩ => ⟨he, by rw [hw]; exact (Below.refl _ _).alloc (Nat.le_refl _) _⟩
  have hs := hT.1
  have hc := hT.2
  by_cases h0 : a0 = 0
  · subst h0
    rw [if_pos rfl] at h
    injection h with h1 h; injection h with h2 h; injection h with h3 h; injection h with h4 h; injection h with h5 h; injection h with h6 h7
    subst h1 h2 h3 h4 h5 h6 h7
    exact fin (layoutOf_0 w hs (hc 0 (by decide)) (hc 1 (by decide)) (hc 2 (by decide)) (hc 3 (by decide)) (hc 4 (by decide)) (hc 5 (by decide)))
  rw [if_neg h0] at h
  by_cases h0 : a0 = 1
  · subst h0
    rw [if_pos rfl] at h
    injection h with h1 h; injection h with h2 h; injection h with h3 h; injection h with h4 h; injection h with h5 h; injection h with h6 h7
    subst h1 h2 h3 h4 h5 h6 h7
    exact fin (layoutOf_1 w hs (hc 6 (by decide)) (hc 7 (by decide)) (hc 8 (by decide)) (hc 9 (by decide)) (hc 10 (by decide)) (hc 11 (by decide)))
  rw [if_neg h0] at h
  by_cases h0 : a0 = 2
  · subst h0
    rw [if_pos rfl] at h
    injection h with h1 h; injection h with h2 h; injection h with h3 h; injection h with h4 h; injection h with h5 h; injection h with h6 h7
    subst h1 h2 h3 h4 h5 h6 h7
    exact fin (layoutOf_2 w hs (hc 12 (by decide)) (hc 13 (by decide)) (hc 14 (by decide)) (hc 15 (by decide)) (hc 16 (by decide)) (hc 17 (by decide)))
  rw [if_neg h0] at h
  by_cases h0 : a0 = 3
  · subst h0
    rw [if_pos rfl] at h
    injection h with h1 h; injection h with h2 h; injection h with h3 h; injection h with h4 h; injection h with h5 h; injection h with h6 h7
    subst h1 h2 h3 h4 h5 h6 h7
    exact fin (layoutOf_3 w hs (hc 18 (by decide)) (hc 19 (by decide)) (hc 20 (by decide)) (hc 21 (by decide)) (hc 22 (by decide)) (hc 23 (by decide)))
  rw [if_neg h0] at h
  injection h with h1 h; injection h with h2 h; injection h with h3 h; injection h with h4 h; injection h with h5 h; injection h with h6 h7
  subst h1 h2 h3 h4 h5 h6 h7
  exact fin (layoutOf_no a0 w (by omega))
end Go.Proofs.YtgknelgplmohoaaDoor.G
end
section
namespace Go.Proofs.YtgknelgplmohoaaDoor.G
def spec_Describe.f (f : Int) : Option (Int × Int × Int × Int × Int × Bool) :=
 if f = 0 then some (24, -126, 127, 32, 8, false) else if f = 1 then some (53, -1022, 1023, 64, 11, false) else if f = 2 then some (64, -16382, 16383, 80, 15, true) else if f = 3 then some (113, -16382, 16383, 128, 15, false) else some (0, 0, 0, 0, 0, false)
end Go.Proofs.YtgknelgplmohoaaDoor.G
namespace Go.Proofs.YtgknelgplmohoaaDoor.M
open Go.RowKit Go.Proofs.YtgknelgplmohoaaDoor.G Go.Proofs.YtgknelgplmohoaaDoorV.PrintWords Go.Proofs.YtgknelgplmohoaaDoorV.PrintLast Go.Proofs.YtgknelgplmohoaaDoor.X
set_option linter.unusedVariables false
set_option linter.unusedSimpArgs false
theorem spec_Describe.calls (f : Int) (r1 r2 r3 r4 r5 : Int) (r6 : Bool) (h : spec_Describe.f f = some (r1, r2, r3, r4, r5, r6)) : CtV Tryd.prog 47 [.int .i64 f] [] (.agg #[.int .i64 r1, .int .i64 r2, .int .i64 r3, .int .i64 r4, .int .i64 r5, .bool r6]) := by
 refine ct_of Tryd.func47 rfl (by kernel_rfl) (fun B w0 => ?_)
 unfold spec_Describe.f at h
 by_cases c0 : f = 0
 ·subst c0
  rw [if_pos rfl] at h
  cases h
  refine xg ?_
  refine xb 2 [.int .i64 0, .int .i64 0, .int .i64 0, .int .i64 0, .int .i64 0, .bool false] 85 (fun g0 => ?_)
  refine xz [] [] ?_
  refine SW_seq ?_
  refine xr [] [(3, .int .i64 0)] ?_
  refine SW_block ?_
  refine xr [] [(4, .bool true)] ?_
  refine xs1 ?_
  refine xq [(1, [0])] [] [(0, [.int .i64 24, .int .i64 (-126), .int .i64 127, .int .i64 32, .int .i64 8, .bool false])] ?_
  refine SW_ret ?_
  refine xe () (.agg #[.int .i64 24, .int .i64 (-126), .int .i64 127, .int .i64 32, .int .i64 8, .bool false]) [0] ?_ trivial
  rfl
 ·rw [if_neg c0] at h
  have z0 : (f == 0) = false := by rw [beq_eq_false_iff_ne]; exact c0
  by_cases c1 : f = 1
  ·subst c1
   rw [if_pos rfl] at h
   cases h
   refine xg ?_
   refine xb 2 [.int .i64 0, .int .i64 0, .int .i64 0, .int .i64 0, .int .i64 0, .bool false] 85 (fun g0 => ?_)
   refine xz [] [] ?_
   refine SW_seq ?_
   refine xr [] [(3, .int .i64 1)] ?_
   refine SW_block ?_
   refine xr [] [(4, .bool false)] ?_
   refine xs0 ?_
   refine xr [] [(7, .bool true)] ?_
   refine xs1 ?_
   refine xq [(1, [0])] [] [(0, [.int .i64 53, .int .i64 (-1022), .int .i64 1023, .int .i64 64, .int .i64 11, .bool false])] ?_
   refine SW_ret ?_
   refine xe () (.agg #[.int .i64 53, .int .i64 (-1022), .int .i64 1023, .int .i64 64, .int .i64 11, .bool false]) [0] ?_ trivial
   rfl
  ·rw [if_neg c1] at h
   have z1 : (f == 1) = false := by rw [beq_eq_false_iff_ne]; exact c1
   by_cases c2 : f = 2
   ·subst c2
    rw [if_pos rfl] at h
    cases h
    refine xg ?_
    refine xb 2 [.int .i64 0, .int .i64 0, .int .i64 0, .int .i64 0, .int .i64 0, .bool false] 85 (fun g0 => ?_)
    refine xz [] [] ?_
    refine SW_seq ?_
    refine xr [] [(3, .int .i64 2)] ?_
    refine SW_block ?_
    refine xr [] [(4, .bool false)] ?_
    refine xs0 ?_
    refine xr [] [(7, .bool false)] ?_
    refine xs0 ?_
    refine xr [] [(10, .bool true)] ?_
    refine xs1 ?_
    refine xq [(1, [0])] [] [(0, [.int .i64 64, .int .i64 (-16382), .int .i64 16383, .int .i64 80, .int .i64 15, .bool true])] ?_
    refine SW_ret ?_
    refine xe () (.agg #[.int .i64 64, .int .i64 (-16382), .int .i64 16383, .int .i64 80, .int .i64 15, .bool true]) [0] ?_ trivial
    rfl
   ·rw [if_neg c2] at h
    have z2 : (f == 2) = false := by rw [beq_eq_false_iff_ne]; exact c2
    by_cases c3 : f = 3
    ·subst c3
     rw [if_pos rfl] at h
     cases h
     refine xg ?_
     refine xb 2 [.int .i64 0, .int .i64 0, .int .i64 0, .int .i64 0, .int .i64 0, .bool false] 85 (fun g0 => ?_)
     refine xz [] [] ?_
     refine SW_seq ?_
     refine xr [] [(3, .int .i64 3)] ?_
     refine SW_block ?_
     refine xr [] [(4, .bool false)] ?_
     refine xs0 ?_
     refine xr [] [(7, .bool false)] ?_
     refine xs0 ?_
     refine xr [] [(10, .bool false)] ?_
     refine xs0 ?_
     refine xr [] [(13, .bool true)] ?_
     refine xs1 ?_
     refine xq [(1, [0])] [] [(0, [.int .i64 113, .int .i64 (-16382), .int .i64 16383, .int .i64 128, .int .i64 15, .bool false])] ?_
     refine SW_ret ?_
     refine xe () (.agg #[.int .i64 113, .int .i64 (-16382), .int .i64 16383, .int .i64 128, .int .i64 15, .bool false]) [0] ?_ trivial
     rfl
    ·rw [if_neg c3] at h
     have z3 : (f == 3) = false := by rw [beq_eq_false_iff_ne]; exact c3
     cases h
     refine xg ?_
     refine xb 2 [.int .i64 0, .int .i64 0, .int .i64 0, .int .i64 0, .int .i64 0, .bool false] 85 (fun g0 => ?_)
     refine xz [] [] ?_
     refine SW_seq ?_
     refine xr [] [(3, .int .i64 f)] ?_
     refine SW_block ?_
     refine xr [] [(4, .bool (f == 0))] ?_
     refine xsf z0 ?_
     refine xr [] [(7, .bool (f == 1))] ?_
     refine xsf z1 ?_
     refine xr [] [(10, .bool (f == 2))] ?_
     refine xsf z2 ?_
     refine xr [] [(13, .bool (f == 3))] ?_
     refine xsf z3 ?_
     refine SW_skip ?_
     refine xq [(1, [0])] [] [] ?_
     refine SW_ret ?_
     refine xe () (.agg #[.int .i64 0, .int .i64 0, .int .i64 0, .int .i64 0, .int .i64 0, .bool false]) [0] ?_ trivial
     rfl
theorem ct_spec_Describe {P : Nat} {emin emax : Int} {W E : Nat} {ex : Bool} (f : Int) (hf : spec_Describe.f f = some ((P : Int), emin, emax, (W : Int), (E : Int), ex)) : CtV Tryd.prog 47 [.int .i64 f] [] (dscV P emin emax W E ex) := spec_Describe.calls f _ _ _ _ _ _ hf
theorem ct_impl_layoutOf {P : Nat} {emin emax : Int} {W E : Nat} {ex : Bool} (f : Int) (hf : impl_layoutOf.f f = some ((P : Int), emin, emax, (W : Int), (E : Int), ex, true)) : CtV Tryd.prog 56 [.int .i64 f] [Tabled] (.tuple #[dscV P emin emax W E ex, .bool true]) :=
 ctV1 (fun w h1 => impl_layoutOf.calls _ _ _ _ _ _ _ _ w h1 hf)
theorem ct_impl_layout_fracBits {P : Nat} {emin emax : Int} {W E : Nat} {ex : Bool} (h : Fmt P emin emax W E ex) : CtV Tryd.prog 58 [.agg #[.int .i64 P, .int .i64 emin, .int .i64 emax, .int .i64 W, .int .i64 E, .bool ex]] [] (.int .i64 (fracN P ex)) := by
 refine ct_of Tryd.func58 rfl (by kernel_rfl) (fun B w0 => ?_)
 have hp0 := h.p0
 have hp1 := h.p1
 have v1 : Ve (IntKind.i64.wrap ((P : Int) - 1)) ((P - 1 : Nat) : Int) := veI (by omega) (by omega)
 unfold fracN
 cases ex with
 | true =>
  refine xg ?_
  refine xb 1 [.int .i64 (P : Int), .int .i64 emin, .int .i64 emax, .int .i64 (W : Int), .int .i64 (E : Int), .bool true] 95 (fun g0 => ?_)
  refine xz [] [(2, .int .i64 0)] ?_
  refine SW_seq ?_
  refine xr [(2, [0])] [(5, .bool true)] ?_
  refine xs1 ?_
  refine xr [(2, [0])] [(2, .int .i64 (P : Int))] ?_
  refine SW_ret ?_
  refine xe () (.int .i64 (P : Int)) [] ?_ trivial
  rfl
 | false =>
  refine xg ?_
  refine xb 1 [.int .i64 (P : Int), .int .i64 emin, .int .i64 emax, .int .i64 (W : Int), .int .i64 (E : Int), .bool false] 95 (fun g0 => ?_)
  refine xz [] [(2, .int .i64 0)] ?_
  refine SW_seq ?_
  refine xr [(2, [0])] [(5, .bool false)] ?_
  refine xs0 ?_
  refine SW_skip ?_
  refine xg ?_
  refine xn 3 [(2, [0])] [(11, .int .i64 (P : Int))] ?_
  refine xve 12 IntKind.i64 (IntKind.wrap IntKind.i64 ((P : Int) - 1)) ((((P - 1) : Nat) : Int)) v1 ?_
  refine xz [] [(2, .int .i64 (((P - 1) : Nat) : Int))] ?_
  refine SW_ret ?_
  refine xe () (.int .i64 (((P - 1) : Nat) : Int)) [] ?_ trivial
  rfl
theorem ct_impl_layout_top {P : Nat} {emin emax : Int} {W E : Nat} {ex : Bool} (h : Fmt P emin emax W E ex) : CtV Tryd.prog 60 [.agg #[.int .i64 P, .int .i64 emin, .int .i64 emax, .int .i64 W, .int .i64 E, .bool ex]] [] (.int .i64 ((2 ^ E - 1 : Nat) : Int)) := by
 refine ct_of Tryd.func60 rfl (by kernel_rfl) (fun B w0 => ?_)
 have hE := h.plt
 have he1 := h.e1
 have hp : 0 < 2 ^ E := Nat.pow_pos (by decide)
 have v1 : Ve (shl .i64 1 (E : Int)) ((2 ^ E : Nat) : Int) := ⟨by
  unfold shl
  rw [Int.toNat_natCast, show IntKind.i64.bits = 64 from rfl, Nat.min_eq_left (by omega), show ((1 : Int) * 2 ^ E) = ((2 ^ E : Nat) : Int) by simp]
  exact wrap_i64 (by omega)⟩
 have v2 : Ve (IntKind.i64.wrap (((2 ^ E : Nat) : Int) - 1)) ((2 ^ E - 1 : Nat) : Int) := veI (by omega) (by omega)
 refine xg ?_
 refine xb 1 [.int .i64 (P : Int), .int .i64 emin, .int .i64 emax, .int .i64 (W : Int), .int .i64 (E : Int), .bool ex] 95 (fun g0 => ?_)
 refine xz [] [(2, .int .i64 0)] ?_
 refine xg ?_
 refine xn 3 [(2, [0])] [(5, .int .i64 (E : Int))] ?_
 refine xve 6 IntKind.i64 (shl IntKind.i64 1 (E : Int)) ((((2 ^ E) : Nat) : Int)) v1 ?_
 refine xve 7 IntKind.i64 (IntKind.wrap IntKind.i64 ((((2 ^ E) : Nat) : Int) - 1)) ((((2 ^ E - 1) : Nat) : Int)) v2 ?_
 refine xz [] [(2, .int .i64 (((2 ^ E - 1) : Nat) : Int))] ?_
 refine SW_ret ?_
 refine xe () (.int .i64 (((2 ^ E - 1) : Nat) : Int)) [] ?_ trivial
 rfl
theorem ct_impl_layout_qMin {P : Nat} {emin emax : Int} {W E : Nat} {ex : Bool} (h : Fmt P emin emax W E ex) : CtV Tryd.prog 61 [.agg #[.int .i64 P, .int .i64 emin, .int .i64 emax, .int .i64 W, .int .i64 E, .bool ex]] [] (.int .i64 (emin - P + 1)) := by
 refine ct_of Tryd.func61 rfl (by kernel_rfl) (fun B w0 => ?_)
 have hp1 := h.p1
 have m0 := h.m0
 have v1 : Ve (IntKind.i64.wrap (emin - (P : Int))) (emin - (P : Int)) := ⟨wrap_i64 (by omega)⟩
 have v2 : Ve (IntKind.i64.wrap (emin - (P : Int) + 1)) (emin - (P : Int) + 1) := ⟨wrap_i64 (by omega)⟩
 refine xg ?_
 refine xb 1 [.int .i64 (P : Int), .int .i64 emin, .int .i64 emax, .int .i64 (W : Int), .int .i64 (E : Int), .bool ex] 95 (fun g0 => ?_)
 refine xz [] [(2, .int .i64 0)] ?_
 refine xg ?_
 refine xn 6 [(2, [0]), (5, [0])] [(8, .int .i64 (P : Int)), (5, .int .i64 emin)] ?_
 refine xve 9 IntKind.i64 (IntKind.wrap IntKind.i64 (emin - (P : Int))) (emin - (P : Int)) v1 ?_
 refine xve 10 IntKind.i64 (IntKind.wrap IntKind.i64 (emin - (P : Int) + 1)) (emin - (P : Int) + 1) v2 ?_
 refine xz [] [(2, .int .i64 (emin - (P : Int) + 1))] ?_
 refine SW_ret ?_
 refine xe () (.int .i64 (emin - (P : Int) + 1)) [] ?_ trivial
 rfl
end Go.Proofs.YtgknelgplmohoaaDoor.M
end
section
namespace Go.Proofs.YtgknelgplmohoaaDoor.M
open Go.RowKit Go.Proofs.YtgknelgplmohoaaDoor.G Go.Proofs.YtgknelgplmohoaaDoorV.PrintWords Go.Proofs.YtgknelgplmohoaaDoorV.PrintLast Go.Proofs.YtgknelgplmohoaaDoor.X
set_option linter.unusedVariables false
set_option linter.unusedSimpArgs false
def below (x y : Nat) (k : Int) : Bool := if 0 ≤ k then decide (x < y * 2 ^ k.toNat) else decide (x * 2 ^ (-k).toNat < y)
theorem cmpN_neg (x y : Nat) : decide (cmpN x y < 0) = decide (x < y) := by
 rw [decide_eq_decide]
 unfold cmpN
 by_cases h : x < y
 ·rw [if_pos h]; exact ⟨fun _ => h, fun _ => by decide⟩
 ·rw [if_neg h]
  split <;> exact ⟨fun h2 => absurd h2 (by decide), fun h2 => absurd h2 h⟩
end Go.Proofs.YtgknelgplmohoaaDoor.M
end
section
namespace Go.Proofs.YtgknelgplmohoaaDoor.M
open Go.RowKit Go.Proofs.YtgknelgplmohoaaDoor.G Go.Proofs.YtgknelgplmohoaaDoorV.PrintWords Go.Proofs.YtgknelgplmohoaaDoorV.PrintLast Go.Proofs.YtgknelgplmohoaaDoor.X
set_option linter.unusedVariables false
set_option linter.unusedSimpArgs false
def makeN (P W : Nat) (ex : Bool) (neg lead : Bool) (exp rest : Nat) : Nat :=
 rest + (if ex = true ∧ lead = true then 2 ^ (P - 1) else 0) + exp * 2 ^ fracN P ex + (if neg = true then 2 ^ (W - 1) else 0)
theorem makeN_lt {P : Nat} {emin emax : Int} {W E : Nat} {ex : Bool} (h : Fmt P emin emax W E ex) (neg lead : Bool) (exp rest : Nat) (he : exp < 2 ^ E) (hr : rest < 2 ^ (P - 1)) : makeN P W ex neg lead exp rest < 2 ^ W := by
 have hw1 := h.w1
 have p0 := h.p0
 unfold makeN
 have h1 : rest + (if ex = true ∧ lead = true then 2 ^ (P - 1) else 0) < 2 ^ fracN P ex := by
  unfold fracN
  cases ex with
  | true =>
   rw [if_pos rfl]
   have h2 : 2 ^ P = 2 ^ (P - 1) * 2 := by rw [← Nat.pow_succ]; congr 1; omega
   split <;> omega
  | false =>
   rw [if_neg (show ¬ (false = true ∧ lead = true) from fun a => absurd a.1 (by decide)), if_neg (show ¬ false = true by decide)]
   exact hr
 have h3 : (rest + (if ex = true ∧ lead = true then 2 ^ (P - 1) else 0)) + exp * 2 ^ fracN P ex < 2 ^ (W - 1) := by
  have e1 : 2 ^ (W - 1) = 2 ^ E * 2 ^ fracN P ex := by rw [← Nat.pow_add]; congr 1; omega
  rw [e1]
  have h4 : (exp + 1) * 2 ^ fracN P ex ≤ 2 ^ E * 2 ^ fracN P ex := Nat.mul_le_mul_right _ he
  rw [Nat.add_mul, Nat.one_mul] at h4
  omega
 have h5 : 2 ^ W = 2 ^ (W - 1) * 2 := by rw [← Nat.pow_succ]; congr 1; omega
 rw [h5]
 generalize (rest + (if ex = true ∧ lead = true then 2 ^ (P - 1) else 0)) + exp * 2 ^ fracN P ex = X at *
 generalize 2 ^ (W - 1) = Y at *
 split <;> omega
theorem Weak.mk' {s t : St} (he : t.env.map (fun p => X.look s.env p.1) = t.env.map (fun p => some p.2)) (hb : s.bs = t.bs) (hf : Sub t.fs s.fs) : Weak s t := by
 refine Weak.of ?_ hb hf
 have : ∀ l : List (Nat × Value), l.map (fun p => X.look s.env p.1) = l.map (fun p => some p.2) → lookAll s.env l := by
  intro l
  induction l with
  | nil => intro _; trivial
  | cons p r ih =>
   intro h
   simp only [List.map_cons, List.cons.injEq] at h
   exact ⟨h.1, ih h.2⟩
 exact this _ he
theorem sm128 {x : Nat} (h : x < 2 ^ 250) : Sm x := Sm.of (k := 250) h (by decide)
theorem ct_spec_l2Make {P : Nat} {emin emax : Int} {W E : Nat} {ex : Bool} (h : Fmt P emin emax W E ex) (neg lead : Bool) (exp rest : Nat) (he : exp < 2 ^ E) (hr : rest < 2 ^ (P - 1)) (a : Int) (hea : Nn a exp) (A : Option Addr) (c : Nat) :
  CtV Tryd.prog 100 [dscV P emin emax W E ex, .bool neg, .int .i64 a, .bool lead, .slice A (ofN B32 rest).length c] [Row .u64 A c (ofN B32 rest)] (.agg #[.int .u64 (hiI (makeN P W ex neg lead exp rest)), .int .u64 (loI (makeN P W ex neg lead exp rest))]) := by
 obtain ⟨rfl⟩ := hea
 have p0 := h.p0
 have p1 := h.p1
 have w1 := h.w1
 have w2 := h.w2
 have hlt := makeN_lt h neg lead exp rest he hr
 have h128 : 2 ^ W ≤ B128 := Nat.pow_le_pow_right (n := 2) (by decide) w2
 have hP1 : 2 ^ (P - 1) ≤ 2 ^ 128 := Nat.pow_le_pow_right (by decide) (by omega)
 have s1 : Sm rest := sm128 (by omega)
 have s2 : Sm (2 ^ (P - 1)) := sm128 (by omega)
 have nP : Nn (IntKind.i64.wrap ((P : Int) - 1)) (P - 1) := Nn.wrap (by omega) (by omega)
 have nW : Nn (IntKind.i64.wrap ((W : Int) - 1)) (W - 1) := Nn.wrap (by omega) (by omega)
 have hB : 2 ^ E ≤ 2 ^ 15 := Nat.pow_le_pow_right (by decide) h.e1
 have n1 : Nn (IntKind.u64.wrap (exp : Int)) exp := ⟨wrap_u64_id (by omega)⟩
 have n2 : exp < 18446744073709551616 := by omega
 have s3 : Sm exp := sm128 (by omega)
 have hF : fracN P ex ≤ 113 := by unfold fracN; split <;> omega
 have nF : fracN P ex = if ex = true then P else P - 1 := rfl
 refine ct_of Tryd.func100 rfl (by kernel_rfl) (fun B w0 => ?_)
 refine xg ?_
 refine xb 5 [.int .i64 (P : Int), .int .i64 emin, .int .i64 emax, .int .i64 (W : Int), .int .i64 (E : Int), .bool ex] 85 (fun g0 => ?_)
 refine xb 10 [.int .u64 0, .int .u64 0] 28 (fun g1 => ?_)
 refine xz [] [] ?_
 refine xr [] [(11, .slice A (List.length (ofN B32 rest)) c)] ?_
 refine xr [(1, [0])] [(12, .int .i64 (IntKind.wrap IntKind.i64 ((P : Int) - 1)))] ?_
 refine SW_cut (fun s' => ∃ a x A1 c1, Nn a (fracN P ex) ∧ x = rest + (if ex = true ∧ lead = true then 2 ^ (P - 1) else 0) ∧ Weak s' ⟨[(1, .bool neg), (2, .int .i64 exp), (5, .pointer (some ⟨g0, 0, none⟩)), (10, .pointer (some ⟨g1, 0, none⟩)), (11, .slice A1 (ofN B32 x).length c1), (12, .int .i64 a)], [⟨g0, [.int .i64 P, .int .i64 emin, .int .i64 emax, .int .i64 W, .int .i64 E, .bool ex], 85⟩, ⟨g1, [.int .u64 0, .int .u64 0], 28⟩], [Row .u64 A1 c1 (ofN B32 x)]⟩) ?_ ?_
 ·refine xr [(1, [0])] [(18, .bool ex)] ?_
  refine xs (ex) (fun q0 => ?_) (fun q0 => ?_)
  ·refine xr [(1, [0])] [(12, .int .i64 (P : Int))] ?_
   refine xr [] [(21, .bool lead)] ?_
   refine xs (lead) (fun q1 => ?_) (fun q1 => ?_)
   ·refine SW_region ?_
    refine xn 4 [(2, [0])] [(25, .int .i64 (IntKind.wrap IntKind.i64 ((P : Int) - 1))), (22, .slice A (List.length (ofN B32 rest)) c)] ?_
    refine xcr 26 (ct_spec_l2Two (IntKind.wrap IntKind.i64 ((P : Int) - 1)) (P - 1) nP (by omega)) zs0 (fun A0 k0 => ?_)
    refine xcr 27 (ct_spec_l1Add (rest) (2 ^ (P - 1)) (A) (A0) (c) (k0) s1 s2) (zsS (ziS zi0) (zsS zi0 zs0)) (fun A1 k1 => ?_)
    refine xz [] [(11, .slice A1 (List.length (ofN B32 (rest + 2 ^ (P - 1)))) k1)] ?_
    refine ⟨(P : Int), _, A1, k1, ⟨by rw [nF, if_pos q0]⟩, rfl, ?_⟩
    rw [if_pos ⟨q0, q1⟩]
    exact Weak.mk' (by kernel_rfl) rfl (zsS zi0 zs0)
   ·refine SW_skip ?_
    refine ⟨(P : Int), _, A, c, ⟨by rw [nF, if_pos q0]⟩, rfl, ?_⟩
    rw [if_neg (fun z => by rw [z.2] at q1; cases q1)]
    exact Weak.mk' (by kernel_rfl) rfl (zsS zi0 zs0)
  ·refine SW_skip ?_
   refine ⟨IntKind.i64.wrap ((P : Int) - 1), _, A, c, ⟨by rw [nF, if_neg (by rw [q0]; decide)]; exact nP.out⟩, rfl, ?_⟩
   rw [if_neg (fun z => by rw [z.1] at q0; cases q0)]
   exact Weak.mk' (by kernel_rfl) rfl (zsS zi0 zs0)
 ·rintro s' ⟨a, x, A1, c1, na, hx, hw⟩
  refine SW_weak hw ?_
  have hm : makeN P W ex neg lead exp rest = x + exp * 2 ^ fracN P ex + (if neg = true then 2 ^ (W - 1) else 0) := by rw [hx]; rfl
  rw [hm] at hlt ⊢
  have hW1 : 2 ^ (W - 1) ≤ 2 ^ 128 := Nat.pow_le_pow_right (by decide) (by omega)
  have hl0 : x + exp * 2 ^ fracN P ex < 2 ^ 128 := Nat.lt_of_le_of_lt (Nat.le_add_right _ _) (Nat.lt_of_lt_of_le hlt h128)
  have hl1 : x + exp * 2 ^ fracN P ex + (if neg = true then 2 ^ (W - 1) else 0) < B128 := Nat.lt_of_lt_of_le hlt h128
  have s4 : Sm x := sm128 (by omega)
  have s5 : Sm (exp * 2 ^ fracN P ex) := sm128 (by omega)
  have s6 : Sm (x + exp * 2 ^ fracN P ex) := sm128 (by omega)
  have s7 : Sm (2 ^ (W - 1)) := sm128 (by omega)
  refine xg ?_
  refine xn 3 [] [(30, .int .u64 (IntKind.wrap IntKind.u64 (exp : Int))), (28, .slice A1 (List.length (ofN B32 x)) c1)] ?_
  refine xcr 31 (ct_spec_l1Of (IntKind.wrap IntKind.u64 (exp : Int)) (exp) n1 n2) zs0 (fun A2 k2 => ?_)
  refine xn 5 [] [(32, .int .i64 a)] ?_
  refine xcr 33 (ct_spec_l1Left (exp) (A2) (k2) (a) (fracN P ex) na (by omega) s3) (zsS zi0 zs0) (fun A3 k3 => ?_)
  refine xcr 34 (ct_spec_l1Add (x) (exp * 2 ^ fracN P ex) (A1) (A3) (c1) (k3) s4 s5) (zsS (ziS (ziS zi0)) (zsS zi0 zs0)) (fun A4 k4 => ?_)
  refine xz [] [(11, .slice A4 (List.length (ofN B32 (x + exp * 2 ^ fracN P ex))) k4)] ?_
  refine SW_cut (fun s' => ∃ A2 c2, Weak s' ⟨[(10, .pointer (some ⟨g1, 0, none⟩)), (11, .slice A2 (ofN B32 (x + exp * 2 ^ fracN P ex + (if neg = true then 2 ^ (W - 1) else 0))).length c2)], [⟨g0, [.int .i64 P, .int .i64 emin, .int .i64 emax, .int .i64 W, .int .i64 E, .bool ex], 85⟩, ⟨g1, [.int .u64 0, .int .u64 0], 28⟩], [Row .u64 A2 c2 (ofN B32 (x + exp * 2 ^ fracN P ex + (if neg = true then 2 ^ (W - 1) else 0)))]⟩) ?_ ?_
  ·refine xr [] [(35, .bool neg)] ?_
   refine xs (neg) (fun q0 => ?_) (fun q0 => ?_)
   ·refine SW_region ?_
    refine xn 4 [(2, [0])] [(39, .int .i64 (IntKind.wrap IntKind.i64 ((W : Int) - 1))), (36, .slice A4 (List.length (ofN B32 (x + exp * 2 ^ fracN P ex))) k4)] ?_
    refine xcr 40 (ct_spec_l2Two (IntKind.wrap IntKind.i64 ((W : Int) - 1)) (W - 1) nW (by omega)) zs0 (fun A5 k5 => ?_)
    refine xcr 41 (ct_spec_l1Add (x + exp * 2 ^ fracN P ex) (2 ^ (W - 1)) (A4) (A5) (k4) (k5) s6 s7) (zsS (ziS zi0) (zsS zi0 zs0)) (fun A6 k6 => ?_)
    refine xz [] [(11, .slice A6 (List.length (ofN B32 (x + exp * 2 ^ fracN P ex + 2 ^ (W - 1)))) k6)] ?_
    refine ⟨A6, k6, ?_⟩
    rw [if_pos q0]
    exact Weak.mk' (by kernel_rfl) rfl (zsS zi0 zs0)
   ·refine SW_skip ?_
    refine ⟨A4, k4, ?_⟩
    rw [if_neg (by rw [q0]; decide), Nat.add_zero]
    exact Weak.mk' (by kernel_rfl) rfl (zsS zi0 zs0)
  ·rintro s' ⟨A2, c2, hw⟩
   refine SW_weak hw ?_
   refine xg ?_
   refine xn 1 [] [(42, .slice A2 (List.length (ofN B32 (x + exp * 2 ^ fracN P ex + if neg = true then 2 ^ (W - 1) else 0))) c2)] ?_
   refine xcv 43 (ct_spec_l2Word (x + exp * 2 ^ fracN P ex + if neg = true then 2 ^ (W - 1) else 0) (A2) (c2) hl1) (zsS zi0 zs0) ?_
   refine xy [(2, [1])] [] [(1, [.int .u64 (hiI (x + exp * 2 ^ fracN P ex + if neg = true then 2 ^ (W - 1) else 0)), .int .u64 (loI (x + exp * 2 ^ fracN P ex + if neg = true then 2 ^ (W - 1) else 0))])] ?_
   refine SW_ret ?_
   refine xe () (.agg #[.int .u64 (hiI (x + exp * 2 ^ fracN P ex + if neg = true then 2 ^ (W - 1) else 0)), .int .u64 (loI (x + exp * 2 ^ fracN P ex + if neg = true then 2 ^ (W - 1) else 0))]) [1] ?_ trivial
   rfl
theorem ct_spec_l2Make' {P : Nat} {emin emax : Int} {W E : Nat} {ex : Bool} (h : Fmt P emin emax W E ex) (neg lead : Bool) (exp : Nat) (he : exp < 2 ^ E) (a : Int) (hea : Nn a exp) :
  CtV Tryd.prog 100 [dscV P emin emax W E ex, .bool neg, .int .i64 a, .bool lead, .slice none 0 0] [] (.agg #[.int .u64 (hiI (makeN P W ex neg lead exp 0)), .int .u64 (loI (makeN P W ex neg lead exp 0))]) := by
 have := ct_spec_l2Make h neg lead exp 0 he (Nat.pow_pos (by decide)) a hea none 0
 rw [ofN_nil B32_2] at this
 exact Ct_drop (Row_nil _ _) this
end Go.Proofs.YtgknelgplmohoaaDoor.M
end
section
namespace Go.Proofs.YtgknelgplmohoaaDoor.M
open Go.RowKit Go.Proofs.YtgknelgplmohoaaDoor.G Go.Proofs.YtgknelgplmohoaaDoorV.PrintWords Go.Proofs.YtgknelgplmohoaaDoorV.PrintLast Go.Proofs.YtgknelgplmohoaaDoor.X
set_option linter.unusedVariables false
set_option linter.unusedSimpArgs false
structure Fmt2 (P : Nat) (emin emax : Int) (W E : Nat) (ex : Bool) : Prop extends Fmt P emin emax W E ex where
  top : 2 * emax + 1 = ((2 ^ E - 1 : Nat) : Int)
  mn : emin = 1 - emax
  p3 : 3 ≤ P
theorem fmt2_0 : Fmt2 24 (-126) 127 32 8 false := ⟨fmt0, by decide, by decide, by decide⟩
theorem fmt2_1 : Fmt2 53 (-1022) 1023 64 11 false := ⟨fmt1, by decide, by decide, by decide⟩
theorem fmt2_2 : Fmt2 64 (-16382) 16383 80 15 true := ⟨fmt2, by decide, by decide, by decide⟩
theorem fmt2_3 : Fmt2 113 (-16382) 16383 128 15 false := ⟨fmt3, by decide, by decide, by decide⟩
theorem hilo_inj {a b : Nat} (h1 : hiI a = hiI b) (h2 : loI a = loI b) : a = b := by
  unfold hiI at h1
  unfold loI at h2
  omega
section
variable {P : Nat} {emin emax : Int} {W E : Nat} {ex : Bool}
theorem unp_cases (w : Nat) : unpN P emin emax W E ex w = badP ∨ ∃ e neg rest, e < 2 ^ E ∧ rest < 2 ^ (P - 1) ∧ unpN P emin emax W E ex w = partsOf P emin emax E e neg rest := by
  have h1 : ∀ z : Nat, z % 2 ^ E < 2 ^ E := fun z => Nat.mod_lt _ (Nat.pow_pos (by decide))
  have h2 : ∀ z : Nat, z % 2 ^ (P - 1) < 2 ^ (P - 1) := fun z => Nat.mod_lt _ (Nat.pow_pos (by decide))
  unfold unpN
  split
  · exact .inl rfl
  · split
    · split
      · exact .inr ⟨_, _, _, h1 _, h2 _, rfl⟩
      · exact .inl rfl
    · exact .inr ⟨_, _, _, h1 _, h2 _, rfl⟩
end
def packN (P : Nat) (emax : Int) (W E : Nat) (ex : Bool) (c : Int) (neg : Bool) (S : Nat) (q : Int) : Option Nat :=
  if c = 1 then some (makeN P W ex neg false 0 0)
  else if c = 4 then some (makeN P W ex neg true (2 ^ E - 1) 0)
  else if c = 5 then some (makeN P W ex false true (2 ^ E - 1) (2 ^ (P - 2)))
  else if c = 2 then (if S < 2 ^ (P - 1) then some (makeN P W ex neg false 0 S) else none)
  else if c = 3 then (if (2 ^ (P - 1) ≤ S ∧ S < 2 ^ P) ∧ 1 ≤ q + emax + P - 1 ∧ q + emax + P - 1 < ((2 ^ E - 1 : Nat) : Int) then some (makeN P W ex neg true (q + emax + P - 1).toNat (S % 2 ^ (P - 1))) else none)
  else none
def packR (P : Nat) (emin emax : Int) (W E : Nat) (ex : Bool) (c : Int) (neg : Bool) (S : Nat) (q : Int) : Nat × Bool :=
  match packN P emax W E ex c neg S q with
  | none => (0, false)
  | some w => if unpN P emin emax W E ex w = (c, neg, hiI S, loI S, q) then (w, true) else (0, false)
def eqb (u p : Prt) : Bool := (u.1 == p.1) && ((u.2.1 == p.2.1) && (((u.2.2.1 == p.2.2.1) && (u.2.2.2.1 == p.2.2.2.1)) && (u.2.2.2.2 == p.2.2.2.2)))
theorem eqb_iff (u p : Prt) : eqb u p = true ↔ u = p := by
  obtain ⟨a, b, c, d, e⟩ := u
  obtain ⟨a', b', c', d', e'⟩ := p
  simp [eqb, Prod.mk.injEq, and_assoc]
theorem packR_some {P : Nat} {emin emax : Int} {W E : Nat} {ex : Bool} {c : Int} {neg : Bool} {S : Nat} {q : Int} {w : Nat} (h : packN P emax W E ex c neg S q = some w) :
    packR P emin emax W E ex c neg S q = if unpN P emin emax W E ex w = (c, neg, hiI S, loI S, q) then (w, true) else (0, false) := by unfold packR; rw [h]
theorem packR_none {P : Nat} {emin emax : Int} {W E : Nat} {ex : Bool} {c : Int} {neg : Bool} {S : Nat} {q : Int} (h : packN P emax W E ex c neg S q = none) : packR P emin emax W E ex c neg S q = (0, false) := by unfold packR; rw [h]
theorem wrap_flat (a b c : Int) : wrap64 (wrap64 (wrap64 a + b) - c) = wrap64 (a + b - c) := by
  unfold wrap64
  omega
theorem wrap_big (x : Int) (h : 9223372036854775808 ≤ x) (h2 : x ≤ 9223372036855775808) : wrap64 x < 0 := by
  unfold wrap64
  omega
theorem wrapE (q emax : Int) (P : Nat) (hq : -9223372036854775808 ≤ q ∧ q ≤ 9223372036854775807) (h0 : 0 ≤ emax) (h1 : emax ≤ 20000) (hP : P ≤ 113) (hP1 : 1 ≤ P) :
    IntKind.i64.wrap (IntKind.i64.wrap (IntKind.i64.wrap (q + emax) + (P : Int)) - 1) = q + emax + P - 1 ∨ (IntKind.i64.wrap (IntKind.i64.wrap (IntKind.i64.wrap (q + emax) + (P : Int)) - 1) < 1 ∧ 9223372036854775808 ≤ q + emax + P - 1) := by
  rw [i64_w, i64_w, i64_w, wrap_flat]
  by_cases h : q + emax + P - 1 ≤ 9223372036854775807
  · exact .inl (wrap64_id ⟨by omega, h⟩)
  · exact .inr ⟨Int.lt_of_lt_of_le (wrap_big _ (by omega) (by omega)) (by decide), by omega⟩
theorem bits_ex (x : Nat) : ∃ m, IsBits x m := by
  induction x using Nat.strongRecOn with
  | _ x ih =>
    by_cases h0 : x = 0
    · exact ⟨0, by rw [h0]; exact IsBits.zero⟩
    · obtain ⟨m, h1, h2⟩ := ih (x / 2) (by omega)
      refine ⟨m + 1, ?_, .inr ?_⟩
      · rw [Nat.pow_succ]; omega
      · rcases h2 with h2 | h2
        · subst h2; simp at h1 ⊢; omega
        · have hm : m ≠ 0 := by
            intro z; subst z; simp at h2 h1; omega
          have : 2 ^ m = 2 ^ (m - 1) * 2 := by rw [← Nat.pow_succ]; congr 1; omega
          simp only [Nat.add_sub_cancel]
          rw [this]
          omega
theorem bits_lt {x m k : Nat} (h : IsBits x m) : m ≤ k ↔ x < 2 ^ k := by
  constructor
  · intro hk
    exact Nat.lt_of_lt_of_le h.1 (Nat.pow_le_pow_right (by decide) hk)
  · intro hk
    exact h.le hk
theorem lor_add {a b i : Nat} (h : b < 2 ^ i) : b ||| a * 2 ^ i = b + a * 2 ^ i := by
  have := Nat.two_pow_add_eq_or_of_lt h a
  rw [Nat.mul_comm a, Nat.or_comm, ← this, Nat.add_comm]
theorem lor_top {b i : Nat} (h : b < 2 ^ i) : b ||| 2 ^ i = b + 2 ^ i := by
  have := lor_add (a := 1) h
  rwa [Nat.one_mul] at this
end Go.Proofs.YtgknelgplmohoaaDoor.M
end
section
namespace Go.Proofs.YtgknelgplmohoaaDoor.M
open Go.RowKit Go.Proofs.YtgknelgplmohoaaDoor.G Go.Proofs.YtgknelgplmohoaaDoorV.PrintWords Go.Proofs.YtgknelgplmohoaaDoorV.PrintLast Go.Proofs.YtgknelgplmohoaaDoor.X
set_option linter.unusedVariables false
set_option linter.unusedSimpArgs false
def VP (P : Nat) (emin emax : Int) (c : Int) (S : Nat) (q : Int) : Prop :=
  (c = 1 ∧ S = 0 ∧ q = 0) ∨ (c = 4 ∧ S = 0 ∧ q = 0) ∨ (c = 2 ∧ 0 < S ∧ S < 2 ^ (P - 1) ∧ q = emin - P + 1) ∨ (c = 3 ∧ 2 ^ (P - 1) ≤ S ∧ S < 2 ^ P ∧ emin - P + 1 ≤ q ∧ q ≤ emax - P + 1)
section
variable {P : Nat} {emin emax : Int} {W E : Nat} {ex : Bool}
theorem two_P (h : Fmt P emin emax W E ex) : 2 ^ P = 2 * 2 ^ (P - 1) := by
  have := h.p0
  rw [Nat.mul_comm, ← Nat.pow_succ]
  congr 1
  omega
theorem hi0 : hiI 0 = 0 := rfl
theorem unp_form (h : Fmt2 P emin emax W E ex) (w : Nat) : unpN P emin emax W E ex w = badP ∨ unpN P emin emax W E ex w = (5, false, 0, 0, 0) ∨ ∃ c neg S q, unpN P emin emax W E ex w = (c, neg, hiI S, loI S, q) ∧ S < 2 ^ P ∧ VP P emin emax c S q := by
  have t2 := two_P h.toFmt
  have hp := Nat.pow_pos (n := P - 1) (show 0 < 2 by decide)
  have tp := h.top
  have mn := h.mn
  rcases unp_cases (P := P) (emin := emin) (emax := emax) (W := W) (E := E) (ex := ex) w with hb | ⟨e, neg, rest, he, hr, hu⟩
  · exact .inl hb
  · refine .inr ?_
    rw [hu]
    unfold partsOf
    by_cases h1 : e = 2 ^ E - 1
    · rw [if_pos h1]
      by_cases h2 : rest = 0
      · rw [if_pos h2]
        exact .inr ⟨4, neg, 0, 0, rfl, by omega, .inr (.inl ⟨rfl, rfl, rfl⟩)⟩
      · rw [if_neg h2]
        exact .inl rfl
    · rw [if_neg h1]
      refine .inr ?_
      by_cases h2 : e = 0
      · rw [if_pos h2]
        by_cases h3 : rest = 0
        · rw [if_pos h3]
          exact ⟨1, neg, 0, 0, rfl, by omega, .inl ⟨rfl, rfl, rfl⟩⟩
        · rw [if_neg h3]
          exact ⟨2, neg, rest, _, rfl, by omega, .inr (.inr (.inl ⟨rfl, by omega, hr, rfl⟩))⟩
      · rw [if_neg h2]
        exact ⟨3, neg, rest + 2 ^ (P - 1), _, rfl, by omega, .inr (.inr (.inr ⟨rfl, by omega, by omega, by omega, by omega⟩))⟩
end
end Go.Proofs.YtgknelgplmohoaaDoor.M
end
section
namespace Go.Proofs.YtgknelgplmohoaaDoor.M
open Go.RowKit Go.Proofs.YtgknelgplmohoaaDoor.G Go.Proofs.YtgknelgplmohoaaDoorV.PrintWords Go.Proofs.YtgknelgplmohoaaDoorV.PrintLast Go.Proofs.YtgknelgplmohoaaDoor.X
set_option linter.unusedVariables false
set_option linter.unusedSimpArgs false
def rrUp (n d : Nat) : Bool := decide (d < n % d * 2) || (decide (n % d * 2 = d) && decide (n / d % 2 = 1))
def rrS (n d : Nat) : Nat := if rrUp n d = true then n / d + 1 else n / d
theorem rrS_le (n d : Nat) : n / d ≤ rrS n d ∧ rrS n d ≤ n / d + 1 := by
  unfold rrS
  split <;> omega
end Go.Proofs.YtgknelgplmohoaaDoor.M
end
section
namespace Go.Proofs.YtgknelgplmohoaaDoor.M
open Go.RowKit Go.Proofs.YtgknelgplmohoaaDoor.G Go.Proofs.YtgknelgplmohoaaDoorV.PrintWords Go.Proofs.YtgknelgplmohoaaDoorV.PrintLast Go.Proofs.YtgknelgplmohoaaDoor.X
set_option linter.unusedVariables false
set_option linter.unusedSimpArgs false
def inJ (cl : Bool) (L H x : Nat) : Bool := (decide (L < x) || (decide (L = x) && cl)) && (decide (x < H) || (decide (x = H) && cl))
theorem inJ_iff {cl : Bool} {L H x : Nat} : inJ cl L H x = true ↔ (L < x ∨ (L = x ∧ cl = true)) ∧ (x < H ∨ (x = H ∧ cl = true)) := by
  unfold inJ
  simp
theorem inJ_conv {cl : Bool} {L H a b x : Nat} (ha : inJ cl L H a = true) (hb : inJ cl L H b = true) (h1 : a ≤ x) (h2 : x ≤ b) : inJ cl L H x = true := by
  rw [inJ_iff] at *
  cases cl <;> simp at * <;> omega
theorem inJ_mid {cl : Bool} {L H x : Nat} (h1 : L < x) (h2 : x < H) : inJ cl L H x = true := inJ_iff.2 ⟨.inl h1, .inl h2⟩
theorem inJ_le {cl : Bool} {L H x : Nat} (h : inJ cl L H x = true) : L ≤ x ∧ x ≤ H := by
  rw [inJ_iff] at h
  cases cl <;> simp at * <;> omega
def cLo (cl : Bool) (L t : Nat) : Nat := max 1 (if L % t = 0 ∧ cl = true then L / t else L / t + 1)
def cHi (cl : Bool) (H t : Nat) : Nat := if H % t = 0 ∧ cl = false then H / t - 1 else H / t
theorem mul_eq_iff {x t m : Nat} (ht : 0 < t) : x = m * t ↔ (x % t = 0 ∧ x / t = m) := by
  constructor
  · intro h
    subst h
    exact ⟨Nat.mul_mod_left _ _, Nat.mul_div_cancel _ ht⟩
  · rintro ⟨h1, rfl⟩
    have := Nat.div_add_mod x t
    rw [h1, Nat.add_zero, Nat.mul_comm] at this
    exact this.symm
theorem cLo_iff {cl : Bool} {L t m : Nat} (ht : 0 < t) (hm : 1 ≤ m) : cLo cl L t ≤ m ↔ (L < m * t ∨ (L = m * t ∧ cl = true)) := by
  rw [mul_eq_iff ht, ← Nat.div_lt_iff_lt_mul ht]
  unfold cLo
  generalize L % t = r
  generalize L / t = q
  cases cl with
  | false => simp; omega
  | true =>
    by_cases hr : r = 0
    · simp [hr]; omega
    · simp [hr]; omega
theorem cHi_iff {cl : Bool} {H t m : Nat} (ht : 0 < t) (hm : 1 ≤ m) : m ≤ cHi cl H t ↔ (m * t < H ∨ (m * t = H ∧ cl = true)) := by
  have e1 : m * t ≤ H ↔ m ≤ H / t := (Nat.le_div_iff_mul_le ht).symm
  have e2 : H = m * t ↔ (H % t = 0 ∧ H / t = m) := mul_eq_iff ht
  have e3 : m * t < H ↔ (m ≤ H / t ∧ ¬ (H % t = 0 ∧ H / t = m)) := by rw [← e1, ← e2]; omega
  rw [e3, show m * t = H ↔ H = m * t from ⟨Eq.symm, Eq.symm⟩, e2]
  unfold cHi
  generalize H % t = r
  generalize H / t = q
  cases cl with
  | true => simp; omega
  | false =>
    by_cases hr : r = 0
    · simp [hr]; omega
    · simp [hr]
theorem cand_iff {cl : Bool} {L H t m : Nat} (ht : 0 < t) (hm : 1 ≤ m) : (cLo cl L t ≤ m ∧ m ≤ cHi cl H t) ↔ inJ cl L H (m * t) = true := by
  rw [cLo_iff ht hm, cHi_iff ht hm, inJ_iff]
theorem cLo_pos (cl : Bool) (L t : Nat) : 1 ≤ cLo cl L t := by unfold cLo; omega
theorem cand_ex {cl : Bool} {L H t : Nat} (ht : 0 < t) : cLo cl L t ≤ cHi cl H t ↔ ∃ m, 1 ≤ m ∧ inJ cl L H (m * t) = true := by
  constructor
  · intro h
    exact ⟨_, cLo_pos cl L t, (cand_iff ht (cLo_pos cl L t)).1 ⟨Nat.le_refl _, h⟩⟩
  · rintro ⟨m, hm, h⟩
    have := (cand_iff ht hm).2 h
    omega
def nrN (V t lo hi : Nat) : Nat := min (max (rrS V t) lo) hi
def farN (V t n : Nat) : Nat := if n * t < V then V - n * t else n * t - V
def chS (cl : Bool) (L H V t : Nat) : Nat := if inJ cl L H (V / t * t) = true then (if inJ cl L H ((V / t + 1) * t) = true then rrS V t else V / t) else V / t + 1
def lhN (cl : Bool) (L H V t : Nat) : Bool := inJ cl L H (V / t * t) || inJ cl L H ((V / t + 1) * t)
section
variable {cl : Bool} {L H V t : Nat}
theorem dt_le (V t : Nat) : V / t * t ≤ V := Nat.div_mul_le_self V t
theorem dt_lt (ht : 0 < t) : V < (V / t + 1) * t := by
  have h1 := Nat.div_add_mod V t
  have h2 := Nat.mod_lt V ht
  rw [Nat.add_mul, Nat.one_mul, Nat.mul_comm]
  omega
theorem around (ht : 0 < t) (hL : L < V) (hH : V < H) (hd : t ≤ V) : V / t ≤ cHi cl H t ∧ cLo cl L t ≤ V / t + 1 ∧ (inJ cl L H (V / t * t) = true ↔ cLo cl L t ≤ V / t) ∧ (inJ cl L H ((V / t + 1) * t) = true ↔ V / t + 1 ≤ cHi cl H t) ∧ 1 ≤ V / t := by
  have h1 : 1 ≤ V / t := (Nat.le_div_iff_mul_le ht).2 (by omega)
  have h2 := dt_le V t
  have h3 := dt_lt (V := V) ht
  have h4 : V / t ≤ cHi cl H t := (cHi_iff ht h1).2 (.inl (by omega))
  have h5 : cLo cl L t ≤ V / t + 1 := (cLo_iff ht (by omega)).2 (.inl (by omega))
  exact ⟨h4, h5, by rw [← cand_iff ht h1]; exact ⟨fun z => z.1, fun z => ⟨z, h4⟩⟩, by rw [← cand_iff ht (by omega)]; exact ⟨fun z => z.2, fun z => ⟨h5, z⟩⟩, h1⟩
theorem nr_ch (ht : 0 < t) (hL : L < V) (hH : V < H) (hd : t ≤ V) (hc : cLo cl L t ≤ cHi cl H t) : nrN V t (cLo cl L t) (cHi cl H t) = chS cl L H V t := by
  obtain ⟨h1, h2, h3, h4, h5⟩ := around (cl := cl) ht hL hH hd
  have h6 := rrS_le V t
  unfold chS nrN
  by_cases c1 : cLo cl L t ≤ V / t
  · rw [if_pos (h3.2 c1)]
    by_cases c2 : V / t + 1 ≤ cHi cl H t
    · rw [if_pos (h4.2 c2)]
      omega
    · rw [if_neg (fun z => c2 (h4.1 z))]
      omega
  · rw [if_neg (fun z => c1 (h3.1 z))]
    omega
theorem lh_cand (ht : 0 < t) (hL : L < V) (hH : V < H) (hd : t ≤ V) : lhN cl L H V t = true ↔ cLo cl L t ≤ cHi cl H t := by
  obtain ⟨h1, h2, h3, h4, h5⟩ := around (cl := cl) ht hL hH hd
  unfold lhN
  rw [Bool.or_eq_true, h3, h4]
  omega
theorem ch_in (ht : 0 < t) (hL : L < V) (hH : V < H) (hd : t ≤ V) (hc : cLo cl L t ≤ cHi cl H t) : inJ cl L H (chS cl L H V t * t) = true ∧ V / t ≤ chS cl L H V t ∧ chS cl L H V t ≤ V / t + 1 := by
  obtain ⟨h1, h2, h3, h4, h5⟩ := around (cl := cl) ht hL hH hd
  have h6 := rrS_le V t
  unfold chS
  by_cases c1 : cLo cl L t ≤ V / t
  · rw [if_pos (h3.2 c1)]
    by_cases c2 : V / t + 1 ≤ cHi cl H t
    · rw [if_pos (h4.2 c2)]
      rcases (show rrS V t = V / t ∨ rrS V t = V / t + 1 by omega) with e | e
      · rw [e]; exact ⟨h3.2 c1, by omega, by omega⟩
      · rw [e]; exact ⟨h4.2 c2, by omega, by omega⟩
    · rw [if_neg (fun z => c2 (h4.1 z))]
      exact ⟨h3.2 c1, by omega, by omega⟩
  · rw [if_neg (fun z => c1 (h3.1 z))]
    exact ⟨h4.2 (by omega), by omega, by omega⟩
end
def impR (cl : Bool) (L V H t t' : Nat) (E : Int) (k : Nat) : Nat × Int :=
  let n := nrN V t (cLo cl L t) (cHi cl H t)
  let lo2 := max (cLo cl L t') (10 ^ (k - 1))
  let hi2 := min (cHi cl H t') (10 ^ k - 1)
  let n2 := nrN V t' lo2 hi2
  if lo2 ≤ hi2 ∧ (farN V t' n2 < farN V t n ∨ (farN V t' n2 = farN V t n ∧ n2 % 2 = 0 ∧ n % 2 = 1)) then (n2, E - 1) else (n, E)
structure Sh (cl : Bool) (L V H : Nat) (T : Int → Nat) (K eS : Int) : Prop where
  lv : L < V
  vh : V < H
  h2 : 2 * H ≤ 3 * V
  t : ∀ e, K ≤ e → T (e + 1) = 10 * T e
  p : ∀ e, 0 < T e
  lo : T eS ≤ V
  hi : V < T (eS + 1)
section
variable {cl : Bool} {L V H : Nat} {T : Int → Nat} {K eS : Int}
theorem Sh.pow (s : Sh cl L V H T K eS) {e : Int} (he : K ≤ e) : ∀ j : Nat, T (e + j) = 10 ^ j * T e
  | 0 => by simp
  | j + 1 => by
    rw [show e + ((j + 1 : Nat) : Int) = e + j + 1 by omega, s.t _ (by omega), Sh.pow s he j, Nat.pow_succ, ← Nat.mul_assoc, Nat.mul_comm 10]
theorem Sh.pow' (s : Sh cl L V H T K eS) {e e' : Int} (he : K ≤ e) (h : e ≤ e') : T e' = 10 ^ (e' - e).toNat * T e := by
  have := s.pow he (e' - e).toNat
  rwa [show e + ((e' - e).toNat : Int) = e' by omega] at this
theorem Sh.mono (s : Sh cl L V H T K eS) {e e' : Int} (he : K ≤ e) (h : e ≤ e') : T e ≤ T e' := by
  rw [s.pow' he h]
  exact Nat.le_mul_of_pos_left _ (Nat.pow_pos (by decide))
theorem Sh.top (s : Sh cl L V H T K eS) (hK : K ≤ eS) {e : Int} (he : eS + 1 ≤ e) {m : Nat} (hm : 1 ≤ m) (hi : inJ cl L H (m * T e) = true) : e = eS + 1 ∧ m = 1 := by
  have h1 := (inJ_le hi).2
  have h2 := s.h2
  have h3 := s.hi
  have h4 : 1 * T e ≤ m * T e := Nat.mul_le_mul_right _ hm
  by_cases hee : e = eS + 1
  · subst hee
    refine ⟨rfl, ?_⟩
    rcases Nat.lt_or_ge 1 m with h | h
    · have : 2 * T (eS + 1) ≤ m * T (eS + 1) := Nat.mul_le_mul_right _ h
      omega
    · omega
  · have h5 := s.mono (e := eS + 1 + 1) (e' := e) (by omega) (by omega)
    have h6 := s.t (eS + 1) (by omega)
    omega
theorem ten_split {N : Nat} (hN : 1 ≤ N) : 10 ^ N = 10 * 10 ^ (N - 1) := by
  rw [Nat.mul_comm, ← Nat.pow_succ]
  congr 1
  omega
theorem ten_uniq {n k N : Nat} (hk : 1 ≤ k) (hN : 1 ≤ N) (h1 : 10 ^ (k - 1) ≤ n) (h2 : n < 10 ^ k) (h3 : 10 ^ (N - 1) ≤ n) (h4 : n < 10 ^ N) : k = N := by
  have a1 : k - 1 < N := (Nat.pow_lt_pow_iff_right (show 1 < 10 by decide)).1 (Nat.lt_of_le_of_lt h1 h4)
  have a2 : N - 1 < k := (Nat.pow_lt_pow_iff_right (show 1 < 10 by decide)).1 (Nat.lt_of_le_of_lt h3 h2)
  omega
theorem rrS_iff2 {V t : Nat} : rrS V t = V / t + 1 ∧ (t < V % t * 2 ∨ (V % t * 2 = t ∧ V / t % 2 = 1)) ∨ rrS V t = V / t ∧ (V % t * 2 < t ∨ (V % t * 2 = t ∧ V / t % 2 = 0)) := by
  unfold rrS rrUp
  simp only [Bool.or_eq_true, Bool.and_eq_true, decide_eq_true_eq]
  split
  · left; exact ⟨rfl, by assumption⟩
  · right; refine ⟨rfl, ?_⟩; omega
theorem far_lo {V t n : Nat} (h : n * t ≤ V) : farN V t n = V - n * t := by
  unfold farN
  split <;> omega
theorem far_hi {V t n : Nat} (h : V ≤ n * t) : farN V t n = n * t - V := by
  unfold farN
  split <;> omega
theorem sh_main (s : Sh cl L V H T K eS) {E e0 u : Int} (hE : K + 1 ≤ E) (hu : K + 1 ≤ u) (hc : cLo cl L (T E) ≤ cHi cl H (T E)) (hmax : ∀ e, E < e → e ≤ e0 → ¬ cLo cl L (T e) ≤ cHi cl H (T e)) (he0 : eS + 1 ≤ e0) (hEe : E ≤ e0)
    (hu1 : u ≤ eS) (hul : lhN cl L H V (T u) = true) (hum : ∀ e, u < e → e ≤ eS → ¬ lhN cl L H V (T e) = true)
    (k : Nat) (hk : 1 ≤ k) (hk1 : 10 ^ (k - 1) ≤ nrN V (T E) (cLo cl L (T E)) (cHi cl H (T E))) (hk2 : nrN V (T E) (cLo cl L (T E)) (cHi cl H (T E)) < 10 ^ k) :
    impR cl L V H (T E) (T (E - 1)) E k = (chS cl L H V (T u), u) ∨ (impR cl L V H (T E) (T (E - 1)) E k = (1, u + 1) ∧ chS cl L H V (T u) = 10) := by
  have hlv := s.lv
  have hvh := s.vh
  have hlo := s.lo
  have hhi := s.hi
  have h2H := s.h2
  have hKS : K ≤ eS := by omega
  have pS := s.p eS
  have tS := s.t eS hKS
  have hle : ∀ e, K ≤ e → e ≤ eS → T e ≤ V := fun e h1 h2 => Nat.le_trans (s.mono h1 h2) hlo
  obtain ⟨m0, hm0, hin0⟩ := (cand_ex (s.p E)).1 hc
  by_cases hA : inJ cl L H (T (eS + 1)) = true
  · -- the next power of ten lies between the ends
    have hEA : E = eS + 1 := by
      rcases Int.lt_or_le E (eS + 1) with h | h
      · exact absurd ((cand_ex (s.p _)).2 ⟨1, Nat.le_refl _, by rw [Nat.one_mul]; exact hA⟩) (hmax (eS + 1) h he0)
      · exact (s.top hKS h hm0 hin0).1
    subst hEA
    have c1 : cLo cl L (T (eS + 1)) = 1 ∧ cHi cl H (T (eS + 1)) = 1 := by
      have a1 := (cand_iff (s.p (eS + 1)) (Nat.le_refl 1)).2 (by rw [Nat.one_mul]; exact hA)
      have a2 := cLo_pos cl L (T (eS + 1))
      have a3 : cHi cl H (T (eS + 1)) ≤ 1 := by
        rcases Nat.lt_or_ge 1 (cHi cl H (T (eS + 1))) with h | h
        · have := (s.top hKS (Int.le_refl _) (by omega) ((cand_iff (s.p (eS + 1)) (by omega)).1 ⟨by omega, Nat.le_refl _⟩)).2
          omega
        · exact h
      omega
    have en : nrN V (T (eS + 1)) (cLo cl L (T (eS + 1))) (cHi cl H (T (eS + 1))) = 1 := by
      rw [c1.1, c1.2]
      unfold nrN
      omega
    rw [en] at hk1 hk2
    have hk' : k = 1 := ten_uniq hk (Nat.le_refl 1) hk1 hk2 (by decide) (by decide)
    subst hk'
    -- the reference ends at once
    obtain ⟨a1, a2, a3, a4, a5⟩ := around (cl := cl) pS hlv hvh hlo
    have d9 : V / T eS ≤ 9 := by
      have : V / T eS < 10 := (Nat.div_lt_iff_lt_mul pS).2 (by omega)
      omega
    have hV1 := dt_lt (V := V) pS
    have hV0 := dt_le V (T eS)
    have hmd : V % T eS = V - V / T eS * T eS := by have := Nat.div_add_mod V (T eS); rw [Nat.mul_comm] at this; omega
    have h10 : (V / T eS + 1) * T eS ≤ 10 * T eS := Nat.mul_le_mul_right _ (by omega)
    have hsum : (V / T eS + 1) * T eS = V / T eS * T eS + T eS := by rw [Nat.add_mul, Nat.one_mul]
    have hhigh : inJ cl L H ((V / T eS + 1) * T eS) = true := inJ_conv (inJ_mid hlv hvh) (by rw [tS] at hA; exact hA) (by omega) h10
    have hueS : u = eS := by
      rcases Int.lt_or_le u eS with h | h
      · exact absurd (by unfold lhN; rw [hhigh, Bool.or_true]) (hum eS h (Int.le_refl _))
      · omega
    subst hueS
    have hcc : cLo cl L (T u) ≤ cHi cl H (T u) := (lh_cand pS hlv hvh hlo).1 hul
    have hch := nr_ch pS hlv hvh hlo hcc
    have hcr := (ch_in pS hlv hvh hlo hcc).2
    have h4 := a4.1 hhigh
    have hR := rrS_iff2 (V := V) (t := T u)
    have f1 : farN V (T (u + 1)) 1 = 10 * T u - V := by rw [far_hi (by omega), tS, Nat.one_mul]
    unfold impR
    dsimp only
    rw [en, show u + 1 - 1 = u by omega, show (10 : Nat) ^ (1 - 1) = 1 from rfl, show (10 : Nat) ^ 1 - 1 = 9 from rfl]
    have hmx : max (cLo cl L (T u)) 1 = cLo cl L (T u) := by have := cLo_pos cl L (T u); omega
    rw [hmx, f1]
    have hn2 : nrN V (T u) (cLo cl L (T u)) (min (cHi cl H (T u)) 9) = min (chS cl L H V (T u)) 9 := by
      rw [← hch]
      unfold nrN
      omega
    rw [hn2]
    by_cases h9 : V / T u ≤ 8
    · -- both multiples have one digit
      left
      have e1 : min (chS cl L H V (T u)) 9 = chS cl L H V (T u) := by omega
      rw [e1]
      have h10' : (V / T u + 1) * T u ≤ 9 * T u := Nat.mul_le_mul_right _ (by omega)
      have hf : farN V (T u) (chS cl L H V (T u)) < 10 * T u - V := by
        rcases (show chS cl L H V (T u) = V / T u + 1 ∨ chS cl L H V (T u) = V / T u by omega) with e | e
        · rw [e, far_hi (by omega)]
          omega
        · rw [e, far_lo hV0]
          unfold chS at e
          by_cases hl : inJ cl L H (V / T u * T u) = true
          · rw [if_pos hl, if_pos hhigh] at e
            omega
          · rw [if_neg hl] at e
            omega
      rw [if_pos ⟨by omega, .inl hf⟩]
    · have hd : V / T u = 9 := by omega
      rw [hd] at hsum hR hV0 hV1 hmd a3 hcr h4 hhigh a2 a1
      by_cases hl : cLo cl L (T u) ≤ 9
      · have e0 : chS cl L H V (T u) = rrS V (T u) := by
          unfold chS
          rw [hd, if_pos (a3.2 hl), if_pos hhigh]
        have hm9 : min (chS cl L H V (T u)) 9 = 9 := by omega
        rw [hm9, far_lo hV0, e0]
        rcases hR with ⟨r1, r2⟩ | ⟨r1, r2⟩
        · right
          rw [r1, if_neg (by omega)]
          exact ⟨rfl, rfl⟩
        · left
          rw [r1, if_pos ⟨by omega, .inl (by omega)⟩]
      · right
        rw [if_neg (by omega)]
        refine ⟨rfl, ?_⟩
        unfold chS
        rw [hd, if_neg (fun z => hl (a3.1 z))]
  · -- it does not
    have hEB : E ≤ eS := by
      rcases Int.lt_or_le eS E with h | h
      · obtain ⟨z1, z2⟩ := s.top hKS (by omega) hm0 hin0
        rw [z1, z2, Nat.one_mul] at hin0
        exact absurd hin0 hA
      · exact h
    have hEu : u = E := by
      rcases Int.lt_trichotomy u E with h | h | h
      · exact absurd ((lh_cand (s.p E) hlv hvh (hle E (by omega) hEB)).2 hc) (hum E h hEB)
      · exact h
      · exact absurd ((lh_cand (s.p u) hlv hvh (hle u (by omega) hu1)).1 hul) (hmax u h (by omega))
    subst hEu
    left
    have pu := s.p u
    have hVu := hle u (by omega) hEB
    have hch := nr_ch pu hlv hvh hVu hc
    obtain ⟨hin, hc1, hc2⟩ := ch_in pu hlv hvh hVu hc
    obtain ⟨N, hN⟩ : ∃ N : Nat, (eS - u).toNat + 1 = N := ⟨_, rfl⟩
    have hTS : T eS = 10 ^ (N - 1) * T u := by rw [s.pow' (show K ≤ u by omega) hEB]; congr 2; omega
    have hTS1 : T (eS + 1) = 10 ^ N * T u := by rw [tS, hTS, ten_split (show 1 ≤ N by omega), Nat.mul_assoc]
    have hD1 : 10 ^ (N - 1) ≤ V / T u := (Nat.le_div_iff_mul_le pu).2 (by omega)
    have hD2 : V / T u < 10 ^ N := (Nat.div_lt_iff_lt_mul pu).2 (by omega)
    have hD3 : chS cl L H V (T u) < 10 ^ N := by
      rcases Nat.lt_or_ge (chS cl L H V (T u)) (10 ^ N) with h | h
      · exact h
      · have : chS cl L H V (T u) = 10 ^ N := by omega
        rw [this, ← hTS1] at hin
        exact absurd hin hA
    rw [hch] at hk1 hk2
    have hkN : k = N := ten_uniq hk (by omega) hk1 hk2 (by omega) hD3
    subst hkN
    unfold impR
    dsimp only
    rw [hch]
    have pu' := s.p (u - 1)
    have tu' := s.t (u - 1) (by omega)
    rw [show u - 1 + 1 = u by omega] at tu'
    by_cases h1 : max (cLo cl L (T (u - 1))) (10 ^ (k - 1)) ≤ min (cHi cl H (T (u - 1))) (10 ^ k - 1)
    · -- a number of as many digits in smaller units: only below 10
      obtain ⟨m, hm⟩ : ∃ m, max (cLo cl L (T (u - 1))) (10 ^ (k - 1)) = m := ⟨_, rfl⟩
      have p10 : 0 < 10 ^ (k - 1) := Nat.pow_pos (by decide)
      have hmin := (cand_iff (cl := cl) (L := L) (H := H) (m := m) pu' (by omega)).1 ⟨by omega, by omega⟩
      have hm2 : m * T (u - 1) ≤ T eS := by
        have a1 : m * T (u - 1) ≤ 10 ^ k * T (u - 1) := Nat.mul_le_mul_right _ (by omega)
        have a2 : 10 ^ k * T (u - 1) = T eS := by rw [ten_split (show 1 ≤ k by omega), Nat.mul_comm 10, Nat.mul_assoc, ← tu', hTS]
        omega
      have hSin : inJ cl L H (T eS) = true := inJ_conv hmin (inJ_mid hlv hvh) hm2 hlo
      have hueS : u = eS := by
        rcases Int.lt_or_le u eS with h | h
        · exact absurd ((cand_ex pS).2 ⟨1, Nat.le_refl _, by rw [Nat.one_mul]; exact hSin⟩) (hmax eS h (by omega))
        · omega
      subst hueS
      have hk1' : k = 1 := by omega
      subst hk1'
      rw [show (10 : Nat) ^ (1 - 1) = 1 from rfl, show (10 : Nat) ^ 1 - 1 = 9 from rfl] at *
      have hm9 : m * T (u - 1) ≤ 9 * T (u - 1) := Nat.mul_le_mul_right _ (by omega)
      have h9V : 9 * T (u - 1) < V := by omega
      have h9in : inJ cl L H (9 * T (u - 1)) = true := inJ_conv hmin (inJ_mid hlv hvh) hm9 (by omega)
      have h9c := ((cand_iff pu' (by decide)).2 h9in).2
      have hr10 : 10 ≤ V / T (u - 1) := (Nat.le_div_iff_mul_le pu').2 (by omega)
      have hr := (rrS_le V (T (u - 1))).1
      have e2 : nrN V (T (u - 1)) (max (cLo cl L (T (u - 1))) 1) (min (cHi cl H (T (u - 1))) 9) = 9 := by
        unfold nrN
        omega
      have hlow : inJ cl L H (V / T u * T u) = true := inJ_conv hSin (inJ_mid hlv hvh) (by have : 1 * T u ≤ V / T u * T u := Nat.mul_le_mul_right _ (by omega); omega) (dt_le V (T u))
      have hR := rrS_iff2 (V := V) (t := T u)
      have hV1 := dt_lt (V := V) pu
      have hV0 := dt_le V (T u)
      have hmd : V % T u = V - V / T u * T u := by have := Nat.div_add_mod V (T u); rw [Nat.mul_comm] at this; omega
      have hsum : (V / T u + 1) * T u = V / T u * T u + T u := by rw [Nat.add_mul, Nat.one_mul]
      have hone : T u ≤ V / T u * T u := by have : 1 * T u ≤ V / T u * T u := Nat.mul_le_mul_right _ (by omega); omega
      have hf : farN V (T u) (chS cl L H V (T u)) < farN V (T (u - 1)) 9 := by
        rw [far_lo (n := 9) (by omega)]
        unfold chS
        rw [if_pos hlow]
        split
        · rcases hR with ⟨r1, r2⟩ | ⟨r1, r2⟩
          · rw [r1, far_hi (by omega)]
            omega
          · rw [r1, far_lo hV0]
            omega
        · rw [far_lo hV0]
          omega
      rw [e2, if_neg (by omega)]
    · rw [if_neg (fun z => h1 z.1)]
end
end Go.Proofs.YtgknelgplmohoaaDoor.M
end
section
namespace Go.Proofs.YtgknelgplmohoaaDoor.M
open Go.RowKit Go.Proofs.YtgknelgplmohoaaDoor.G Go.Proofs.YtgknelgplmohoaaDoorV.PrintWords Go.Proofs.YtgknelgplmohoaaDoorV.PrintLast Go.Proofs.YtgknelgplmohoaaDoor.X
set_option linter.unusedVariables false
set_option linter.unusedSimpArgs false
theorem field_up (x s n E : Nat) (h : n + 1 ≤ E) : x / 2 ^ (s + (n + 1)) % 2 ^ (E - (n + 1)) * 2 + x / 2 ^ (s + n) % 2 = x / 2 ^ (s + n) % 2 ^ (E - n) := by
 have e1 : x / 2 ^ (s + (n + 1)) = x / 2 ^ (s + n) / 2 := by rw [Nat.div_div_eq_div_mul, ← Nat.pow_succ]; rfl
 have e2 : (2 : Nat) ^ (E - n) = 2 * 2 ^ (E - (n + 1)) := by rw [Nat.mul_comm, ← Nat.pow_succ]; congr 1; omega
 rw [e1, e2, Nat.mod_mul, Nat.add_comm, Nat.mul_comm]
theorem ct_spec_Unpack {P : Nat} {emin emax : Int} {W E : Nat} {ex : Bool} (h : Fmt P emin emax W E ex) (f : Int) (hf : spec_Describe.f f = some ((P : Int), emin, emax, (W : Int), (E : Int), ex)) (x : Nat) (hx : x < B128) : CtV Tryd.prog 28 [.int .i64 f, .agg #[.int .u64 (hiI x), .int .u64 (loI x)]] [] (prtV (unpN P emin emax W E ex x)) := by
 refine ct_of Tryd.func28 rfl (by kernel_rfl) (fun B w0 => ?_)
 have p0 := h.p0
 have p1 := h.p1
 have w1 := h.w1
 have w2 := h.w2
 have e1 := h.e1
 obtain ⟨m, hm⟩ := bits_ex x
 have hb := bits_lt (k := W) hm
 have sm : Sm x := sm128 (Nat.lt_of_lt_of_le hx (by decide))
 have fN : fracN P ex ≤ P := by unfold fracN; split <;> omega
 have sf : Sm (x % 2 ^ fracN P ex) := sm.mono (Nat.mod_le _ _)
 refine xg ?_
 refine xb 3 [.int .u64 (hiI x), .int .u64 (loI x)] 28 (fun g0 => ?_)
 refine xb 4 [.int .i64 0, .bool false, .int .u64 0, .int .u64 0, .int .i64 0] 33 (fun g1 => ?_)
 refine xz [] [] ?_
 refine xg ?_
 refine xn 1 [] [(16, .int .i64 f)] ?_
 refine xcv 17 (ct_spec_Describe (f) hf) zs0 ?_
 refine xb 5 [.int .i64 0, .int .i64 0, .int .i64 0, .int .i64 0, .int .i64 0, .bool false] 85 (fun g2 => ?_)
 refine xy [(3, [2])] [] [(2, [.int .i64 (P : Int), .int .i64 emin, .int .i64 emax, .int .i64 (W : Int), .int .i64 (E : Int), .bool ex])] ?_
 refine SW_seq ?_
 refine xr [(1, [2])] [(20, .bool ((P : Int) == 0))] ?_
 refine xs ((P : Int) == 0) (fun q0 => ?_) (fun q0 => ?_)
 ·exfalso
  have := beq_iff_eq.1 q0
  omega
 ·refine SW_skip ?_
  refine xg ?_
  refine xn 1 [(0, [0])] [(22, .agg #[.int .u64 (hiI x), .int .u64 (loI x)])] ?_
  refine xcr 23 (ct_spec_l2Of (x) hx) zs0 (fun A0 k0 => ?_)
  refine xz [] [(6, .slice A0 (List.length (ofN B32 x)) k0)] ?_
  refine SW_seq ?_
  refine xd (fun hB => ?_)
  refine xdk [(0, []), (2, []), (3, [2])] [(27, .int .i64 (W : Int)), (24, .slice A0 (List.length (ofN B32 x)) k0)] hB ?_
  refine xdv 1 25 (ct_spec_l1Bits (x) (A0) (k0) sm (m) hm) (zsS zi0 zs0) ?_
  refine xdk [(4, [])] [(28, .bool (decide ((m : Int) > (W : Int))))] hB ?_
  refine xdz ?_
  refine xs (decide ((m : Int) > (W : Int))) (fun q1 => ?_) (fun q1 => ?_)
  ·refine xq [(1, [1])] [] [] ?_
   refine SW_ret ?_
   refine xe () (.agg #[.int .i64 0, .bool false, .int .u64 0, .int .u64 0, .int .i64 0]) [1] ?_ trivial
   rw [unpN, if_pos]
   ·rfl
   ·have := of_decide_eq_true q1
    exact Nat.le_of_not_lt (fun z => by have := hb.2 z; omega)
  ·have hW : x < 2 ^ W := hb.1 (by have := of_decide_eq_false q1; omega)
   refine SW_skip ?_
   refine xr [(1, [2])] [(7, .int .i64 (IntKind.wrap IntKind.i64 ((P : Int) - 1)))] ?_
   refine SW_cut (fun s' => ∃ a, Nn a (fracN P ex) ∧ Weak s' ⟨[(0, .int .i64 f), (4, .pointer (some ⟨g1, 0, none⟩)), (5, .pointer (some ⟨g2, 0, none⟩)), (6, .slice A0 (ofN B32 x).length k0), (7, .int .i64 a)], [⟨g0, [.int .u64 (hiI x), .int .u64 (loI x)], 28⟩, ⟨g1, [.int .i64 0, .bool false, .int .u64 0, .int .u64 0, .int .i64 0], 33⟩, ⟨g2, [.int .i64 P, .int .i64 emin, .int .i64 emax, .int .i64 W, .int .i64 E, .bool ex], 85⟩], [Row .u64 A0 k0 (ofN B32 x)]⟩) ?_ ?_
   ·refine xr [(1, [2])] [(34, .bool ex)] ?_
    refine xs (ex) (fun q2 => ?_) (fun q2 => ?_)
    ·refine xrl [(1, [2])] [(7, .int .i64 (P : Int))] ?_
     exact ⟨(P : Int), ⟨by unfold fracN; rw [if_pos q2]⟩, Weak.mk' (by kernel_rfl) rfl (zsS zi0 zs0)⟩
    ·refine SW_skip ?_
     exact ⟨IntKind.i64.wrap ((P : Int) - 1), Nn.wrap (by unfold fracN; rw [q2, if_neg (by decide)]; omega) (by omega), Weak.mk' (by kernel_rfl) rfl (zsS zi0 zs0)⟩
   ·rintro s' ⟨a, na, hw⟩
    refine SW_weak hw ?_
    refine xg ?_
    refine xn 2 [] [(38, .int .i64 a), (37, .slice A0 (List.length (ofN B32 x)) k0)] ?_
    refine xcr 39 (ct_spec_l2Low (x) (A0) (k0) (a) (fracN P ex) na (by omega) sm) (zsS zi0 zs0) (fun A1 k1 => ?_)
    refine xz [] [(8, .slice A1 (List.length (ofN B32 (x % 2 ^ fracN P ex))) k1)] ?_
    refine xr [] [(9, .int .i64 0)] ?_
    refine SW_seq ?_
    refine xr [(1, [2])] [(10, .int .i64 (IntKind.wrap IntKind.i64 ((E : Int) - 1)))] ?_
    refine SW_block ?_
    refine SW_loopn (fun n s' => n ≤ E ∧ ∃ e i, e = ((x / 2 ^ (fracN P ex + n) % 2 ^ (E - n) : Nat) : Int) ∧ i = (n : Int) - 1 ∧ Weak s' ⟨[(4, .pointer (some ⟨g1, 0, none⟩)), (5, .pointer (some ⟨g2, 0, none⟩)), (6, .slice A0 (ofN B32 x).length k0), (7, .int .i64 a), (8, .slice A1 (ofN B32 (x % 2 ^ fracN P ex)).length k1), (9, .int .i64 e), (10, .int .i64 i)], [⟨g0, [.int .u64 (hiI x), .int .u64 (loI x)], 28⟩, ⟨g1, [.int .i64 0, .bool false, .int .u64 0, .int .u64 0, .int .i64 0], 33⟩, ⟨g2, [.int .i64 P, .int .i64 emin, .int .i64 emax, .int .i64 W, .int .i64 E, .bool ex], 85⟩], [Row .u64 A0 k0 (ofN B32 x), Row .u64 A1 k1 (ofN B32 (x % 2 ^ fracN P ex))]⟩) E ?_ ?_
    ·exact ⟨Nat.le_refl _, _, _, by rw [Nat.sub_self, Nat.pow_zero, Nat.mod_one], wsi (by omega), Weak.mk' (by kernel_rfl) rfl (zsS (ziS zi0) (zsS zi0 zs0))⟩
    ·rintro n s' ⟨hn, e, i, he, hi, hw⟩
     refine SW_weak hw ?_
     refine SW_seq ?_
     refine xr [] [(44, .bool (decide (i ≥ 0)))] ?_
     refine xs (decide (i ≥ 0)) (fun q2 => ?_) (fun q2 => ?_)
     ·have hi0 : 0 ≤ i := of_decide_eq_true q2
      obtain ⟨j, rfl⟩ : ∃ j, n = j + 1 := ⟨n - 1, by omega⟩
      have nb : Nn (IntKind.i64.wrap (a + i)) (fracN P ex + j) := Nn.wrap (by rw [na.out]; omega) (by omega)
      refine SW_skip ?_
      refine SW_seq ?_
      refine SW_block ?_
      refine SW_region ?_
      refine xn 6 [] [(52, .int .i64 (IntKind.wrap IntKind.i64 (a + i))), (49, .slice A0 (List.length (ofN B32 x)) k0), (48, .int .i64 (IntKind.wrap IntKind.i64 (e * 2)))] ?_
      refine xcv 53 (ct_spec_l1Bit (x) (A0) (k0) (IntKind.wrap IntKind.i64 (a + i)) (fracN P ex + j) nb (by omega) sm) (zsS zi0 zs0) ?_
      refine xz [] [(9, .int .i64 (IntKind.wrap IntKind.i64 (IntKind.wrap IntKind.i64 (e * 2) + IntKind.wrap IntKind.i64 (((x / 2 ^ (fracN P ex + j) % 2) : Nat) : Int))))] ?_
      refine xrl [] [(10, .int .i64 (IntKind.wrap IntKind.i64 (i - 1)))] ?_
      refine ⟨j, Nat.lt_succ_self j, by omega, ?_⟩
      refine ⟨(IntKind.wrap IntKind.i64 (IntKind.wrap IntKind.i64 (e * 2) + IntKind.wrap IntKind.i64 (((x / 2 ^ (fracN P ex + j) % 2) : Nat) : Int)) : Int), (IntKind.wrap IntKind.i64 (i - 1) : Int), ?_, ?_, xw (zsS zi0 (zsS (ziS zi0) zs0))⟩
      ·have hp : x / 2 ^ (fracN P ex + (j + 1)) % 2 ^ (E - (j + 1)) < 2 ^ (E - (j + 1)) := Nat.mod_lt _ (Nat.pow_pos (by decide))
       have hp2 : 2 ^ (E - (j + 1)) ≤ 2 ^ 15 := Nat.pow_le_pow_right (by decide) (by omega)
       have hp3 : x / 2 ^ (fracN P ex + j) % 2 < 2 := Nat.mod_lt _ (by decide)
       rw [← field_up x _ _ _ hn, he, wsi (x := _ * 2) (by omega), wsi (x := ((_ % 2 : Nat) : Int)) (by omega), wsi (by omega)]
       omega
      ·rw [wsi (by omega)]
       omega
     ·have hi0 : ¬ 0 ≤ i := of_decide_eq_false q2
      obtain rfl : n = 0 := by omega
      have nW : Nn (IntKind.i64.wrap ((W : Int) - 1)) (W - 1) := Nn.wrap (by omega) (by omega)
      obtain ⟨F, hF⟩ : ∃ F, F = x / 2 ^ fracN P ex % 2 ^ E := ⟨_, rfl⟩
      obtain ⟨ng, hng⟩ : ∃ ng : Bool, ng = (((x / 2 ^ (W - 1) % 2 : Nat) : Int) == 1) := ⟨_, rfl⟩
      have heF : e = (F : Int) := by rw [he, hF]; rfl
      refine SW_exit ?_
      refine xg ?_
      refine xn 4 [(2, [2])] [(59, .int .i64 (IntKind.wrap IntKind.i64 ((W : Int) - 1))), (56, .slice A0 (List.length (ofN B32 x)) k0)] ?_
      refine xcv 60 (ct_spec_l1Bit (x) (A0) (k0) (IntKind.wrap IntKind.i64 ((W : Int) - 1)) (W - 1) nW (by omega) sm) (zsS zi0 zs0) ?_
      refine xn 7 [] [(62, .agg #[.int .i64 0, .bool ((((x / 2 ^ (W - 1) % 2) : Nat) : Int) == 1), .int .u64 0, .int .u64 0, .int .i64 0])] ?_
      refine xb 11 [.int .i64 0, .bool false, .int .u64 0, .int .u64 0, .int .i64 0] 33 (fun g3 => ?_)
      refine xy [(8, [3])] [] [(3, [.int .i64 0, .bool ((((x / 2 ^ (W - 1) % 2) : Nat) : Int) == 1), .int .u64 0, .int .u64 0, .int .i64 0])] ?_
      refine xr [] [(12, .int .i64 1)] ?_
      refine SW_seq ?_
      refine xr [] [(13, .int .i64 0)] ?_
      refine SW_block ?_
      refine SW_loopn (fun n s' => n ≤ E ∧ ∃ t i, t = ((2 ^ (E - n) : Nat) : Int) ∧ i = ((E - n : Nat) : Int) ∧ Weak s' ⟨[(4, .pointer (some ⟨g1, 0, none⟩)), (5, .pointer (some ⟨g2, 0, none⟩)), (8, .slice A1 (ofN B32 (x % 2 ^ fracN P ex)).length k1), (9, .int .i64 e), (11, .pointer (some ⟨g3, 0, none⟩)), (12, .int .i64 t), (13, .int .i64 i)], [⟨g0, [.int .u64 (hiI x), .int .u64 (loI x)], 28⟩, ⟨g1, [.int .i64 0, .bool false, .int .u64 0, .int .u64 0, .int .i64 0], 33⟩, ⟨g2, [.int .i64 P, .int .i64 emin, .int .i64 emax, .int .i64 W, .int .i64 E, .bool ex], 85⟩, ⟨g3, [.int .i64 0, .bool ng, .int .u64 0, .int .u64 0, .int .i64 0], 33⟩], [Row .u64 A1 k1 (ofN B32 (x % 2 ^ fracN P ex))]⟩) E ?_ ?_
      ·refine ⟨Nat.le_refl _, ?_⟩
       rw [hng]
       refine ⟨(1 : Int), (0 : Int), ?_, ?_, xw (zsS (ziS zi0) zs0)⟩
       ·rw [Nat.sub_self]; rfl
       ·rw [Nat.sub_self]; rfl
      ·rintro n s' ⟨hn, t, i, ht, hi, hw⟩
       refine SW_weak hw ?_
       have h2 : 2 ^ (E - n) ≤ 2 ^ 15 := Nat.pow_le_pow_right (by decide) (by omega)
       refine SW_seq ?_
       refine xr [(2, [2])] [(66, .bool (decide (i < (E : Int))))] ?_
       refine xs (decide (i < (E : Int))) (fun q3 => ?_) (fun q3 => ?_)
       ·have hlt : i < E := of_decide_eq_true q3
        refine SW_skip ?_
        refine SW_seq ?_
        refine SW_block ?_
        refine xrl [] [(12, .int .i64 (IntKind.wrap IntKind.i64 (t * 2)))] ?_
        refine xrl [] [(13, .int .i64 (IntKind.wrap IntKind.i64 (i + 1)))] ?_
        refine ⟨n - 1, by omega, by omega, ?_⟩
        refine ⟨(IntKind.wrap IntKind.i64 (t * 2) : Int), (IntKind.wrap IntKind.i64 (i + 1) : Int), ?_, ?_, xw (zsS zi0 zs0)⟩
        ·have h3 : 2 ^ (E - (n - 1)) = 2 ^ (E - n) * 2 := by rw [show E - (n - 1) = (E - n) + 1 by omega, Nat.pow_succ]
         rw [ht, h3]
         generalize 2 ^ (E - n) = v at h2 ⊢
         have h4 : (2 : Nat) ^ 15 = 32768 := rfl
         rw [wsi (by omega)]
         omega
        ·rw [wsi (by omega)]; omega
       ·have hge : ¬ i < E := of_decide_eq_false q3
        obtain rfl : n = 0 := by omega
        rw [Nat.sub_zero] at ht h2
        have hT0 : 2 ≤ 2 ^ E := Nat.pow_le_pow_right (n := 2) (by decide) h.e0
        have htop : IntKind.i64.wrap (t - 1) = ((2 ^ E - 1 : Nat) : Int) := by
         rw [ht]
         have h4 : (2 : Nat) ^ 15 = 32768 := rfl
         generalize 2 ^ E = v at h2 hT0
         rw [wsi (by omega)]
         omega
        have nP : Nn (IntKind.i64.wrap ((P : Int) - 1)) (P - 1) := Nn.wrap (by omega) (by omega)
        have hng2 : ng = decide (x / 2 ^ (W - 1) % 2 = 1) := by
         rw [hng, Bool.eq_iff_iff, beq_iff_eq, decide_eq_true_iff]
         omega
        refine SW_exit ?_
        refine xr [] [(12, .int .i64 (IntKind.wrap IntKind.i64 (t - 1)))] ?_
        refine xr [] [(14, .bool true)] ?_
        refine xr [] [(15, .slice A1 (List.length (ofN B32 (x % 2 ^ fracN P ex))) k1)] ?_
        refine SW_cut (fun s' => ∃ A c, unpN P emin emax W E ex x = partsOf P emin emax E F ng (x % 2 ^ (P - 1)) ∧ Weak s' ⟨[(4, .pointer (some ⟨g1, 0, none⟩)), (5, .pointer (some ⟨g2, 0, none⟩)), (9, .int .i64 e), (11, .pointer (some ⟨g3, 0, none⟩)), (12, .int .i64 (IntKind.i64.wrap (t - 1))), (15, .slice A (ofN B32 (x % 2 ^ (P - 1))).length c)], [⟨g0, [.int .u64 (hiI x), .int .u64 (loI x)], 28⟩, ⟨g1, [.int .i64 0, .bool false, .int .u64 0, .int .u64 0, .int .i64 0], 33⟩, ⟨g2, [.int .i64 P, .int .i64 emin, .int .i64 emax, .int .i64 W, .int .i64 E, .bool ex], 85⟩, ⟨g3, [.int .i64 0, .bool ng, .int .u64 0, .int .u64 0, .int .i64 0], 33⟩], [Row .u64 A c (ofN B32 (x % 2 ^ (P - 1)))]⟩) ?_ ?_
        ·refine xr [(1, [2])] [(75, .bool ex)] ?_
         refine xs (ex) (fun q4 => ?_) (fun q4 => ?_)
         ·have hf2 : fracN P ex = P := by unfold fracN; rw [if_pos q4]
          have hmm : x % 2 ^ P % 2 ^ (P - 1) = x % 2 ^ (P - 1) := Nat.mod_mod_of_dvd _ (Nat.pow_dvd_pow 2 (by omega))
          rw [hf2] at sf hF
          rw [hf2]
          have hbit : (((x % 2 ^ P / 2 ^ (P - 1) % 2 : Nat) : Int) == 1) = decide (2 ^ (P - 1) ≤ x % 2 ^ P) := by
           rw [bit_top (v := x % 2 ^ P) (m := P - 1) (by rw [show P - 1 + 1 = P by omega]; exact Nat.mod_lt _ (Nat.pow_pos (by decide)))]
           by_cases hL : 2 ^ (P - 1) ≤ x % 2 ^ P
           ·rw [if_pos hL, decide_eq_true hL]; rfl
           ·rw [if_neg hL, decide_eq_false hL]; rfl
          have hbad : ¬ (2 ^ (P - 1) ≤ x % 2 ^ P ↔ F ≠ 0) → unpN P emin emax W E ex x = badP := by
           intro hn
           rw [unpN, if_neg (by omega), if_pos q4, ← hF, if_neg hn]
          have hgood : (2 ^ (P - 1) ≤ x % 2 ^ P ↔ F ≠ 0) → unpN P emin emax W E ex x = partsOf P emin emax E F ng (x % 2 ^ P % 2 ^ (P - 1)) := by
           intro hn
           rw [unpN, if_neg (by omega), if_pos q4, ← hF, if_pos hn, hng2]
          by_cases hF0 : F = 0
          ·have z1 : (e == 0) = true := by rw [heF, hF0]; rfl
           have z2 : decide (e > 0) = false := decide_eq_false (by omega)
           by_cases hL : 2 ^ (P - 1) ≤ x % 2 ^ P
           ·have z3 := hbit.trans (decide_eq_true hL)
            refine xg ?_
            refine xn 4 [(2, [2])] [(79, .int .i64 (IntKind.wrap IntKind.i64 ((P : Int) - 1))), (76, .slice A1 (List.length (ofN B32 (x % 2 ^ P))) k1)] ?_
            refine xcv 80 (ct_spec_l1Bit (x % 2 ^ P) (A1) (k1) (IntKind.wrap IntKind.i64 ((P : Int) - 1)) (P - 1) nP (by omega) sf) (zsS zi0 zs0) ?_
            refine xz [] [(14, .bool ((((x % 2 ^ P / 2 ^ (P - 1) % 2) : Nat) : Int) == 1))] ?_
            refine xg ?_
            refine xn 4 [(2, [2])] [(85, .int .i64 (IntKind.wrap IntKind.i64 ((P : Int) - 1))), (82, .slice A1 (List.length (ofN B32 (x % 2 ^ P))) k1)] ?_
            refine xcr 86 (ct_spec_l2Low (x % 2 ^ P) (A1) (k1) (IntKind.wrap IntKind.i64 ((P : Int) - 1)) (P - 1) nP (by omega) sf) (zsS zi0 zs0) (fun A2 k2 => ?_)
            refine xz [] [(15, .slice A2 (List.length (ofN B32 (x % 2 ^ P % 2 ^ (P - 1)))) k2)] ?_
            refine xg ?_
            refine xn 3 [] [(89, .bool (e == 0))] ?_
            refine xkt 89 z1 ?_
            refine xn 6 [] [(92, .bool ((((x % 2 ^ P / 2 ^ (P - 1) % 2) : Nat) : Int) == 1))] ?_
            refine xkt 92 z3 ?_
            refine xz [] [(99, .bool true)] ?_
            refine xs1 ?_
            refine xq [(1, [1])] [] [] ?_
            refine SW_ret ?_
            refine xe () (.agg #[.int .i64 0, .bool false, .int .u64 0, .int .u64 0, .int .i64 0]) [1] ?_ trivial
            rw [hbad (fun z => z.1 hL hF0)]
            rfl
           ·have z3 := hbit.trans (decide_eq_false hL)
            refine xg ?_
            refine xn 4 [(2, [2])] [(79, .int .i64 (IntKind.wrap IntKind.i64 ((P : Int) - 1))), (76, .slice A1 (List.length (ofN B32 (x % 2 ^ P))) k1)] ?_
            refine xcv 80 (ct_spec_l1Bit (x % 2 ^ P) (A1) (k1) (IntKind.wrap IntKind.i64 ((P : Int) - 1)) (P - 1) nP (by omega) sf) (zsS zi0 zs0) ?_
            refine xz [] [(14, .bool ((((x % 2 ^ P / 2 ^ (P - 1) % 2) : Nat) : Int) == 1))] ?_
            refine xg ?_
            refine xn 4 [(2, [2])] [(85, .int .i64 (IntKind.wrap IntKind.i64 ((P : Int) - 1))), (82, .slice A1 (List.length (ofN B32 (x % 2 ^ P))) k1)] ?_
            refine xcr 86 (ct_spec_l2Low (x % 2 ^ P) (A1) (k1) (IntKind.wrap IntKind.i64 ((P : Int) - 1)) (P - 1) nP (by omega) sf) (zsS zi0 zs0) (fun A2 k2 => ?_)
            refine xz [] [(15, .slice A2 (List.length (ofN B32 (x % 2 ^ P % 2 ^ (P - 1)))) k2)] ?_
            refine xg ?_
            refine xn 3 [] [(89, .bool (e == 0))] ?_
            refine xkt 89 z1 ?_
            refine xn 6 [] [(92, .bool ((((x % 2 ^ P / 2 ^ (P - 1) % 2) : Nat) : Int) == 1))] ?_
            refine xkf 92 z3 ?_
            refine xn 9 [] [(95, .bool (decide (e > 0)))] ?_
            refine xkf 95 z2 ?_
            refine xz [] [(99, .bool false)] ?_
            refine xs0 ?_
            refine SW_skip ?_
            rw [← hmm]
            refine ⟨(A2), (k2), ?_, xw (zsS zi0 zs0)⟩
            exact hgood ⟨fun z => absurd z hL, fun z => absurd hF0 z⟩
          ·have z1 : (e == 0) = false := by rw [heF, beq_eq_false_iff_ne]; omega
           have z2 : decide (e > 0) = true := decide_eq_true (by omega)
           by_cases hL : 2 ^ (P - 1) ≤ x % 2 ^ P
           ·have z3 := hbit.trans (decide_eq_true hL)
            have z4 : (!(((x % 2 ^ P / 2 ^ (P - 1) % 2 : Nat) : Int) == 1)) = false := by rw [z3]; rfl
            refine xg ?_
            refine xn 4 [(2, [2])] [(79, .int .i64 (IntKind.wrap IntKind.i64 ((P : Int) - 1))), (76, .slice A1 (List.length (ofN B32 (x % 2 ^ P))) k1)] ?_
            refine xcv 80 (ct_spec_l1Bit (x % 2 ^ P) (A1) (k1) (IntKind.wrap IntKind.i64 ((P : Int) - 1)) (P - 1) nP (by omega) sf) (zsS zi0 zs0) ?_
            refine xz [] [(14, .bool ((((x % 2 ^ P / 2 ^ (P - 1) % 2) : Nat) : Int) == 1))] ?_
            refine xg ?_
            refine xn 4 [(2, [2])] [(85, .int .i64 (IntKind.wrap IntKind.i64 ((P : Int) - 1))), (82, .slice A1 (List.length (ofN B32 (x % 2 ^ P))) k1)] ?_
            refine xcr 86 (ct_spec_l2Low (x % 2 ^ P) (A1) (k1) (IntKind.wrap IntKind.i64 ((P : Int) - 1)) (P - 1) nP (by omega) sf) (zsS zi0 zs0) (fun A2 k2 => ?_)
            refine xz [] [(15, .slice A2 (List.length (ofN B32 (x % 2 ^ P % 2 ^ (P - 1)))) k2)] ?_
            refine xg ?_
            refine xn 3 [] [(89, .bool (e == 0))] ?_
            refine xkf 89 z1 ?_
            refine xn 9 [] [(95, .bool (decide (e > 0))), (92, .bool false)] ?_
            refine xkt 95 z2 ?_
            refine xz [] [(99, .bool !(((x % 2 ^ P / 2 ^ (P - 1) % 2) : Nat) : Int) == 1)] ?_
            refine xsf z4 ?_
            refine SW_skip ?_
            rw [← hmm]
            refine ⟨(A2), (k2), ?_, xw (zsS zi0 zs0)⟩
            exact hgood ⟨fun _ => hF0, fun _ => hL⟩
           ·have z3 := hbit.trans (decide_eq_false hL)
            have z4 : (!(((x % 2 ^ P / 2 ^ (P - 1) % 2 : Nat) : Int) == 1)) = true := by rw [z3]; rfl
            refine xg ?_
            refine xn 4 [(2, [2])] [(79, .int .i64 (IntKind.wrap IntKind.i64 ((P : Int) - 1))), (76, .slice A1 (List.length (ofN B32 (x % 2 ^ P))) k1)] ?_
            refine xcv 80 (ct_spec_l1Bit (x % 2 ^ P) (A1) (k1) (IntKind.wrap IntKind.i64 ((P : Int) - 1)) (P - 1) nP (by omega) sf) (zsS zi0 zs0) ?_
            refine xz [] [(14, .bool ((((x % 2 ^ P / 2 ^ (P - 1) % 2) : Nat) : Int) == 1))] ?_
            refine xg ?_
            refine xn 4 [(2, [2])] [(85, .int .i64 (IntKind.wrap IntKind.i64 ((P : Int) - 1))), (82, .slice A1 (List.length (ofN B32 (x % 2 ^ P))) k1)] ?_
            refine xcr 86 (ct_spec_l2Low (x % 2 ^ P) (A1) (k1) (IntKind.wrap IntKind.i64 ((P : Int) - 1)) (P - 1) nP (by omega) sf) (zsS zi0 zs0) (fun A2 k2 => ?_)
            refine xz [] [(15, .slice A2 (List.length (ofN B32 (x % 2 ^ P % 2 ^ (P - 1)))) k2)] ?_
            refine xg ?_
            refine xn 3 [] [(89, .bool (e == 0))] ?_
            refine xkf 89 z1 ?_
            refine xn 9 [] [(95, .bool (decide (e > 0))), (92, .bool false)] ?_
            refine xkt 95 z2 ?_
            refine xz [] [(99, .bool !(((x % 2 ^ P / 2 ^ (P - 1) % 2) : Nat) : Int) == 1)] ?_
            refine xst z4 ?_
            refine xq [(1, [1])] [] [] ?_
            refine SW_ret ?_
            refine xe () (.agg #[.int .i64 0, .bool false, .int .u64 0, .int .u64 0, .int .i64 0]) [1] ?_ trivial
            rw [hbad (fun z => hL (z.2 hF0))]
            rfl
         ·have hf2 : fracN P ex = P - 1 := by unfold fracN; rw [q4]; rfl
          refine SW_skip ?_
          rw [← hf2]
          refine ⟨(A1), (k1), ?_, xw (zsS zi0 zs0)⟩
          rw [unpN, if_neg (by omega), if_neg (by rw [q4]; decide), ← hf2, hng2, hF]
        ·rintro s' ⟨A, c, hU, hw⟩
         refine SW_weak hw ?_
         rw [hU]
         have bR : x % 2 ^ (P - 1) < B128 := Nat.lt_of_le_of_lt (Nat.mod_le _ _) hx
         have sR : Sm (x % 2 ^ (P - 1)) := sm.mono (Nat.mod_le _ _)
         have sT : Sm (2 ^ (P - 1)) := Sm.of (k := P) (Nat.pow_lt_pow_right (by decide) (by omega)) (by omega)
         have bS : x % 2 ^ (P - 1) + 2 ^ (P - 1) < B128 := by
          have y1 := Nat.mod_lt x (Nat.pow_pos (n := P - 1) (show 0 < 2 by decide))
          have y2 : 2 ^ P = 2 * 2 ^ (P - 1) := by rw [Nat.mul_comm, ← Nat.pow_succ]; congr 1; omega
          have y3 : 2 ^ P ≤ 2 ^ 127 := Nat.pow_le_pow_right (by decide) (by omega)
          have y4 : (2 : Nat) ^ 127 < B128 := by decide
          omega
         have hz : ((((ofN B32 (x % 2 ^ (P - 1))).length : Nat) : Int) == 0) = decide (x % 2 ^ (P - 1) = 0) := by
          have y := ofN_zero B32_2 (x % 2 ^ (P - 1))
          rw [Bool.eq_iff_iff, beq_iff_eq, decide_eq_true_iff, ← y]
          omega
         have hm0 := h.m0
         have hm1 := h.m1
         have hFl : F < 2 ^ E := by rw [hF]; exact Nat.mod_lt _ (Nat.pow_pos (by decide))
         have hE2 : (2 : Nat) ^ 15 = 32768 := rfl
         by_cases c1 : F = 2 ^ E - 1
         ·have z1 : (e == IntKind.i64.wrap (t - 1)) = true := by rw [htop, heF, c1]; exact beq_self_eq_true _
          by_cases c2 : x % 2 ^ (P - 1) = 0
          ·have z2 := hz.trans (decide_eq_true c2)
           refine SW_seq ?_
           refine SW_block ?_
           refine xg ?_
           refine xn 4 [] [(123, .bool (e == IntKind.wrap IntKind.i64 (t - 1)))] ?_
           refine xkt 123 z1 ?_
           refine xz [] [(119, .bool ((((List.length (ofN B32 (x % 2 ^ (P - 1)))) : Nat) : Int) == 0))] ?_
           refine xst z2 ?_
           refine xql [(1, [3])] [] [(3, [.int .i64 4, .bool ng, .int .u64 0, .int .u64 0, .int .i64 0])] ?_
           refine xq [(0, [3]), (1, [1])] [] [(1, [.int .i64 4, .bool ng, .int .u64 0, .int .u64 0, .int .i64 0])] ?_
           refine SW_ret ?_
           refine xe () (.agg #[.int .i64 4, .bool ng, .int .u64 0, .int .u64 0, .int .i64 0]) [1] ?_ trivial
           rw [partsOf, if_pos c1, if_pos c2]
           rfl
          ·have z2 := hz.trans (decide_eq_false c2)
           refine SW_seq ?_
           refine SW_block ?_
           refine xg ?_
           refine xn 4 [] [(123, .bool (e == IntKind.wrap IntKind.i64 (t - 1)))] ?_
           refine xkt 123 z1 ?_
           refine xz [] [(119, .bool ((((List.length (ofN B32 (x % 2 ^ (P - 1)))) : Nat) : Int) == 0))] ?_
           refine xsf z2 ?_
           refine xr [] [(129, .bool (e == IntKind.wrap IntKind.i64 (t - 1)))] ?_
           refine xst z1 ?_
           refine xq [(1, [1])] [] [(1, [.int .i64 5, .bool false, .int .u64 0, .int .u64 0, .int .i64 0])] ?_
           refine SW_ret ?_
           refine xe () (.agg #[.int .i64 5, .bool false, .int .u64 0, .int .u64 0, .int .i64 0]) [1] ?_ trivial
           rw [partsOf, if_pos c1, if_neg c2]
           rfl
         ·have z1 : (e == IntKind.i64.wrap (t - 1)) = false := by rw [htop, heF, beq_eq_false_iff_ne]; omega
          by_cases c3 : F = 0
          ·have z3 : (e == 0) = true := by rw [heF, c3]; rfl
           by_cases c2 : x % 2 ^ (P - 1) = 0
           ·have z2 := hz.trans (decide_eq_true c2)
            refine SW_seq ?_
            refine SW_block ?_
            refine xg ?_
            refine xn 4 [] [(123, .bool (e == IntKind.wrap IntKind.i64 (t - 1)))] ?_
            refine xkf 123 z1 ?_
            refine xz [] [(119, .bool false)] ?_
            refine xs0 ?_
            refine xr [] [(129, .bool (e == IntKind.wrap IntKind.i64 (t - 1)))] ?_
            refine xsf z1 ?_
            refine xg ?_
            refine xn 3 [] [(137, .bool (e == 0))] ?_
            refine xkt 137 z3 ?_
            refine xz [] [(134, .bool ((((List.length (ofN B32 (x % 2 ^ (P - 1)))) : Nat) : Int) == 0))] ?_
            refine xst z2 ?_
            refine xql [(1, [3])] [] [(3, [.int .i64 1, .bool ng, .int .u64 0, .int .u64 0, .int .i64 0])] ?_
            refine xq [(0, [3]), (1, [1])] [] [(1, [.int .i64 1, .bool ng, .int .u64 0, .int .u64 0, .int .i64 0])] ?_
            refine SW_ret ?_
            refine xe () (.agg #[.int .i64 1, .bool ng, .int .u64 0, .int .u64 0, .int .i64 0]) [1] ?_ trivial
            rw [partsOf, if_neg c1, if_pos c3, if_pos c2]
            rfl
           ·have z2 := hz.trans (decide_eq_false c2)
            refine SW_seq ?_
            refine SW_block ?_
            refine xg ?_
            refine xn 4 [] [(123, .bool (e == IntKind.wrap IntKind.i64 (t - 1)))] ?_
            refine xkf 123 z1 ?_
            refine xz [] [(119, .bool false)] ?_
            refine xs0 ?_
            refine xr [] [(129, .bool (e == IntKind.wrap IntKind.i64 (t - 1)))] ?_
            refine xsf z1 ?_
            refine xg ?_
            refine xn 3 [] [(137, .bool (e == 0))] ?_
            refine xkt 137 z3 ?_
            refine xz [] [(134, .bool ((((List.length (ofN B32 (x % 2 ^ (P - 1)))) : Nat) : Int) == 0))] ?_
            refine xsf z2 ?_
            refine xr [] [(143, .bool (e == 0))] ?_
            refine xst z3 ?_
            refine xq [(1, [3])] [] [(3, [.int .i64 2, .bool ng, .int .u64 0, .int .u64 0, .int .i64 0])] ?_
            refine xg ?_
            refine xn 1 [] [(147, .slice A (List.length (ofN B32 (x % 2 ^ (P - 1)))) c)] ?_
            refine xcv 148 (ct_spec_l2Word (x % 2 ^ (P - 1)) (A) (c) bR) (zsS zi0 zs0) ?_
            refine xy [(3, [3])] [] [(3, [.int .i64 2, .bool ng, .int .u64 (hiI (x % 2 ^ (P - 1))), .int .u64 (loI (x % 2 ^ (P - 1))), .int .i64 0])] ?_
            refine xql [(1, [2]), (3, [2]), (7, [3])] [] [(3, [.int .i64 2, .bool ng, .int .u64 (hiI (x % 2 ^ (P - 1))), .int .u64 (loI (x % 2 ^ (P - 1))), .int .i64 (IntKind.wrap IntKind.i64 (IntKind.wrap IntKind.i64 (emin - (P : Int)) + 1))])] ?_
            refine xq [(0, [3]), (1, [1])] [] [(1, [.int .i64 2, .bool ng, .int .u64 (hiI (x % 2 ^ (P - 1))), .int .u64 (loI (x % 2 ^ (P - 1))), .int .i64 (IntKind.wrap IntKind.i64 (IntKind.wrap IntKind.i64 (emin - (P : Int)) + 1))])] ?_
            refine SW_ret ?_
            refine xe () (.agg #[.int .i64 2, .bool ng, .int .u64 (hiI (x % 2 ^ (P - 1))), .int .u64 (loI (x % 2 ^ (P - 1))), .int .i64 (IntKind.wrap IntKind.i64 (IntKind.wrap IntKind.i64 (emin - (P : Int)) + 1))]) [1] ?_ trivial
            rw [partsOf, if_neg c1, if_pos c3, if_neg c2, wsi (x := emin - _) (by omega), wsi (by omega)]
            rfl
          ·have z3 : (e == 0) = false := by rw [heF, beq_eq_false_iff_ne]; omega
           refine SW_seq ?_
           refine SW_block ?_
           refine xg ?_
           refine xn 4 [] [(123, .bool (e == IntKind.wrap IntKind.i64 (t - 1)))] ?_
           refine xkf 123 z1 ?_
           refine xz [] [(119, .bool false)] ?_
           refine xs0 ?_
           refine xr [] [(129, .bool (e == IntKind.wrap IntKind.i64 (t - 1)))] ?_
           refine xsf z1 ?_
           refine xg ?_
           refine xn 3 [] [(137, .bool (e == 0))] ?_
           refine xkf 137 z3 ?_
           refine xz [] [(134, .bool false)] ?_
           refine xs0 ?_
           refine xr [] [(143, .bool (e == 0))] ?_
           refine xsf z3 ?_
           refine xq [(1, [3])] [] [(3, [.int .i64 3, .bool ng, .int .u64 0, .int .u64 0, .int .i64 0])] ?_
           refine xg ?_
           refine xn 4 [(2, [2])] [(105, .int .i64 (IntKind.wrap IntKind.i64 ((P : Int) - 1))), (102, .slice A (List.length (ofN B32 (x % 2 ^ (P - 1)))) c)] ?_
           refine xcr 106 (ct_spec_l2Two (IntKind.wrap IntKind.i64 ((P : Int) - 1)) (P - 1) nP (by omega)) zs0 (fun A2 k2 => ?_)
           refine xcr 107 (ct_spec_l1Add (x % 2 ^ (P - 1)) (2 ^ (P - 1)) (A) (A2) (c) (k2) sR sT) (zsS (ziS zi0) (zsS zi0 zs0)) (fun A3 k3 => ?_)
           refine xcv 108 (ct_spec_l2Word (x % 2 ^ (P - 1) + 2 ^ (P - 1)) (A3) (k3) bS) (zsS zi0 zs0) ?_
           refine xy [(8, [3])] [] [(3, [.int .i64 3, .bool ng, .int .u64 (hiI (x % 2 ^ (P - 1) + 2 ^ (P - 1))), .int .u64 (loI (x % 2 ^ (P - 1) + 2 ^ (P - 1))), .int .i64 0])] ?_
           refine xql [(2, [2]), (5, [2]), (9, [3])] [] [(3, [.int .i64 3, .bool ng, .int .u64 (hiI (x % 2 ^ (P - 1) + 2 ^ (P - 1))), .int .u64 (loI (x % 2 ^ (P - 1) + 2 ^ (P - 1))), .int .i64 (IntKind.wrap IntKind.i64 (IntKind.wrap IntKind.i64 (IntKind.wrap IntKind.i64 (e - emax) - (P : Int)) + 1))])] ?_
           refine xq [(0, [3]), (1, [1])] [] [(1, [.int .i64 3, .bool ng, .int .u64 (hiI (x % 2 ^ (P - 1) + 2 ^ (P - 1))), .int .u64 (loI (x % 2 ^ (P - 1) + 2 ^ (P - 1))), .int .i64 (IntKind.wrap IntKind.i64 (IntKind.wrap IntKind.i64 (IntKind.wrap IntKind.i64 (e - emax) - (P : Int)) + 1))])] ?_
           refine SW_ret ?_
           refine xe () (.agg #[.int .i64 3, .bool ng, .int .u64 (hiI (x % 2 ^ (P - 1) + 2 ^ (P - 1))), .int .u64 (loI (x % 2 ^ (P - 1) + 2 ^ (P - 1))), .int .i64 (IntKind.wrap IntKind.i64 (IntKind.wrap IntKind.i64 (IntKind.wrap IntKind.i64 (e - emax) - (P : Int)) + 1))]) [1] ?_ trivial
           have hF15 : F < 32768 := Nat.lt_of_lt_of_le hFl h2
           rw [partsOf, if_neg c1, if_neg c3, heF, wsi (x := (F : Int) - _) (by omega), wsi (x := (F : Int) - _ - _) (by omega), wsi (by omega)]
           rfl
end Go.Proofs.YtgknelgplmohoaaDoor.M
end
section
namespace Go.Proofs.YtgknelgplmohoaaDoor.M
open Go.RowKit Go.Proofs.YtgknelgplmohoaaDoor.G Go.Proofs.YtgknelgplmohoaaDoorV.PrintWords Go.Proofs.YtgknelgplmohoaaDoorV.PrintLast Go.Proofs.YtgknelgplmohoaaDoor.X
set_option linter.unusedVariables false
set_option linter.unusedSimpArgs false
theorem ct_impl_Unpack {P : Nat} {emin emax : Int} {W E : Nat} {ex : Bool} (h : Fmt P emin emax W E ex) (f : Int) (hf : impl_layoutOf.f f = some ((P : Int), emin, emax, (W : Int), (E : Int), ex, true)) (x : Nat) (hx : x < B128) : CtV Tryd.prog 10 [.int .i64 f, .agg #[.int .u64 (hiI x), .int .u64 (loI x)]] [Tabled] (prtV (unpN P emin emax W E ex x)) := by
 refine ct_of Tryd.func10 rfl (by kernel_rfl) (fun B w0 => ?_)
 have p0 := h.p0
 have p1 := h.p1
 have w1 := h.w1
 have w2 := h.w2
 have e1 := h.e1
 have fN : fracN P ex ≤ P := by unfold fracN; split <;> omega
 have nW : Nn (IntKind.i64.wrap ((W : Int) - 1)) (W - 1) := Nn.wrap (by omega) (by omega)
 have nP : Nn (IntKind.i64.wrap ((P : Int) - 1)) (P - 1) := Nn.wrap (by omega) (by omega)
 have bd : ∀ i, x / i < B128 := fun i => Nat.lt_of_le_of_lt (Nat.div_le_self _ _) hx
 have bm : ∀ i, x % i < B128 := fun i => Nat.lt_of_le_of_lt (Nat.mod_le _ _) hx
 have hq : (!(hiI (x / 2 ^ W) == 0 && (loI (x / 2 ^ W) == 0))) = decide (2 ^ W ≤ x) := by
  rw [word_eq0, Bool.eq_iff_iff, Bool.not_eq_true', decide_eq_false_iff_not, decide_eq_true_iff]
  have := Nat.pow_pos (n := W) (show 0 < 2 by decide)
  exact ⟨fun hn => Nat.le_of_not_lt (fun z => hn (Nat.div_eq_of_lt z)), fun hn z => by have := Nat.div_pos hn this; omega⟩
 refine xg ?_
 refine xb 3 [.int .u64 (hiI x), .int .u64 (loI x)] 28 (fun g0 => ?_)
 refine xb 4 [.int .i64 0, .bool false, .int .u64 0, .int .u64 0, .int .i64 0] 33 (fun g1 => ?_)
 refine xz [] [] ?_
 refine xg ?_
 refine xn 1 [] [(14, .int .i64 f)] ?_
 refine xcv 15 (ct_impl_layoutOf (f) hf) (zsS zi0 zs0) ?_
 refine xn 5 [] [(17, .bool true), (16, .agg #[.int .i64 (P : Int), .int .i64 emin, .int .i64 emax, .int .i64 (W : Int), .int .i64 (E : Int), .bool ex])] ?_
 refine xb 5 [.int .i64 0, .int .i64 0, .int .i64 0, .int .i64 0, .int .i64 0, .bool false] 95 (fun g2 => ?_)
 refine xy [(6, [2])] [(6, .bool true)] [(2, [.int .i64 (P : Int), .int .i64 emin, .int .i64 emax, .int .i64 (W : Int), .int .i64 (E : Int), .bool ex])] ?_
 refine SW_cut (fun s' => x < 2 ^ W ∧ Weak s' ⟨[(0, .int .i64 f), (3, .pointer (some ⟨g0, 0, none⟩)), (4, .pointer (some ⟨g1, 0, none⟩)), (5, .pointer (some ⟨g2, 0, none⟩))], [⟨g0, [.int .u64 (hiI x), .int .u64 (loI x)], 28⟩, ⟨g1, [.int .i64 0, .bool false, .int .u64 0, .int .u64 0, .int .i64 0], 33⟩, ⟨g2, [.int .i64 P, .int .i64 emin, .int .i64 emax, .int .i64 W, .int .i64 E, .bool ex], 95⟩], [Tabled]⟩) ?_ ?_
 ·by_cases hW : W < 128
  ·have z1 : decide ((W : Int) < 128) = true := decide_eq_true (by omega)
   by_cases hx2 : 2 ^ W ≤ x
   ·have z2 := hq.trans (decide_eq_true hx2)
    refine xg ?_
    refine xn 8 [(5, [2])] [(25, .bool (decide ((W : Int) < 128))), (20, .bool false)] ?_
    refine xkt 25 z1 ?_
    refine xn 12 [(8, [0]), (11, [2])] [(29, .int .i64 (W : Int)), (26, .agg #[.int .u64 (hiI x), .int .u64 (loI x)])] ?_
    refine xcv 30 (ct_impl_Word_right (x) ((W : Int)) (W) ⟨rfl⟩ (by omega) hx) zs0 ?_
    refine xn 14 [] [(31, .agg #[.int .u64 0, .int .u64 0])] ?_
    refine xv 32 (.bool (!((hiI (x / 2 ^ W) == 0) && (loI (x / 2 ^ W) == 0)))) (fun w _ _ => run_neq rfl (by kernel_rfl) (by kernel_rfl) (by kernel_rfl) w (eq_word _ _ _ _ _ w)) ?_
    refine xz [] [(34, .bool !(hiI (x / 2 ^ W) == 0 && loI (x / 2 ^ W) == 0))] ?_
    refine xst z2 ?_
    refine xq [(1, [1])] [] [] ?_
    refine SW_ret ?_
    refine xe () (.agg #[.int .i64 0, .bool false, .int .u64 0, .int .u64 0, .int .i64 0]) [1] ?_ trivial
    rw [unpN, if_pos hx2]
    rfl
   ·have z2 := hq.trans (decide_eq_false hx2)
    refine xg ?_
    refine xn 8 [(5, [2])] [(25, .bool (decide ((W : Int) < 128))), (20, .bool false)] ?_
    refine xkt 25 z1 ?_
    refine xn 12 [(8, [0]), (11, [2])] [(29, .int .i64 (W : Int)), (26, .agg #[.int .u64 (hiI x), .int .u64 (loI x)])] ?_
    refine xcv 30 (ct_impl_Word_right (x) ((W : Int)) (W) ⟨rfl⟩ (by omega) hx) zs0 ?_
    refine xn 14 [] [(31, .agg #[.int .u64 0, .int .u64 0])] ?_
    refine xv 32 (.bool (!((hiI (x / 2 ^ W) == 0) && (loI (x / 2 ^ W) == 0)))) (fun w _ _ => run_neq rfl (by kernel_rfl) (by kernel_rfl) (by kernel_rfl) w (eq_word _ _ _ _ _ w)) ?_
    refine xz [] [(34, .bool !(hiI (x / 2 ^ W) == 0 && loI (x / 2 ^ W) == 0))] ?_
    refine xsf z2 ?_
    refine SW_skip ?_
    refine ⟨?_, xw (zsS zi0 zs0)⟩
    omega
  ·have z1 : decide ((W : Int) < 128) = false := decide_eq_false (by omega)
   have hx2 : x < 2 ^ W := by rw [show W = 128 by omega]; exact hx
   refine xg ?_
   refine xn 8 [(5, [2])] [(25, .bool (decide ((W : Int) < 128))), (20, .bool false)] ?_
   refine xkf 25 z1 ?_
   refine xz [(8, [0])] [(34, .bool false)] ?_
   refine xs0 ?_
   refine SW_skip ?_
   refine ⟨?_, xw (zsS zi0 zs0)⟩
   exact hx2
 ·rintro s' ⟨hxW, hw⟩
  refine SW_weak hw ?_
  clear hw
  have sR : x / 2 ^ fracN P ex % 2 ^ E < 2 ^ 64 := Nat.lt_of_lt_of_le (Nat.mod_lt _ (Nat.pow_pos (by decide))) (Nat.pow_le_pow_right (by decide) (by omega))
  obtain ⟨e, he⟩ : ∃ e, e = x / 2 ^ fracN P ex % 2 ^ E := ⟨_, rfl⟩
  have hel : e < 2 ^ E := by rw [he]; exact Nat.mod_lt _ (Nat.pow_pos (by decide))
  have he9 : IntKind.i64.wrap (loI e) = (e : Int) := by
   have h4 : 2 ^ E ≤ 2 ^ 15 := Nat.pow_le_pow_right (by decide) e1
   have h5 : e < 32768 := Nat.lt_of_lt_of_le hel h4
   unfold loI
   rw [Nat.mod_eq_of_lt (by omega)]
   exact wsi (by omega)
  have be : e < B128 := by rw [he]; exact Nat.lt_of_le_of_lt (Nat.mod_le _ _) (bd _)
  have hng : (!(hiI (x / 2 ^ (W - 1)) == 0 && (loI (x / 2 ^ (W - 1)) == 0))) = decide (x / 2 ^ (W - 1) % 2 = 1) := by
   have h2 : x / 2 ^ (W - 1) < 2 := Nat.div_lt_of_lt_mul (by rw [← Nat.pow_succ, show (W - 1).succ = W by omega]; exact hxW)
   rw [word_eq0, Bool.eq_iff_iff, Bool.not_eq_true', decide_eq_false_iff_not, decide_eq_true_iff]
   exact small2 _ h2
  have lP : ∀ y, y % 2 ^ (P - 1) < 2 ^ (P - 1) := fun y => Nat.mod_lt _ (Nat.pow_pos (by decide))
  rw [show unpN P emin emax W E ex x = if ex = true then (if (2 ^ (P - 1) ≤ x % 2 ^ P ↔ e ≠ 0) then partsOf P emin emax E e (decide (x / 2 ^ (W - 1) % 2 = 1)) (x % 2 ^ P % 2 ^ (P - 1)) else badP) else partsOf P emin emax E e (decide (x / 2 ^ (W - 1) % 2 = 1)) (x % 2 ^ (P - 1)) by
   rw [unpN, if_neg (by omega), he]
   cases ex <;> rfl]
  rw [← hng]
  refine xg ?_
  refine xn 1 [(0, [2])] [(36, .agg #[.int .i64 (P : Int), .int .i64 emin, .int .i64 emax, .int .i64 (W : Int), .int .i64 (E : Int), .bool ex])] ?_
  refine xcv 37 (ct_impl_layout_fracBits h) zs0 ?_
  refine xz [] [(7, .int .i64 (((fracN P ex) : Nat) : Int))] ?_
  refine xg ?_
  refine xn 2 [(0, [0])] [(39, .int .i64 (((fracN P ex) : Nat) : Int)), (38, .agg #[.int .u64 (hiI x), .int .u64 (loI x)])] ?_
  refine xcv 40 (ct_impl_Word_low (x) ((((fracN P ex) : Nat) : Int)) (fracN P ex) ⟨rfl⟩ (by omega) hx) zs0 ?_
  refine xb 8 [.int .u64 0, .int .u64 0] 28 (fun g3 => ?_)
  refine xy [(4, [3])] [] [(3, [.int .u64 (hiI (x % 2 ^ fracN P ex)), .int .u64 (loI (x % 2 ^ fracN P ex))])] ?_
  refine xd (fun hB => ?_)
  refine xdk [(0, [0]), (1, []), (3, []), (4, []), (5, [2])] [(46, .int .i64 (E : Int)), (42, .int .i64 (((fracN P ex) : Nat) : Int)), (41, .agg #[.int .u64 (hiI x), .int .u64 (loI x)])] hB ?_
  refine xdv 2 43 (ct_impl_Word_right (x) ((((fracN P ex) : Nat) : Int)) (fracN P ex) ⟨rfl⟩ (by omega) hx) zs0 ?_
  refine xdv 6 47 (ct_impl_Word_low (x / 2 ^ fracN P ex) ((E : Int)) (E) ⟨rfl⟩ (by omega) (bd _)) zs0 ?_
  refine xdk [(7, []), (8, []), (9, [])] [(9, .int .i64 (IntKind.wrap IntKind.i64 (loI (x / 2 ^ fracN P ex % 2 ^ E))))] hB ?_
  refine xdz ?_
  refine xg ?_
  refine xn 5 [(0, [0]), (3, [2])] [(54, .int .i64 (IntKind.wrap IntKind.i64 ((W : Int) - 1))), (50, .agg #[.int .u64 (hiI x), .int .u64 (loI x)])] ?_
  refine xcv 55 (ct_impl_Word_right (x) (IntKind.wrap IntKind.i64 ((W : Int) - 1)) (W - 1) nW (by omega) hx) zs0 ?_
  refine xn 7 [] [(56, .agg #[.int .u64 0, .int .u64 0])] ?_
  refine xv 57 (.bool (!((hiI (x / 2 ^ (W - 1)) == 0) && (loI (x / 2 ^ (W - 1)) == 0)))) (fun w _ _ => run_neq rfl (by kernel_rfl) (by kernel_rfl) (by kernel_rfl) w (eq_word _ _ _ _ _ w)) ?_
  refine xz [] [(10, .bool !(hiI (x / 2 ^ (W - 1)) == 0 && loI (x / 2 ^ (W - 1)) == 0))] ?_
  refine xg ?_
  refine xn 1 [(0, [3])] [(58, .agg #[.int .u64 (hiI (x % 2 ^ fracN P ex)), .int .u64 (loI (x % 2 ^ fracN P ex))])] ?_
  refine xb 11 [.int .u64 0, .int .u64 0] 28 (fun g4 => ?_)
  refine xy [(2, [4])] [] [(4, [.int .u64 (hiI (x % 2 ^ fracN P ex)), .int .u64 (loI (x % 2 ^ fracN P ex))])] ?_
  rw [← he]
  refine SW_cut (fun s' => ∃ R F, (if ex = true then (if (2 ^ (P - 1) ≤ x % 2 ^ P ↔ e ≠ 0) then partsOf P emin emax E e (!(hiI (x / 2 ^ (W - 1)) == 0 && (loI (x / 2 ^ (W - 1)) == 0))) (x % 2 ^ P % 2 ^ (P - 1)) else badP) else partsOf P emin emax E e (!(hiI (x / 2 ^ (W - 1)) == 0 && (loI (x / 2 ^ (W - 1)) == 0))) (x % 2 ^ (P - 1))) = partsOf P emin emax E e (!(hiI (x / 2 ^ (W - 1)) == 0 && (loI (x / 2 ^ (W - 1)) == 0))) R ∧ R < 2 ^ (P - 1) ∧ F < B128 ∧ (e = 0 → F = R) ∧ (e ≠ 0 → F ||| 2 ^ (P - 1) = R + 2 ^ (P - 1)) ∧ Weak s' ⟨[(4, .pointer (some ⟨g1, 0, none⟩)), (5, .pointer (some ⟨g2, 0, none⟩)), (8, .pointer (some ⟨g3, 0, none⟩)), (9, .int .i64 (IntKind.i64.wrap (loI e))), (10, .bool (!(hiI (x / 2 ^ (W - 1)) == 0 && (loI (x / 2 ^ (W - 1)) == 0)))), (11, .pointer (some ⟨g4, 0, none⟩))], [⟨g0, [.int .u64 (hiI x), .int .u64 (loI x)], 28⟩, ⟨g1, [.int .i64 0, .bool false, .int .u64 0, .int .u64 0, .int .i64 0], 33⟩, ⟨g2, [.int .i64 P, .int .i64 emin, .int .i64 emax, .int .i64 W, .int .i64 E, .bool ex], 95⟩, ⟨g3, [.int .u64 (hiI F), .int .u64 (loI F)], 28⟩, ⟨g4, [.int .u64 (hiI R), .int .u64 (loI R)], 28⟩], [Tabled]⟩) ?_ ?_
  ·cases ex with
   | true =>
    have f2 : fracN P true = P := rfl
    rw [f2] at *
    have hj : (!(hiI (x % 2 ^ P / 2 ^ (P - 1)) == 0 && (loI (x % 2 ^ P / 2 ^ (P - 1)) == 0))) = decide (2 ^ (P - 1) ≤ x % 2 ^ P) := by
     rw [word_eq0, Bool.eq_iff_iff, Bool.not_eq_true', decide_eq_false_iff_not, decide_eq_true_iff]
     have := Nat.pow_pos (n := P - 1) (show 0 < 2 by decide)
     exact ⟨fun hn => Nat.le_of_not_lt (fun z => hn (Nat.div_eq_of_lt z)), fun hn z => by have := Nat.div_pos hn this; omega⟩
    have hz : (!((!(hiI (x % 2 ^ P / 2 ^ (P - 1)) == 0 && (loI (x % 2 ^ P / 2 ^ (P - 1)) == 0))) == (IntKind.i64.wrap (loI e) != 0))) = decide (¬ (2 ^ (P - 1) ≤ x % 2 ^ P ↔ e ≠ 0)) := by
     rw [hj, he9]
     have : ((e : Int) != 0) = decide (e ≠ 0) := by
      rw [Bool.eq_iff_iff, bne_iff_ne, decide_eq_true_iff]
      omega
     rw [this]
     by_cases a : 2 ^ (P - 1) ≤ x % 2 ^ P <;> by_cases b : e = 0 <;> simp [a, b]
    by_cases hg : (2 ^ (P - 1) ≤ x % 2 ^ P ↔ e ≠ 0)
    ·have z1 := hz.trans (decide_eq_false (not_not_intro hg))
     refine xr [(2, [2])] [(61, .bool true)] ?_
     refine xs1 ?_
     refine xg ?_
     refine xn 5 [(0, [3]), (3, [2])] [(66, .int .i64 (IntKind.wrap IntKind.i64 ((P : Int) - 1))), (62, .agg #[.int .u64 (hiI (x % 2 ^ P)), .int .u64 (loI (x % 2 ^ P))])] ?_
     refine xcv 67 (ct_impl_Word_right (x % 2 ^ P) (IntKind.wrap IntKind.i64 ((P : Int) - 1)) (P - 1) nP (by omega) (bm _)) zs0 ?_
     refine xn 7 [] [(68, .agg #[.int .u64 0, .int .u64 0])] ?_
     refine xv 69 (.bool (!((hiI (x % 2 ^ P / 2 ^ (P - 1)) == 0) && (loI (x % 2 ^ P / 2 ^ (P - 1)) == 0)))) (fun w _ _ => run_neq rfl (by kernel_rfl) (by kernel_rfl) (by kernel_rfl) w (eq_word _ _ _ _ _ w)) ?_
     refine xz [] [(12, .bool !(hiI (x % 2 ^ P / 2 ^ (P - 1)) == 0 && loI (x % 2 ^ P / 2 ^ (P - 1)) == 0))] ?_
     refine SW_seq ?_
     refine xr [] [(73, .bool !(!(hiI (x % 2 ^ P / 2 ^ (P - 1)) == 0 && loI (x % 2 ^ P / 2 ^ (P - 1)) == 0)) == (IntKind.wrap IntKind.i64 (loI e) != 0))] ?_
     refine xsf z1 ?_
     refine SW_skip ?_
     refine SW_region ?_
     refine xn 5 [(0, [3]), (3, [2])] [(79, .int .i64 (IntKind.wrap IntKind.i64 ((P : Int) - 1))), (75, .agg #[.int .u64 (hiI (x % 2 ^ P)), .int .u64 (loI (x % 2 ^ P))])] ?_
     refine xcv 80 (ct_impl_Word_low (x % 2 ^ P) (IntKind.wrap IntKind.i64 ((P : Int) - 1)) (P - 1) nP (by omega) (bm _)) zs0 ?_
     refine xy [(6, [4])] [] [(4, [.int .u64 (hiI (x % 2 ^ P % 2 ^ (P - 1))), .int .u64 (loI (x % 2 ^ P % 2 ^ (P - 1)))])] ?_
     refine ⟨(x % 2 ^ P % 2 ^ (P - 1)), (x % 2 ^ P), ?_, ?_, ?_, ?_, ?_, xw (zsS zi0 zs0)⟩
     ·rw [if_pos rfl, if_pos hg]
     ·exact lP _
     ·exact bm _
     ·intro h0
      exact (Nat.mod_eq_of_lt (Nat.lt_of_not_le (fun z => hg.1 z h0))).symm
     ·intro h0
      have hl := hg.2 h0
      have y1 := Nat.mod_lt x (Nat.pow_pos (n := P) (show 0 < 2 by decide))
      have y2 : 2 ^ P = 2 * 2 ^ (P - 1) := by rw [Nat.mul_comm, ← Nat.pow_succ]; congr 1; omega
      have y3 : x % 2 ^ P = x % 2 ^ P % 2 ^ (P - 1) + 2 ^ (P - 1) := by
       rw [Nat.mod_eq_sub_mod hl, Nat.mod_eq_of_lt (show x % 2 ^ P - 2 ^ (P - 1) < 2 ^ (P - 1) by omega)]
       omega
      have y4 := lor_top (lP (x % 2 ^ P))
      rw [← y3] at y4
      rw [← y4, Nat.or_assoc, Nat.or_self, y4, ← y3]
    ·have z1 := hz.trans (decide_eq_true hg)
     refine xr [(2, [2])] [(61, .bool true)] ?_
     refine xs1 ?_
     refine xg ?_
     refine xn 5 [(0, [3]), (3, [2])] [(66, .int .i64 (IntKind.wrap IntKind.i64 ((P : Int) - 1))), (62, .agg #[.int .u64 (hiI (x % 2 ^ P)), .int .u64 (loI (x % 2 ^ P))])] ?_
     refine xcv 67 (ct_impl_Word_right (x % 2 ^ P) (IntKind.wrap IntKind.i64 ((P : Int) - 1)) (P - 1) nP (by omega) (bm _)) zs0 ?_
     refine xn 7 [] [(68, .agg #[.int .u64 0, .int .u64 0])] ?_
     refine xv 69 (.bool (!((hiI (x % 2 ^ P / 2 ^ (P - 1)) == 0) && (loI (x % 2 ^ P / 2 ^ (P - 1)) == 0)))) (fun w _ _ => run_neq rfl (by kernel_rfl) (by kernel_rfl) (by kernel_rfl) w (eq_word _ _ _ _ _ w)) ?_
     refine xz [] [(12, .bool !(hiI (x % 2 ^ P / 2 ^ (P - 1)) == 0 && loI (x % 2 ^ P / 2 ^ (P - 1)) == 0))] ?_
     refine SW_seq ?_
     refine xr [] [(73, .bool !(!(hiI (x % 2 ^ P / 2 ^ (P - 1)) == 0 && loI (x % 2 ^ P / 2 ^ (P - 1)) == 0)) == (IntKind.wrap IntKind.i64 (loI e) != 0))] ?_
     refine xst z1 ?_
     refine xq [(1, [1])] [] [] ?_
     refine SW_ret ?_
     refine xe () (.agg #[.int .i64 0, .bool false, .int .u64 0, .int .u64 0, .int .i64 0]) [1] ?_ trivial
     rw [if_pos rfl, if_neg hg]
     rfl
   | false =>
    have f2 : fracN P false = P - 1 := rfl
    rw [f2] at *
    refine xr [(2, [2])] [(61, .bool false)] ?_
    refine xs0 ?_
    refine SW_skip ?_
    refine ⟨(x % 2 ^ (P - 1)), (x % 2 ^ (P - 1)), ?_, ?_, ?_, ?_, ?_, xw (zsS zi0 zs0)⟩
    ·rfl
    ·exact lP _
    ·exact bm _
    ·intro _; rfl
    ·intro _; exact lor_top (lP _)
  ·rintro s' ⟨R, F, hU, hR, hF, hF0, hF1, hw⟩
   refine SW_weak hw ?_
   rw [hU]
   have z2 := word_eq0 R
   have z4 := word_eq0 F
   have bP : 2 ^ (P - 1) < B128 := Nat.pow_lt_pow_right (a := 2) (n := 128) (by decide) (by omega)
   have hm0 := h.m0
   have hm1 := h.m1
   by_cases c1 : e = 2 ^ E - 1
   ·have z1 : (IntKind.i64.wrap (loI e) == ((2 ^ E - 1 : Nat) : Int)) = true := by rw [he9, c1]; exact beq_self_eq_true _
    by_cases c2 : R = 0
    ·rw [decide_eq_true c2] at z2
     refine SW_seq ?_
     refine SW_block ?_
     refine xg ?_
     refine xn 2 [(1, [2])] [(83, .agg #[.int .i64 (P : Int), .int .i64 emin, .int .i64 emax, .int .i64 (W : Int), .int .i64 (E : Int), .bool ex]), (82, .int .i64 (IntKind.wrap IntKind.i64 (loI e)))] ?_
     refine xcv 84 (ct_impl_layout_top h) zs0 ?_
     refine xn 5 [] [(86, .bool (IntKind.wrap IntKind.i64 (loI e) == (((2 ^ E - 1) : Nat) : Int)))] ?_
     refine xkt 86 z1 ?_
     refine xn 7 [(5, [4])] [(88, .agg #[.int .u64 0, .int .u64 0]), (87, .agg #[.int .u64 (hiI R), .int .u64 (loI R)])] ?_
     refine xv 89 (.bool ((hiI R == 0) && (loI R == 0))) (fun w _ _ => run_eql rfl (by kernel_rfl) (by kernel_rfl) (by kernel_rfl) w (eq_word _ _ _ _ _ w)) ?_
     refine xz [] [(81, .bool (hiI R == 0 && loI R == 0))] ?_
     refine xst z2 ?_
     refine xq [(2, [1])] [] [(1, [.int .i64 4, .bool !(hiI (x / 2 ^ (W - 1)) == 0 && loI (x / 2 ^ (W - 1)) == 0), .int .u64 0, .int .u64 0, .int .i64 0])] ?_
     refine SW_ret ?_
     refine xe () (.agg #[.int .i64 4, .bool !(hiI (x / 2 ^ (W - 1)) == 0 && loI (x / 2 ^ (W - 1)) == 0), .int .u64 0, .int .u64 0, .int .i64 0]) [1] ?_ trivial
     rw [partsOf, if_pos c1, if_pos c2]
     rfl
    ·rw [decide_eq_false c2] at z2
     refine SW_seq ?_
     refine SW_block ?_
     refine xg ?_
     refine xn 2 [(1, [2])] [(83, .agg #[.int .i64 (P : Int), .int .i64 emin, .int .i64 emax, .int .i64 (W : Int), .int .i64 (E : Int), .bool ex]), (82, .int .i64 (IntKind.wrap IntKind.i64 (loI e)))] ?_
     refine xcv 84 (ct_impl_layout_top h) zs0 ?_
     refine xn 5 [] [(86, .bool (IntKind.wrap IntKind.i64 (loI e) == (((2 ^ E - 1) : Nat) : Int)))] ?_
     refine xkt 86 z1 ?_
     refine xn 7 [(5, [4])] [(88, .agg #[.int .u64 0, .int .u64 0]), (87, .agg #[.int .u64 (hiI R), .int .u64 (loI R)])] ?_
     refine xv 89 (.bool ((hiI R == 0) && (loI R == 0))) (fun w _ _ => run_eql rfl (by kernel_rfl) (by kernel_rfl) (by kernel_rfl) w (eq_word _ _ _ _ _ w)) ?_
     refine xz [] [(81, .bool (hiI R == 0 && loI R == 0))] ?_
     refine xsf z2 ?_
     refine xg ?_
     refine xn 2 [(1, [2])] [(95, .agg #[.int .i64 (P : Int), .int .i64 emin, .int .i64 emax, .int .i64 (W : Int), .int .i64 (E : Int), .bool ex]), (94, .int .i64 (IntKind.wrap IntKind.i64 (loI e)))] ?_
     refine xcv 96 (ct_impl_layout_top h) zs0 ?_
     refine xz [] [(93, .bool (IntKind.wrap IntKind.i64 (loI e) == (((2 ^ E - 1) : Nat) : Int)))] ?_
     refine xst z1 ?_
     refine xq [(1, [1])] [] [(1, [.int .i64 5, .bool false, .int .u64 0, .int .u64 0, .int .i64 0])] ?_
     refine SW_ret ?_
     refine xe () (.agg #[.int .i64 5, .bool false, .int .u64 0, .int .u64 0, .int .i64 0]) [1] ?_ trivial
     rw [partsOf, if_pos c1, if_neg c2]
     rfl
   ·have z1 : (IntKind.i64.wrap (loI e) == ((2 ^ E - 1 : Nat) : Int)) = false := by rw [he9, beq_eq_false_iff_ne]; omega
    by_cases c3 : e = 0
    ·have z3 : (IntKind.i64.wrap (loI e) == 0) = true := by rw [he9, c3]; rfl
     have hFR := hF0 c3
     by_cases c2 : R = 0
     ·rw [decide_eq_true (hFR.trans c2)] at z4
      refine SW_seq ?_
      refine SW_block ?_
      refine xg ?_
      refine xn 2 [(1, [2])] [(83, .agg #[.int .i64 (P : Int), .int .i64 emin, .int .i64 emax, .int .i64 (W : Int), .int .i64 (E : Int), .bool ex]), (82, .int .i64 (IntKind.wrap IntKind.i64 (loI e)))] ?_
      refine xcv 84 (ct_impl_layout_top h) zs0 ?_
      refine xn 5 [] [(86, .bool (IntKind.wrap IntKind.i64 (loI e) == (((2 ^ E - 1) : Nat) : Int)))] ?_
      refine xkf 86 z1 ?_
      refine xz [(5, [4])] [(81, .bool false)] ?_
      refine xs0 ?_
      refine xg ?_
      refine xn 2 [(1, [2])] [(95, .agg #[.int .i64 (P : Int), .int .i64 emin, .int .i64 emax, .int .i64 (W : Int), .int .i64 (E : Int), .bool ex]), (94, .int .i64 (IntKind.wrap IntKind.i64 (loI e)))] ?_
      refine xcv 96 (ct_impl_layout_top h) zs0 ?_
      refine xz [] [(93, .bool (IntKind.wrap IntKind.i64 (loI e) == (((2 ^ E - 1) : Nat) : Int)))] ?_
      refine xsf z1 ?_
      refine xg ?_
      refine xn 3 [] [(102, .bool (IntKind.wrap IntKind.i64 (loI e) == 0))] ?_
      refine xkt 102 z3 ?_
      refine xn 5 [(3, [3])] [(104, .agg #[.int .u64 0, .int .u64 0]), (103, .agg #[.int .u64 (hiI F), .int .u64 (loI F)])] ?_
      refine xv 105 (.bool ((hiI F == 0) && (loI F == 0))) (fun w _ _ => run_eql rfl (by kernel_rfl) (by kernel_rfl) (by kernel_rfl) w (eq_word _ _ _ _ _ w)) ?_
      refine xz [] [(99, .bool (hiI F == 0 && loI F == 0))] ?_
      refine xst z4 ?_
      refine xq [(2, [1])] [] [(1, [.int .i64 1, .bool !(hiI (x / 2 ^ (W - 1)) == 0 && loI (x / 2 ^ (W - 1)) == 0), .int .u64 0, .int .u64 0, .int .i64 0])] ?_
      refine SW_ret ?_
      refine xe () (.agg #[.int .i64 1, .bool !(hiI (x / 2 ^ (W - 1)) == 0 && loI (x / 2 ^ (W - 1)) == 0), .int .u64 0, .int .u64 0, .int .i64 0]) [1] ?_ trivial
      rw [partsOf, if_neg c1, if_pos c3, if_pos c2]
      rfl
     ·rw [decide_eq_false (fun z => c2 (hFR.symm.trans z))] at z4
      refine SW_seq ?_
      refine SW_block ?_
      refine xg ?_
      refine xn 2 [(1, [2])] [(83, .agg #[.int .i64 (P : Int), .int .i64 emin, .int .i64 emax, .int .i64 (W : Int), .int .i64 (E : Int), .bool ex]), (82, .int .i64 (IntKind.wrap IntKind.i64 (loI e)))] ?_
      refine xcv 84 (ct_impl_layout_top h) zs0 ?_
      refine xn 5 [] [(86, .bool (IntKind.wrap IntKind.i64 (loI e) == (((2 ^ E - 1) : Nat) : Int)))] ?_
      refine xkf 86 z1 ?_
      refine xz [(5, [4])] [(81, .bool false)] ?_
      refine xs0 ?_
      refine xg ?_
      refine xn 2 [(1, [2])] [(95, .agg #[.int .i64 (P : Int), .int .i64 emin, .int .i64 emax, .int .i64 (W : Int), .int .i64 (E : Int), .bool ex]), (94, .int .i64 (IntKind.wrap IntKind.i64 (loI e)))] ?_
      refine xcv 96 (ct_impl_layout_top h) zs0 ?_
      refine xz [] [(93, .bool (IntKind.wrap IntKind.i64 (loI e) == (((2 ^ E - 1) : Nat) : Int)))] ?_
      refine xsf z1 ?_
      refine xg ?_
      refine xn 3 [] [(102, .bool (IntKind.wrap IntKind.i64 (loI e) == 0))] ?_
      refine xkt 102 z3 ?_
      refine xn 5 [(3, [3])] [(104, .agg #[.int .u64 0, .int .u64 0]), (103, .agg #[.int .u64 (hiI F), .int .u64 (loI F)])] ?_
      refine xv 105 (.bool ((hiI F == 0) && (loI F == 0))) (fun w _ _ => run_eql rfl (by kernel_rfl) (by kernel_rfl) (by kernel_rfl) w (eq_word _ _ _ _ _ w)) ?_
      refine xz [] [(99, .bool (hiI F == 0 && loI F == 0))] ?_
      refine xsf z4 ?_
      refine xr [] [(109, .bool (IntKind.wrap IntKind.i64 (loI e) == 0))] ?_
      refine xst z3 ?_
      refine xd (fun hB => ?_)
      refine xdk [(0, []), (1, [3]), (2, [2])] [(114, .agg #[.int .i64 (P : Int), .int .i64 emin, .int .i64 emax, .int .i64 (W : Int), .int .i64 (E : Int), .bool ex]), (113, .agg #[.int .u64 (hiI F), .int .u64 (loI F)]), (112, .bool !(hiI (x / 2 ^ (W - 1)) == 0 && loI (x / 2 ^ (W - 1)) == 0))] hB ?_
      refine xdv 3 115 (ct_impl_layout_qMin h) zs0 ?_
      refine xdk [(4, [])] [(116, .agg #[.int .i64 2, .bool !(hiI (x / 2 ^ (W - 1)) == 0 && loI (x / 2 ^ (W - 1)) == 0), .int .u64 (hiI F), .int .u64 (loI F), .int .i64 (emin - (P : Int) + 1)])] hB ?_
      refine xds 5 [1] [(1, [.int .i64 2, .bool !(hiI (x / 2 ^ (W - 1)) == 0 && loI (x / 2 ^ (W - 1)) == 0), .int .u64 (hiI F), .int .u64 (loI F), .int .i64 (emin - (P : Int) + 1)])] ?_
      refine xdz ?_
      refine SW_ret ?_
      refine xe () (.agg #[.int .i64 2, .bool !(hiI (x / 2 ^ (W - 1)) == 0 && loI (x / 2 ^ (W - 1)) == 0), .int .u64 (hiI F), .int .u64 (loI F), .int .i64 (emin - (P : Int) + 1)]) [1] ?_ trivial
      rw [partsOf, if_neg c1, if_pos c3, if_neg c2, hFR]
      kernel_rfl
    ·have z3 : (IntKind.i64.wrap (loI e) == 0) = false := by rw [he9, beq_eq_false_iff_ne]; omega
     refine SW_seq ?_
     refine SW_block ?_
     refine xg ?_
     refine xn 2 [(1, [2])] [(83, .agg #[.int .i64 (P : Int), .int .i64 emin, .int .i64 emax, .int .i64 (W : Int), .int .i64 (E : Int), .bool ex]), (82, .int .i64 (IntKind.wrap IntKind.i64 (loI e)))] ?_
     refine xcv 84 (ct_impl_layout_top h) zs0 ?_
     refine xn 5 [] [(86, .bool (IntKind.wrap IntKind.i64 (loI e) == (((2 ^ E - 1) : Nat) : Int)))] ?_
     refine xkf 86 z1 ?_
     refine xz [(5, [4])] [(81, .bool false)] ?_
     refine xs0 ?_
     refine xg ?_
     refine xn 2 [(1, [2])] [(95, .agg #[.int .i64 (P : Int), .int .i64 emin, .int .i64 emax, .int .i64 (W : Int), .int .i64 (E : Int), .bool ex]), (94, .int .i64 (IntKind.wrap IntKind.i64 (loI e)))] ?_
     refine xcv 96 (ct_impl_layout_top h) zs0 ?_
     refine xz [] [(93, .bool (IntKind.wrap IntKind.i64 (loI e) == (((2 ^ E - 1) : Nat) : Int)))] ?_
     refine xsf z1 ?_
     refine xg ?_
     refine xn 3 [] [(102, .bool (IntKind.wrap IntKind.i64 (loI e) == 0))] ?_
     refine xkf 102 z3 ?_
     refine xz [(3, [3])] [(99, .bool false)] ?_
     refine xs0 ?_
     refine xr [] [(109, .bool (IntKind.wrap IntKind.i64 (loI e) == 0))] ?_
     refine xsf z3 ?_
     refine SW_skip ?_
     refine xd (fun hB => ?_)
     refine xdk [(0, []), (1, [3]), (2, []), (3, []), (4, [2]), (5, []), (8, []), (9, []), (10, []), (11, [2]), (12, []), (13, []), (14, []), (15, [2]), (16, []), (17, [])] [(134, .int .i64 (IntKind.wrap IntKind.i64 (IntKind.wrap IntKind.i64 (IntKind.wrap IntKind.i64 (IntKind.wrap IntKind.i64 (loI e) - emax) - (P : Int)) + 1))), (122, .int .i64 (IntKind.wrap IntKind.i64 ((P : Int) - 1))), (118, .agg #[.int .u64 (hiI F), .int .u64 (loI F)]), (117, .bool !(hiI (x / 2 ^ (W - 1)) == 0 && loI (x / 2 ^ (W - 1)) == 0))] hB ?_
     refine xdv 6 123 (ct_impl_one (IntKind.wrap IntKind.i64 ((P : Int) - 1)) (P - 1) nP (by omega)) zs0 ?_
     refine xdv 7 124 (ct_impl_Word_or (hiI F) (loI F) (hiI (2 ^ (P - 1))) (loI (2 ^ (P - 1))) (F) (2 ^ (P - 1)) ⟨rfl, rfl⟩ ⟨rfl, rfl⟩ hF bP) zs0 ?_
     refine xdk [(18, [])] [(135, .agg #[.int .i64 3, .bool !(hiI (x / 2 ^ (W - 1)) == 0 && loI (x / 2 ^ (W - 1)) == 0), .int .u64 (hiI (F ||| 2 ^ (P - 1))), .int .u64 (loI (F ||| 2 ^ (P - 1))), .int .i64 (IntKind.wrap IntKind.i64 (IntKind.wrap IntKind.i64 (IntKind.wrap IntKind.i64 (IntKind.wrap IntKind.i64 (loI e) - emax) - (P : Int)) + 1))])] hB ?_
     refine xds 19 [1] [(1, [.int .i64 3, .bool !(hiI (x / 2 ^ (W - 1)) == 0 && loI (x / 2 ^ (W - 1)) == 0), .int .u64 (hiI (F ||| 2 ^ (P - 1))), .int .u64 (loI (F ||| 2 ^ (P - 1))), .int .i64 (IntKind.wrap IntKind.i64 (IntKind.wrap IntKind.i64 (IntKind.wrap IntKind.i64 (IntKind.wrap IntKind.i64 (loI e) - emax) - (P : Int)) + 1))])] ?_
     refine xdz ?_
     refine SW_ret ?_
     refine xe () (.agg #[.int .i64 3, .bool !(hiI (x / 2 ^ (W - 1)) == 0 && loI (x / 2 ^ (W - 1)) == 0), .int .u64 (hiI (F ||| 2 ^ (P - 1))), .int .u64 (loI (F ||| 2 ^ (P - 1))), .int .i64 (IntKind.wrap IntKind.i64 (IntKind.wrap IntKind.i64 (IntKind.wrap IntKind.i64 (IntKind.wrap IntKind.i64 (loI e) - emax) - (P : Int)) + 1))]) [1] ?_ trivial
     have hF15 : e < 32768 := Nat.lt_of_lt_of_le hel (show 2 ^ E ≤ 2 ^ 15 from Nat.pow_le_pow_right (by decide) e1)
     rw [partsOf, if_neg c1, if_neg c3, hF1 c3, he9, wsi (x := (e : Int) - _) (by omega), wsi (x := (e : Int) - _ - _) (by omega), wsi (by omega)]
     rfl
end Go.Proofs.YtgknelgplmohoaaDoor.M
end
section
namespace Go.Proofs.YtgknelgplmohoaaDoor.M
open Go.RowKit Go.Proofs.YtgknelgplmohoaaDoor.G Go.Proofs.YtgknelgplmohoaaDoorV.PrintWords Go.Proofs.YtgknelgplmohoaaDoorV.PrintLast Go.Proofs.YtgknelgplmohoaaDoor.X
set_option linter.unusedVariables false
set_option linter.unusedSimpArgs false
structure FD (f : Int) (P : Nat) (emin emax : Int) (W E : Nat) (ex : Bool) : Prop where
 h : Fmt2 P emin emax W E ex
 x1 : 1 ≤ emax
 sf : spec_Describe.f f = some ((P : Int), emin, emax, (W : Int), (E : Int), ex)
 lf : impl_layoutOf.f f = some ((P : Int), emin, emax, (W : Int), (E : Int), ex, true)
theorem fd_or (f : Int) : ((0 ≤ f ∧ f < 4) ∧ ∃ P emin emax W E ex, FD f P emin emax W E ex) ∨ (¬ (0 ≤ f ∧ f < 4) ∧ spec_Describe.f f = some (0, 0, 0, 0, 0, false) ∧ impl_layoutOf.f f = some (0, 0, 0, 0, 0, false, false)) := by
 by_cases h0 : f = 0
 ·subst h0; exact .inl ⟨by decide, _, _, _, _, _, _, fmt2_0, by decide, rfl, rfl⟩
 by_cases h1 : f = 1
 ·subst h1; exact .inl ⟨by decide, _, _, _, _, _, _, fmt2_1, by decide, rfl, rfl⟩
 by_cases h2 : f = 2
 ·subst h2; exact .inl ⟨by decide, _, _, _, _, _, _, fmt2_2, by decide, rfl, rfl⟩
 by_cases h3 : f = 3
 ·subst h3; exact .inl ⟨by decide, _, _, _, _, _, _, fmt2_3, by decide, rfl, rfl⟩
 refine .inr ⟨by omega, ?_, ?_⟩
 ·unfold spec_Describe.f
  rw [if_neg h0, if_neg h1, if_neg h2, if_neg h3]
 ·unfold impl_layoutOf.f
  rw [if_neg h0, if_neg h1, if_neg h2, if_neg h3]
theorem ct_spec_Describe' (f : Int) (hf : spec_Describe.f f = some (0, 0, 0, 0, 0, false)) : CtV Tryd.prog 47 [.int .i64 f] [] (.agg #[.int .i64 0, .int .i64 0, .int .i64 0, .int .i64 0, .int .i64 0, .bool false]) := spec_Describe.calls f _ _ _ _ _ _ hf
theorem ct_spec_Unpack' (f : Int) (hf : spec_Describe.f f = some (0, 0, 0, 0, 0, false)) (h l : Int) :
  CtV Tryd.prog 28 [.int .i64 f, .agg #[.int .u64 h, .int .u64 l]] [] (.agg #[.int .i64 0, .bool false, .int .u64 0, .int .u64 0, .int .i64 0]) := by
 refine ct_of Tryd.func28 rfl (by kernel_rfl) (fun B w0 => ?_)
 refine xg ?_
 refine xb 3 [.int .u64 h, .int .u64 l] 28 (fun g0 => ?_)
 refine xb 4 [.int .i64 0, .bool false, .int .u64 0, .int .u64 0, .int .i64 0] 33 (fun g1 => ?_)
 refine xz [] [] ?_
 refine xg ?_
 refine xn 1 [] [(16, .int .i64 f)] ?_
 refine xcv 17 (ct_spec_Describe' (f) hf) zs0 ?_
 refine xb 5 [.int .i64 0, .int .i64 0, .int .i64 0, .int .i64 0, .int .i64 0, .bool false] 85 (fun g2 => ?_)
 refine xy [(3, [2])] [] [] ?_
 refine SW_seq ?_
 refine xr [(1, [2])] [(20, .bool true)] ?_
 refine xs1 ?_
 refine xq [(1, [1])] [] [] ?_
 refine SW_ret ?_
 refine xe () (.agg #[.int .i64 0, .bool false, .int .u64 0, .int .u64 0, .int .i64 0]) [1] ?_ trivial
 rfl
end Go.Proofs.YtgknelgplmohoaaDoor.M
end
section
namespace Go.Proofs.YtgknelgplmohoaaDoor.M
open Go.RowKit Go.Proofs.YtgknelgplmohoaaDoor.G Go.Proofs.YtgknelgplmohoaaDoorV.PrintWords Go.Proofs.YtgknelgplmohoaaDoorV.PrintLast Go.Proofs.YtgknelgplmohoaaDoor.X
set_option linter.unusedVariables false
set_option linter.unusedSimpArgs false
def lo4 (P : Nat) (emin : Int) (S : Nat) (q : Int) : Nat := if S = 2 ^ (P - 1) ∧ emin - P + 1 < q then S * 2 ^ 2 - 1 else S * 2 ^ 2 - 2
def hi4 (S : Nat) : Nat := S * 2 ^ 2 + 2
def bndN (P : Nat) (emin : Int) (S : Nat) (q : Int) : Nat × Nat × Nat :=
 if 2 ≤ q then (lo4 P emin S q * 2 ^ (q - 2).toNat, hi4 S * 2 ^ (q - 2).toNat, 1) else (lo4 P emin S q, hi4 S, 2 ^ (2 - q).toNat)
abbrev R3 : Type := (Option Addr × Nat) × (Option Addr × Nat) × (Option Addr × Nat)
theorem ct_spec_l2Span {P : Nat} {emin emax : Int} {W E : Nat} {ex : Bool} {f : Int} (d : FD f P emin emax W E ex) (c : Int) (neg : Bool) (S : Nat) (q : Int) (hv : VP P emin emax c S q) (hc : c = 2 ∨ c = 3) (u : Nat × Nat × Nat) (hu : bndN P emin S q = u) :
  Ct Tryd.prog 40 [.int .i64 f, .agg #[.int .i64 c, .bool neg, .int .u64 (hiI S), .int .u64 (loI S), .int .i64 q]] [] (γ := R3) (fun p => .tuple #[.slice p.1.1 (ofN B32 u.1).length p.1.2, .slice p.2.1.1 (ofN B32 u.2.1).length p.2.1.2, .slice p.2.2.1 (ofN B32 u.2.2).length p.2.2.2]) (fun p => [Row .u64 p.1.1 p.1.2 (ofN B32 u.1), Row .u64 p.2.1.1 p.2.1.2 (ofN B32 u.2.1), Row .u64 p.2.2.1 p.2.2.2 (ofN B32 u.2.2)]) := by
 subst hu
 have h := d.h
 have hF := h.toFmt
 have hs := d.sf
 have p0 := h.p0
 have p1 := h.p1
 have p3 := h.p3
 have m0 := h.m0
 have m1 := h.m1
 have b128 : 2 ^ P < B128 := Nat.pow_lt_pow_right (a := 2) (n := 128) (by decide) (by omega)
 have t2 := two_P hF
 have hb : (0 < S ∧ S < 2 ^ P) ∧ emin - P + 1 ≤ q ∧ q ≤ emax - P + 1 ∧ (c = 2 → S < 2 ^ (P - 1)) := by
  have hx2 := h.mn
  have hx3 := d.x1
  have hp := Nat.pow_pos (n := P - 1) (show 0 < 2 by decide)
  rcases hv with ⟨rfl, _⟩ | ⟨rfl, _⟩ | ⟨_, h1, h2, rfl⟩ | ⟨_, h1, h2, h3, h4⟩
  ·omega
  ·omega
  ·omega
  ·omega
 obtain ⟨⟨bS0, bS1⟩, bq0, bq1, bS2⟩ := hb
 have bS : S < B128 := by omega
 have p113 : 2 ^ P ≤ 2 ^ 113 := Nat.pow_le_pow_right (by decide) p1
 have sS : Sm S := sm128 (Nat.lt_trans bS (by decide))
 have e4 : S * 2 ^ 2 = 4 * S := by omega
 have sF : Sm (S * 2 ^ 2) := Sm.of (k := 116) (by omega) (by decide)
 have sH : Sm (S * 2 ^ 2 + 2) := Sm.of (k := 116) (by omega) (by decide)
 have s2 : Sm 2 := Sm.of (k := 2) (by decide) (by decide)
 have s1 : Sm 1 := Sm.of (k := 1) (by decide) (by decide)
 have l2 : 2 ≤ S * 2 ^ 2 := by omega
 have l1 : 1 ≤ S * 2 ^ 2 := by omega
 have v1 : Ve (IntKind.i64.wrap ((P : Int) - 1)) ((P - 1 : Nat) : Int) := ⟨by rw [wrap_i64 (by omega)]; omega⟩
 have w1 : Ve (IntKind.i64.wrap (emin - (P : Int))) (emin - (P : Int)) := ⟨wrap_i64 (by omega)⟩
 have w2 : Ve (IntKind.i64.wrap (emin - (P : Int) + 1)) (emin - (P : Int) + 1) := ⟨wrap_i64 (by omega)⟩
 have w3 : Ve (IntKind.i64.wrap (q - 2)) (q - 2) := ⟨wrap_i64 (by omega)⟩
 have sP1 : Sm (2 ^ (P - 1)) := sm128 (Nat.lt_of_le_of_lt (Nat.pow_le_pow_right (by decide) (by omega)) (Nat.lt_trans b128 (by decide)))
 have ec : cmpN S (2 ^ (P - 1)) = 0 ↔ S = 2 ^ (P - 1) := by
  unfold cmpN
  split
  ·constructor <;> intro z <;> omega
  ·split
   ·constructor <;> intro z <;> omega
   ·constructor <;> intro z <;> omega
 obtain ⟨L, hL⟩ : ∃ L, lo4 P emin S q = L := ⟨_, rfl⟩
 have sL : Sm L := by rw [← hL]; unfold lo4; split <;> exact sF.mono (by omega)
 have hL3 : L < 2 ^ 116 := by rw [← hL]; unfold lo4; split <;> omega
 refine ct_of Tryd.func40 rfl (by kernel_rfl) (fun B w0 => ?_)
 refine xg ?_
 refine xb 3 [.int .i64 c, .bool neg, .int .u64 (hiI S), .int .u64 (loI S), .int .i64 q] 33 (fun g0 => ?_)
 refine xz [] [(6, .slice none 0 0), (5, .slice none 0 0), (4, .slice none 0 0)] ?_
 refine xg ?_
 refine xn 1 [] [(12, .int .i64 f)] ?_
 refine xcv 13 (ct_spec_Describe (f) hs) zs0 ?_
 refine xb 7 [.int .i64 0, .int .i64 0, .int .i64 0, .int .i64 0, .int .i64 0, .bool false] 85 (fun g1 => ?_)
 refine xy [(3, [1])] [] [(1, [.int .i64 (P : Int), .int .i64 emin, .int .i64 emax, .int .i64 (W : Int), .int .i64 (E : Int), .bool ex])] ?_
 refine xg ?_
 refine xn 2 [(1, [0])] [(15, .agg #[.int .u64 (hiI S), .int .u64 (loI S)])] ?_
 refine xcr 16 (ct_spec_l2Of (S) bS) zs0 (fun A0 k0 => ?_)
 refine xcr 17 (ct_spec_l1Left (S) (A0) (k0) (2) (2) ⟨rfl⟩ (by omega) sS) (zsS zi0 zs0) (fun A1 k1 => ?_)
 refine xz [] [(8, .slice A1 (List.length (ofN B32 (S * 2 ^ 2))) k1)] ?_
 refine xg ?_
 refine xn 1 [] [(18, .slice A1 (List.length (ofN B32 (S * 2 ^ 2))) k1)] ?_
 refine xcr 19 (ct_spec_l1Of (2) (2) ⟨rfl⟩ (by omega)) zs0 (fun A2 k2 => ?_)
 refine xcr 20 (ct_spec_l1Add (S * 2 ^ 2) (2) (A1) (A2) (k1) (k2) sF s2) (zsS (ziS zi0) (zsS zi0 zs0)) (fun A3 k3 => ?_)
 refine xz [] [(9, .slice A3 (List.length (ofN B32 (S * 2 ^ 2 + 2))) k3)] ?_
 refine xg ?_
 refine xn 1 [] [(21, .slice A1 (List.length (ofN B32 (S * 2 ^ 2))) k1)] ?_
 refine xcr 22 (ct_spec_l1Of (2) (2) ⟨rfl⟩ (by omega)) zs0 (fun A4 k4 => ?_)
 refine xcr 23 (ct_spec_l1Sub (S * 2 ^ 2) (2) (A1) (A4) (k1) (k4) sF l2) (zsS (ziS (ziS (ziS zi0))) (zsS zi0 zs0)) (fun A5 k5 => ?_)
 refine xz [] [(10, .slice A5 (List.length (ofN B32 (S * 2 ^ 2 - 2))) k5)] ?_
 refine SW_cut (fun s' => ∃ (A1 A2 : Option Addr) (c1 c2 : Nat), Weak2 s' ⟨[(3, .pointer (some ⟨g0, 0, none⟩)), (9, .slice A1 (ofN B32 (S * 2 ^ 2 + 2)).length c1), (10, .slice A2 (ofN B32 L).length c2)], [⟨g0, [.int .i64 c, .bool neg, .int .u64 (hiI S), .int .u64 (loI S), .int .i64 q], 33⟩], [Row .u64 A1 c1 (ofN B32 (S * 2 ^ 2 + 2)), Row .u64 A2 c2 (ofN B32 L)]⟩) ?_ ?_
 ·by_cases hc3 : c = 3
  ·have z1 : (c == 3) = true := by rw [beq_iff_eq]; exact hc3
   by_cases hS : S = 2 ^ (P - 1)
   ·have z2 : (cmpN S (2 ^ (P - 1)) == 0) = true := by rw [beq_iff_eq]; exact ec.2 hS
    by_cases hq : q > emin - (P : Int) + 1
    ·have z3 : decide (q > emin - (P : Int) + 1) = true := decide_eq_true hq
     have e : L = S * 2 ^ 2 - 1 := by rw [← hL]; unfold lo4; rw [if_pos ⟨hS, hq⟩]
     rw [e]
     refine xd (fun hB => ?_)
     refine xdk [(0, []), (1, [0]), (2, []), (3, [])] [(27, .bool (c == 3))] hB ?_
     refine xdnt 27 z1 ?_
     refine xdk [(4, []), (5, [0]), (7, []), (8, [1])] [(32, .int .i64 (P : Int)), (29, .agg #[.int .u64 (hiI S), .int .u64 (loI S)])] hB ?_
     refine xdve 9 hB 33 IntKind.i64 (IntKind.wrap IntKind.i64 ((P : Int) - 1)) ((((P - 1) : Nat) : Int)) v1 ?_
     refine xdr 6 30 (ct_spec_l2Of (S) bS) zs0 (fun A6 k6 => ?_)
     refine xdr 10 34 (ct_spec_l2Two ((((P - 1) : Nat) : Int)) (P - 1) ⟨rfl⟩ (by omega)) zs0 (fun A7 k7 => ?_)
     refine xdv 11 35 (ct_spec_l1Cmp (S) (2 ^ (P - 1)) (A6) (A7) (k6) (k7) sS sP1) (zsS (ziS zi0) (zsS zi0 zs0)) ?_
     refine xdk [(12, []), (13, []), (14, [])] [(38, .bool (cmpN S (2 ^ (P - 1)) == 0))] hB ?_
     refine xdnt 38 z2 ?_
     refine xdk [(15, []), (16, [0]), (17, []), (18, [1]), (19, []), (20, [1])] [(44, .int .i64 (P : Int)), (42, .int .i64 emin), (40, .int .i64 q)] hB ?_
     refine xdve 21 hB 45 IntKind.i64 (IntKind.wrap IntKind.i64 (emin - (P : Int))) (emin - (P : Int)) w1 ?_
     refine xdve 22 hB 46 IntKind.i64 (IntKind.wrap IntKind.i64 (emin - (P : Int) + 1)) (emin - (P : Int) + 1) w2 ?_
     refine xdk [(23, []), (24, [])] [(48, .bool (decide (q > emin - (P : Int) + 1)))] hB ?_
     refine xdz ?_
     refine xst z3 ?_
     refine SW_region ?_
     refine xn 1 [] [(49, .slice A1 (List.length (ofN B32 (S * 2 ^ 2))) k1)] ?_
     refine xcr 50 (ct_spec_l1Of (1) (1) ⟨rfl⟩ (by omega)) zs0 (fun A8 k8 => ?_)
     refine xcr 51 (ct_spec_l1Sub (S * 2 ^ 2) (1) (A1) (A8) (k1) (k8) sF l1) (zsS (ziS (ziS (ziS (ziS (ziS (ziS (ziS zi0))))))) (zsS zi0 zs0)) (fun A9 k9 => ?_)
     refine xz [] [(10, .slice A9 (List.length (ofN B32 (S * 2 ^ 2 - 1))) k9)] ?_
     refine ⟨(A3), (A9), (k3), (k9), xw2 [true] (zsS (ziS (ziS (ziS (ziS (ziS (ziS zi0)))))) (zsS zi0 zs0))⟩
    ·have z3 : decide (q > emin - (P : Int) + 1) = false := decide_eq_false hq
     have e : L = S * 2 ^ 2 - 2 := by rw [← hL]; unfold lo4; rw [if_neg (fun z => hq z.2)]
     rw [e]
     refine xd (fun hB => ?_)
     refine xdk [(0, []), (1, [0]), (2, []), (3, [])] [(27, .bool (c == 3))] hB ?_
     refine xdnt 27 z1 ?_
     refine xdk [(4, []), (5, [0]), (7, []), (8, [1])] [(32, .int .i64 (P : Int)), (29, .agg #[.int .u64 (hiI S), .int .u64 (loI S)])] hB ?_
     refine xdve 9 hB 33 IntKind.i64 (IntKind.wrap IntKind.i64 ((P : Int) - 1)) ((((P - 1) : Nat) : Int)) v1 ?_
     refine xdr 6 30 (ct_spec_l2Of (S) bS) zs0 (fun A6 k6 => ?_)
     refine xdr 10 34 (ct_spec_l2Two ((((P - 1) : Nat) : Int)) (P - 1) ⟨rfl⟩ (by omega)) zs0 (fun A7 k7 => ?_)
     refine xdv 11 35 (ct_spec_l1Cmp (S) (2 ^ (P - 1)) (A6) (A7) (k6) (k7) sS sP1) (zsS (ziS zi0) (zsS zi0 zs0)) ?_
     refine xdk [(12, []), (13, []), (14, [])] [(38, .bool (cmpN S (2 ^ (P - 1)) == 0))] hB ?_
     refine xdnt 38 z2 ?_
     refine xdk [(15, []), (16, [0]), (17, []), (18, [1]), (19, []), (20, [1])] [(44, .int .i64 (P : Int)), (42, .int .i64 emin), (40, .int .i64 q)] hB ?_
     refine xdve 21 hB 45 IntKind.i64 (IntKind.wrap IntKind.i64 (emin - (P : Int))) (emin - (P : Int)) w1 ?_
     refine xdve 22 hB 46 IntKind.i64 (IntKind.wrap IntKind.i64 (emin - (P : Int) + 1)) (emin - (P : Int) + 1) w2 ?_
     refine xdk [(23, []), (24, [])] [(48, .bool (decide (q > emin - (P : Int) + 1)))] hB ?_
     refine xdz ?_
     refine xsf z3 ?_
     refine SW_skip ?_
     refine ⟨(A3), (A5), (k3), (k5), xw2 [true] (zsS (ziS (ziS (ziS (ziS zi0)))) (zsS (ziS (ziS zi0)) zs0))⟩
   ·have z2 : (cmpN S (2 ^ (P - 1)) == 0) = false := by rw [beq_eq_false_iff_ne]; exact fun z => hS (ec.1 z)
    have e : L = S * 2 ^ 2 - 2 := by rw [← hL]; unfold lo4; rw [if_neg (fun z => hS z.1)]
    rw [e]
    refine xd (fun hB => ?_)
    refine xdk [(0, []), (1, [0]), (2, []), (3, [])] [(27, .bool (c == 3))] hB ?_
    refine xdnt 27 z1 ?_
    refine xdk [(4, []), (5, [0]), (7, []), (8, [1])] [(32, .int .i64 (P : Int)), (29, .agg #[.int .u64 (hiI S), .int .u64 (loI S)])] hB ?_
    refine xdve 9 hB 33 IntKind.i64 (IntKind.wrap IntKind.i64 ((P : Int) - 1)) ((((P - 1) : Nat) : Int)) v1 ?_
    refine xdr 6 30 (ct_spec_l2Of (S) bS) zs0 (fun A6 k6 => ?_)
    refine xdr 10 34 (ct_spec_l2Two ((((P - 1) : Nat) : Int)) (P - 1) ⟨rfl⟩ (by omega)) zs0 (fun A7 k7 => ?_)
    refine xdv 11 35 (ct_spec_l1Cmp (S) (2 ^ (P - 1)) (A6) (A7) (k6) (k7) sS sP1) (zsS (ziS zi0) (zsS zi0 zs0)) ?_
    refine xdk [(12, []), (13, []), (14, [])] [(38, .bool (cmpN S (2 ^ (P - 1)) == 0))] hB ?_
    refine xdnf 38 z2 ?_
    refine xdk [(15, []), (16, []), (17, []), (18, []), (19, []), (20, []), (21, []), (22, []), (23, []), (24, [])] [(48, .bool false)] hB ?_
    refine xdz ?_
    refine xs0 ?_
    refine SW_skip ?_
    refine ⟨(A3), (A5), (k3), (k5), xw2 [true] (zsS (ziS (ziS (ziS (ziS zi0)))) (zsS (ziS (ziS zi0)) zs0))⟩
  ·have z1 : (c == 3) = false := by rw [beq_eq_false_iff_ne]; exact hc3
   have e : L = S * 2 ^ 2 - 2 := by rw [← hL]; unfold lo4; rw [if_neg (fun z => by have := bS2 (by omega); omega)]
   rw [e]
   refine xd (fun hB => ?_)
   refine xdk [(0, []), (1, [0]), (2, []), (3, [])] [(27, .bool (c == 3))] hB ?_
   refine xdnf 27 z1 ?_
   refine xdk [(4, []), (5, []), (6, []), (7, []), (8, []), (9, []), (10, []), (11, []), (12, []), (13, []), (14, []), (15, []), (16, []), (17, []), (18, []), (19, []), (20, []), (21, []), (22, []), (23, []), (24, [])] [(48, .bool false)] hB ?_
   refine xdz ?_
   refine xs0 ?_
   refine SW_skip ?_
   refine ⟨(A3), (A5), (k3), (k5), xw2 [true] (zsS (ziS (ziS zi0)) (zsS zi0 zs0))⟩
 ·rintro s' ⟨A1, A2, c1, c2, hw⟩
  refine SW_weak2 hw ?_
  clear hw
  by_cases hq2 : 2 ≤ q
  ·have z4 : decide (q - 2 ≥ 0) = true := decide_eq_true (by omega)
   have hN : Nn (q - 2) (q - 2).toNat := ⟨by omega⟩
   have e : bndN P emin S q = (L * 2 ^ (q - 2).toNat, (S * 2 ^ 2 + 2) * 2 ^ (q - 2).toNat, 1) := by unfold bndN hi4; rw [if_pos hq2, hL]
   rw [e]
   refine xg ?_
   refine xn 2 [(1, [0])] [(53, .int .i64 q)] ?_
   refine xve 54 IntKind.i64 (IntKind.wrap IntKind.i64 (q - 2)) (q - 2) w3 ?_
   refine xz [] [(11, .int .i64 (q - 2))] ?_
   refine SW_seq ?_
   refine xr [] [(56, .bool (decide (q - 2 ≥ 0)))] ?_
   refine xst z4 ?_
   refine xg ?_
   refine xn 2 [] [(58, .int .i64 (q - 2)), (57, .slice A2 (List.length (ofN B32 L)) c2)] ?_
   refine xcr 59 (ct_spec_l1Left (L) (A2) (c2) (q - 2) (Int.toNat (q - 2)) hN (by omega) sL) (zsS (ziS zi0) zs0) (fun A6 k6 => ?_)
   refine xn 5 [] [(61, .int .i64 (q - 2)), (60, .slice A1 (List.length (ofN B32 (S * 2 ^ 2 + 2))) c1)] ?_
   refine xcr 62 (ct_spec_l1Left (S * 2 ^ 2 + 2) (A1) (c1) (q - 2) (Int.toNat (q - 2)) hN (by omega) sH) (zsS (ziS zi0) zs0) (fun A7 k7 => ?_)
   refine xcr 63 (ct_spec_l1Of (1) (1) ⟨rfl⟩ (by omega)) zs0 (fun A8 k8 => ?_)
   refine xz [] [(6, .slice A8 (List.length (ofN B32 1)) k8), (5, .slice A7 (List.length (ofN B32 ((S * 2 ^ 2 + 2) * 2 ^ Int.toNat (q - 2)))) k7), (4, .slice A6 (List.length (ofN B32 (L * 2 ^ Int.toNat (q - 2)))) k6)] ?_
   refine SW_ret ?_
   refine xe ((A6, k6), (A7, k7), A8, k8) (.tuple #[.slice A6 (List.length (ofN B32 (L * 2 ^ Int.toNat (q - 2)))) k6, .slice A7 (List.length (ofN B32 ((S * 2 ^ 2 + 2) * 2 ^ Int.toNat (q - 2)))) k7, .slice A8 (List.length (ofN B32 1)) k8]) [] ?_ (zsS (ziS (ziS zi0)) (zsS (ziS zi0) (zsS zi0 zs0)))
   rfl
  ·have z4 : decide (q - 2 ≥ 0) = false := decide_eq_false (by omega)
   have w4 : Ve (IntKind.i64.wrap (0 - (q - 2))) (((2 - q).toNat : Nat) : Int) := ⟨by rw [wrap_i64 (by omega)]; omega⟩
   have e : bndN P emin S q = (L, S * 2 ^ 2 + 2, 2 ^ (2 - q).toNat) := by unfold bndN hi4; rw [if_neg hq2, hL]
   have hn : (2 - q).toNat ≤ 100000 := by omega
   rw [e]
   refine xg ?_
   refine xn 2 [(1, [0])] [(53, .int .i64 q)] ?_
   refine xve 54 IntKind.i64 (IntKind.wrap IntKind.i64 (q - 2)) (q - 2) w3 ?_
   refine xz [] [(11, .int .i64 (q - 2))] ?_
   refine SW_seq ?_
   refine xr [] [(56, .bool (decide (q - 2 ≥ 0)))] ?_
   refine xsf z4 ?_
   refine SW_skip ?_
   refine xg ?_
   refine xn 3 [] [(66, .int .i64 (q - 2)), (65, .slice A1 (List.length (ofN B32 (S * 2 ^ 2 + 2))) c1), (64, .slice A2 (List.length (ofN B32 L)) c2)] ?_
   refine xve 67 IntKind.i64 (IntKind.wrap IntKind.i64 (0 - (q - 2))) ((((Int.toNat (2 - q)) : Nat) : Int)) w4 ?_
   refine xcr 68 (ct_spec_l2Two ((((Int.toNat (2 - q)) : Nat) : Int)) (Int.toNat (2 - q)) ⟨rfl⟩ hn) zs0 (fun A6 k6 => ?_)
   refine xz [] [(6, .slice A6 (List.length (ofN B32 (2 ^ Int.toNat (2 - q)))) k6), (5, .slice A1 (List.length (ofN B32 (S * 2 ^ 2 + 2))) c1), (4, .slice A2 (List.length (ofN B32 L)) c2)] ?_
   refine SW_ret ?_
   refine xe ((A2, c2), (A1, c1), A6, k6) (.tuple #[.slice A2 (List.length (ofN B32 L)) c2, .slice A1 (List.length (ofN B32 (S * 2 ^ 2 + 2))) c1, .slice A6 (List.length (ofN B32 (2 ^ Int.toNat (2 - q)))) k6]) [] ?_ (zsS (ziS (ziS zi0)) (zsS (ziS zi0) (zsS zi0 zs0)))
   rfl
noncomputable abbrev itvV (u : Nat × Nat × Nat) (cl : Bool) (p : R3) : Value := .agg #[.slice p.1.1 (ofN B64 u.1).length p.1.2, .slice p.2.1.1 (ofN B64 u.2.1).length p.2.1.2, .slice p.2.2.1 (ofN B64 u.2.2).length p.2.2.2, .bool cl, .bool true]
noncomputable abbrev itvF (u : Nat × Nat × Nat) (p : R3) : List Fact := [Row .u64 p.1.1 p.1.2 (ofN B64 u.1), Row .u64 p.2.1.1 p.2.1.2 (ofN B64 u.2.1), Row .u64 p.2.2.1 p.2.2.2 (ofN B64 u.2.2)]
theorem vp_fin {P : Nat} {emin emax : Int} {W E : Nat} {ex : Bool} (h : Fmt2 P emin emax W E ex) (hx1 : 1 ≤ emax) {c : Int} {S : Nat} {q : Int} (hv : VP P emin emax c S q) (hc : c = 2 ∨ c = 3) : (0 < S ∧ S < 2 ^ P) ∧ emin - P + 1 ≤ q ∧ q ≤ emax - P + 1 ∧ (c = 2 → S < 2 ^ (P - 1)) ∧ (S < 2 ^ (P - 1) → q = emin - P + 1) := by
 have hx2 := h.mn
 have t2 := two_P h.toFmt
 have hp := Nat.pow_pos (n := P - 1) (show 0 < 2 by decide)
 rcases hv with ⟨rfl, _⟩ | ⟨rfl, _⟩ | ⟨_, h1, h2, rfl⟩ | ⟨_, h1, h2, h3, h4⟩
 ·omega
 ·omega
 ·omega
 ·omega
theorem bnd_sm {P : Nat} {emin emax : Int} {W E : Nat} {ex : Bool} (h : Fmt2 P emin emax W E ex) (hx1 : 1 ≤ emax) {c : Int} {S : Nat} {q : Int} (hv : VP P emin emax c S q) (hc : c = 2 ∨ c = 3) : ∃ k, k ≤ 17000 ∧ ((bndN P emin S q).1 < 2 ^ k ∧ (bndN P emin S q).2.1 < 2 ^ k ∧ (bndN P emin S q).2.2 < 2 ^ k) ∧ 0 < (bndN P emin S q).1 ∧ 0 < (bndN P emin S q).2.1 ∧ 0 < (bndN P emin S q).2.2 := by
 obtain ⟨⟨bS0, bS1⟩, bq0, bq1, _, _⟩ := vp_fin h hx1 hv hc
 have p1 := h.p1
 have m0 := h.m0
 have m1 := h.m1
 have hE := h.toFmt.plt
 have tp := h.top
 have mn := h.mn
 have p113 : 2 ^ P ≤ 2 ^ 113 := Nat.pow_le_pow_right (by decide) p1
 have hl : 0 < lo4 P emin S q ∧ lo4 P emin S q < 2 ^ 116 := by unfold lo4; split <;> omega
 have hh : 0 < hi4 S ∧ hi4 S < 2 ^ 116 := by unfold hi4; omega
 unfold bndN
 by_cases hq : 2 ≤ q
 ·rw [if_pos hq]
  dsimp only
  have hp := Nat.pow_pos (n := (q - 2).toNat) (show 0 < 2 by decide)
  refine ⟨116 + (q - 2).toNat, by omega, ⟨?_, ?_, ?_⟩, Nat.mul_pos hl.1 hp, Nat.mul_pos hh.1 hp, by decide⟩
  ·rw [Nat.pow_add]
   exact Nat.mul_lt_mul_of_pos_right hl.2 hp
  ·rw [Nat.pow_add]
   exact Nat.mul_lt_mul_of_pos_right hh.2 hp
  ·rw [Nat.pow_add]
   exact Nat.lt_of_lt_of_le (show 1 < 2 ^ 116 * 1 by decide) (Nat.mul_le_mul_left _ hp)
 ·rw [if_neg hq]
  dsimp only
  have hp := Nat.pow_pos (n := (2 - q).toNat) (show 0 < 2 by decide)
  refine ⟨116 + (2 - q).toNat, by omega, ⟨?_, ?_, ?_⟩, hl.1, hh.1, hp⟩
  ·rw [Nat.pow_add]
   exact Nat.lt_of_lt_of_le hl.2 (Nat.le_mul_of_pos_right _ hp)
  ·rw [Nat.pow_add]
   exact Nat.lt_of_lt_of_le hh.2 (Nat.le_mul_of_pos_right _ hp)
  ·exact Nat.pow_lt_pow_right (by decide) (by omega)
theorem ct_spec_Bounds {P : Nat} {emin emax : Int} {W E : Nat} {ex : Bool} {f : Int} (d : FD f P emin emax W E ex) (x : Nat) (hx : x < B128) (c : Int) (neg : Bool) (S : Nat) (q : Int) (hx2 : unpN P emin emax W E ex x = (c, neg, hiI S, loI S, q)) (hv : VP P emin emax c S q) (hc : c = 2 ∨ c = 3) (u : Nat × Nat × Nat) (hu : bndN P emin S q = u) :
  Ct Tryd.prog 30 [.int .i64 f, .agg #[.int .u64 (hiI x), .int .u64 (loI x)]] [] (γ := R3) (itvV u (decide (S % 2 = 0))) (itvF u) := by
 have h := d.h
 have hs := d.sf
 have cu := ct_spec_Unpack h.toFmt f hs x hx
 rw [hx2, prtV] at cu
 dsimp only at cu
 have z2 : (c != 2) = true ∨ (c != 2) = false := by cases (c != 2) <;> simp
 have v2 : Ve (Int.tmod (loI S) 2) ((S % 2 : Nat) : Int) := ⟨by unfold loI; rw [Int.tmod_eq_emod_of_nonneg (by omega)]; omega⟩
 have e2 : (((S % 2 : Nat) : Int) == 0) = decide (S % 2 = 0) := by rw [Bool.eq_iff_iff, beq_iff_eq, decide_eq_true_iff]; omega
 have hsm := bnd_sm h d.x1 hv hc
 rw [hu] at hsm
 obtain ⟨k, hk, ⟨h1, h2, h3⟩, _⟩ := hsm
 have s1 : Sm u.1 := Sm.of h1 (by omega)
 have s2 : Sm u.2.1 := Sm.of h2 (by omega)
 have s3 : Sm u.2.2 := Sm.of h3 (by omega)
 obtain ⟨u1, u2, u3⟩ := u
 dsimp only at s1 s2 s3
 rw [← e2]
 refine ct_of Tryd.func30 rfl (by kernel_rfl) (fun B w0 => ?_)
 rcases hc with rfl | rfl
 ·have hc : (2 : Int) = 2 ∨ (2 : Int) = 3 := .inl rfl
  have cs := ct_spec_l2Span d 2 neg S q hv hc _ hu
  refine xg ?_
  refine xb 3 [.int .u64 (hiI x), .int .u64 (loI x)] 28 (fun g0 => ?_)
  refine xb 4 [.slice none 0 0, .slice none 0 0, .slice none 0 0, .bool false, .bool false] 63 (fun g1 => ?_)
  refine xz [] [] ?_
  refine xg ?_
  refine xn 2 [(1, [0])] [(10, .agg #[.int .u64 (hiI x), .int .u64 (loI x)]), (9, .int .i64 f)] ?_
  refine xcv 11 cu zs0 ?_
  refine xb 5 [.int .i64 0, .bool false, .int .u64 0, .int .u64 0, .int .i64 0] 33 (fun g2 => ?_)
  refine xy [(4, [2])] [] [(2, [.int .i64 2, .bool neg, .int .u64 (hiI S), .int .u64 (loI S), .int .i64 q])] ?_
  refine SW_seq ?_
  refine xr [(1, [2])] [(19, .bool false)] ?_
  refine xs0 ?_
  refine SW_skip ?_
  refine xg ?_
  refine xn 2 [(1, [2])] [(23, .agg #[.int .i64 2, .bool neg, .int .u64 (hiI S), .int .u64 (loI S), .int .i64 q]), (22, .int .i64 f)] ?_
  (refine xck 24 cs zs0 (fun zz => ?_); obtain ⟨⟨z3, z4⟩, ⟨⟨z5, z6⟩, ⟨z7, z8⟩⟩⟩ := zz)
  refine xz [] [(8, .slice z7 (List.length (ofN B32 u3)) z8), (7, .slice z5 (List.length (ofN B32 u2)) z6), (6, .slice z3 (List.length (ofN B32 u1)) z4)] ?_
  refine xd (fun hB => ?_)
  refine xdk [(0, []), (2, []), (4, []), (6, []), (7, []), (8, [2])] [(36, .int .u64 (loI S)), (32, .slice z7 (List.length (ofN B32 u3)) z8), (30, .slice z5 (List.length (ofN B32 u2)) z6), (28, .slice z3 (List.length (ofN B32 u1)) z4)] hB ?_
  refine xdve 9 hB 37 IntKind.u64 (Int.tmod (loI S) 2) ((((S % 2) : Nat) : Int)) v2 ?_
  refine xdk [(10, [])] [(38, .bool ((((S % 2) : Nat) : Int) == 0))] hB ?_
  refine xdr 1 29 (ct_spec_l1Out (u1) (z3) (z4) s1) (zsS zi0 zs0) (fun A0 k0 => ?_)
  refine xdr 3 31 (ct_spec_l1Out (u2) (z5) (z6) s2) (zsS (ziS (ziS zi0)) zs0) (fun A1 k1 => ?_)
  refine xdr 5 33 (ct_spec_l1Out (u3) (z7) (z8) s3) (zsS (ziS (ziS (ziS (ziS zi0)))) zs0) (fun A2 k2 => ?_)
  refine xdk [(11, [])] [(39, .agg #[.slice A0 (List.length (ofN B64 u1)) k0, .slice A1 (List.length (ofN B64 u2)) k1, .slice A2 (List.length (ofN B64 u3)) k2, .bool ((((S % 2) : Nat) : Int) == 0), .bool true])] hB ?_
  refine xds 12 [1] [(1, [.slice A0 (List.length (ofN B64 u1)) k0, .slice A1 (List.length (ofN B64 u2)) k1, .slice A2 (List.length (ofN B64 u3)) k2, .bool ((((S % 2) : Nat) : Int) == 0), .bool true])] ?_
  refine xdz ?_
  refine SW_ret ?_
  refine xe ((A0, k0), (A1, k1), A2, k2) (.agg #[.slice A0 (List.length (ofN B64 u1)) k0, .slice A1 (List.length (ofN B64 u2)) k1, .slice A2 (List.length (ofN B64 u3)) k2, .bool ((((S % 2) : Nat) : Int) == 0), .bool true]) [1] ?_ (zsS (ziS (ziS zi0)) (zsS (ziS zi0) (zsS zi0 zs0)))
  rfl
 ·have hc : (3 : Int) = 2 ∨ (3 : Int) = 3 := .inr rfl
  have cs := ct_spec_l2Span d 3 neg S q hv hc _ hu
  refine xg ?_
  refine xb 3 [.int .u64 (hiI x), .int .u64 (loI x)] 28 (fun g0 => ?_)
  refine xb 4 [.slice none 0 0, .slice none 0 0, .slice none 0 0, .bool false, .bool false] 63 (fun g1 => ?_)
  refine xz [] [] ?_
  refine xg ?_
  refine xn 2 [(1, [0])] [(10, .agg #[.int .u64 (hiI x), .int .u64 (loI x)]), (9, .int .i64 f)] ?_
  refine xcv 11 cu zs0 ?_
  refine xb 5 [.int .i64 0, .bool false, .int .u64 0, .int .u64 0, .int .i64 0] 33 (fun g2 => ?_)
  refine xy [(4, [2])] [] [(2, [.int .i64 3, .bool neg, .int .u64 (hiI S), .int .u64 (loI S), .int .i64 q])] ?_
  refine SW_seq ?_
  refine xr [(1, [2]), (5, [2])] [(19, .bool false)] ?_
  refine xs0 ?_
  refine SW_skip ?_
  refine xg ?_
  refine xn 2 [(1, [2])] [(23, .agg #[.int .i64 3, .bool neg, .int .u64 (hiI S), .int .u64 (loI S), .int .i64 q]), (22, .int .i64 f)] ?_
  (refine xck 24 cs zs0 (fun zz => ?_); obtain ⟨⟨z3, z4⟩, ⟨⟨z5, z6⟩, ⟨z7, z8⟩⟩⟩ := zz)
  refine xz [] [(8, .slice z7 (List.length (ofN B32 u3)) z8), (7, .slice z5 (List.length (ofN B32 u2)) z6), (6, .slice z3 (List.length (ofN B32 u1)) z4)] ?_
  refine xd (fun hB => ?_)
  refine xdk [(0, []), (2, []), (4, []), (6, []), (7, []), (8, [2])] [(36, .int .u64 (loI S)), (32, .slice z7 (List.length (ofN B32 u3)) z8), (30, .slice z5 (List.length (ofN B32 u2)) z6), (28, .slice z3 (List.length (ofN B32 u1)) z4)] hB ?_
  refine xdve 9 hB 37 IntKind.u64 (Int.tmod (loI S) 2) ((((S % 2) : Nat) : Int)) v2 ?_
  refine xdk [(10, [])] [(38, .bool ((((S % 2) : Nat) : Int) == 0))] hB ?_
  refine xdr 1 29 (ct_spec_l1Out (u1) (z3) (z4) s1) (zsS zi0 zs0) (fun A0 k0 => ?_)
  refine xdr 3 31 (ct_spec_l1Out (u2) (z5) (z6) s2) (zsS (ziS (ziS zi0)) zs0) (fun A1 k1 => ?_)
  refine xdr 5 33 (ct_spec_l1Out (u3) (z7) (z8) s3) (zsS (ziS (ziS (ziS (ziS zi0)))) zs0) (fun A2 k2 => ?_)
  refine xdk [(11, [])] [(39, .agg #[.slice A0 (List.length (ofN B64 u1)) k0, .slice A1 (List.length (ofN B64 u2)) k1, .slice A2 (List.length (ofN B64 u3)) k2, .bool ((((S % 2) : Nat) : Int) == 0), .bool true])] hB ?_
  refine xds 12 [1] [(1, [.slice A0 (List.length (ofN B64 u1)) k0, .slice A1 (List.length (ofN B64 u2)) k1, .slice A2 (List.length (ofN B64 u3)) k2, .bool ((((S % 2) : Nat) : Int) == 0), .bool true])] ?_
  refine xdz ?_
  refine SW_ret ?_
  refine xe ((A0, k0), (A1, k1), A2, k2) (.agg #[.slice A0 (List.length (ofN B64 u1)) k0, .slice A1 (List.length (ofN B64 u2)) k1, .slice A2 (List.length (ofN B64 u3)) k2, .bool ((((S % 2) : Nat) : Int) == 0), .bool true]) [1] ?_ (zsS (ziS (ziS zi0)) (zsS (ziS zi0) (zsS zi0 zs0)))
  rfl
end Go.Proofs.YtgknelgplmohoaaDoor.M
end
section
namespace Go.Proofs.YtgknelgplmohoaaDoor.M
open Go.RowKit Go.Proofs.YtgknelgplmohoaaDoor.G Go.Proofs.YtgknelgplmohoaaDoorV.PrintWords Go.Proofs.YtgknelgplmohoaaDoorV.PrintLast Go.Proofs.YtgknelgplmohoaaDoor.X
set_option linter.unusedVariables false
set_option linter.unusedSimpArgs false
section
variable {P : Nat} {emin emax : Int} {W E : Nat} {ex : Bool}
theorem bnd_tq {P : Nat} {emin : Int} {S : Nat} {q : Int} : (bndN P emin S q).1 = lo4 P emin S q * 2 ^ (q - 2).toNat ∧ (bndN P emin S q).2.1 = hi4 S * 2 ^ (q - 2).toNat ∧ (bndN P emin S q).2.2 = 2 ^ (2 - q).toNat := by
  unfold bndN
  by_cases hq : 2 ≤ q
  · rw [if_pos hq]
    refine ⟨rfl, rfl, ?_⟩
    rw [show (2 - q).toNat = 0 by omega]
  · rw [if_neg hq, show (q - 2).toNat = 0 by omega, Nat.pow_zero, Nat.mul_one, Nat.mul_one]
    exact ⟨rfl, rfl, rfl⟩
end
end Go.Proofs.YtgknelgplmohoaaDoor.M
end
section
namespace Go.Proofs.YtgknelgplmohoaaDoor.M
open Go.RowKit Go.Proofs.YtgknelgplmohoaaDoor.G Go.Proofs.YtgknelgplmohoaaDoorV.PrintWords Go.Proofs.YtgknelgplmohoaaDoorV.PrintLast Go.Proofs.YtgknelgplmohoaaDoor.X
set_option linter.unusedVariables false
set_option linter.unusedSimpArgs false
def atN (x y : Nat) (e : Int) : Nat × Nat := if 0 ≤ e then (x, y * 10 ^ e.toNat) else (x * 10 ^ (-e).toNat, y)
theorem atN_scale (K : Nat) (e : Int) (h : -(K : Int) ≤ e) : ∃ c, 0 < c ∧ ∀ x y, c * (atN x y e).1 = x * 10 ^ K ∧ c * (atN x y e).2 = y * 10 ^ (e + K).toNat := by
  by_cases he : 0 ≤ e
  · refine ⟨10 ^ K, Nat.pow_pos (by decide), fun x y => ?_⟩
    unfold atN
    rw [if_pos he]
    refine ⟨Nat.mul_comm _ _, ?_⟩
    dsimp only
    rw [show (e + (K : Int)).toNat = e.toNat + K by omega, Nat.pow_add, Nat.mul_comm, Nat.mul_assoc]
  · refine ⟨10 ^ (e + K).toNat, Nat.pow_pos (by decide), fun x y => ?_⟩
    unfold atN
    rw [if_neg he]
    refine ⟨?_, Nat.mul_comm _ _⟩
    dsimp only
    rw [Nat.mul_comm, Nat.mul_assoc, ← Nat.pow_add]
    congr 2
    omega
theorem ten_lt2 (n : Nat) : 10 ^ n < 2 ^ (4 * n + 1) := by
  have h2 : 10 ^ n ≤ (2 ^ 4) ^ n := Nat.pow_le_pow_left (by decide) n
  rw [← Nat.pow_mul] at h2
  rw [Nat.pow_succ]
  have := Nat.pow_pos (n := 4 * n) (show 0 < 2 by decide)
  omega
theorem mul_lt2 {x y a b : Nat} (hx : x < 2 ^ a) (hy : y < 2 ^ b) : x * y < 2 ^ (a + b) := by
  rw [Nat.pow_add]
  exact Nat.lt_of_le_of_lt (Nat.mul_le_mul_left _ (Nat.le_of_lt hy)) (Nat.mul_lt_mul_of_pos_right hx (Nat.pow_pos (by decide)))
theorem atN_lt {x y k n : Nat} {e : Int} (hx : x < 2 ^ k) (hy : y < 2 ^ k) (he : -20000 ≤ e ∧ e ≤ 20000) (hn : k + 80001 ≤ n) : (atN x y e).1 < 2 ^ n ∧ (atN x y e).2 < 2 ^ n := by
  have key : ∀ z m : Nat, z < 2 ^ k → m ≤ 20000 → z * 10 ^ m < 2 ^ n := fun z m hz hm => Nat.lt_of_lt_of_le (mul_lt2 hz (ten_lt2 m)) (Nat.pow_le_pow_right (by decide) (by omega))
  have key0 : ∀ z : Nat, z < 2 ^ k → z < 2 ^ n := fun z hz => Nat.lt_of_lt_of_le hz (Nat.pow_le_pow_right (by decide) (by omega))
  unfold atN
  split
  · exact ⟨key0 _ hx, key _ _ hy (by omega)⟩
  · exact ⟨key _ _ hx (by omega), key0 _ hy⟩
theorem atN_pos {x y : Nat} {e : Int} (hy : 0 < y) : 0 < (atN x y e).2 := by
  unfold atN
  split
  · exact Nat.mul_pos hy (Nat.pow_pos (by decide))
  · exact hy
theorem inJ_scale {cl : Bool} {L H x c : Nat} (hc : 0 < c) : inJ cl (c * L) (c * H) (c * x) = inJ cl L H x := by
  unfold inJ
  have e1 : decide (c * L < c * x) = decide (L < x) := by rw [decide_eq_decide]; exact Nat.mul_lt_mul_left hc
  have e2 : decide (c * L = c * x) = decide (L = x) := by rw [decide_eq_decide]; exact ⟨fun z => Nat.eq_of_mul_eq_mul_left hc z, fun z => by rw [z]⟩
  have e3 : decide (c * x < c * H) = decide (x < H) := by rw [decide_eq_decide]; exact Nat.mul_lt_mul_left hc
  have e4 : decide (c * x = c * H) = decide (x = H) := by rw [decide_eq_decide]; exact ⟨fun z => Nat.eq_of_mul_eq_mul_left hc z, fun z => by rw [z]⟩
  rw [e1, e2, e3, e4]
theorem mul_mod_iff {c x t : Nat} (hc : 0 < c) : c * x % (c * t) = 0 ↔ x % t = 0 := by
  rw [Nat.mul_mod_mul_left]
  constructor
  · intro h
    rcases Nat.mul_eq_zero.1 h with h | h
    · omega
    · exact h
  · intro h
    rw [h, Nat.mul_zero]
theorem cLo_scale {cl : Bool} {L t c : Nat} (hc : 0 < c) : cLo cl (c * L) (c * t) = cLo cl L t := by
  unfold cLo
  simp only [mul_mod_iff hc, Nat.mul_div_mul_left _ _ hc]
theorem cHi_scale {cl : Bool} {H t c : Nat} (hc : 0 < c) : cHi cl (c * H) (c * t) = cHi cl H t := by
  unfold cHi
  simp only [mul_mod_iff hc, Nat.mul_div_mul_left _ _ hc]
theorem rrS_scale {V t c : Nat} (hc : 0 < c) : rrS (c * V) (c * t) = rrS V t := by
  unfold rrS rrUp
  rw [Nat.mul_div_mul_left _ _ hc, Nat.mul_mod_mul_left]
  have e1 : decide (c * t < c * (V % t) * 2) = decide (t < V % t * 2) := by rw [decide_eq_decide, Nat.mul_assoc]; exact Nat.mul_lt_mul_left hc
  have e2 : decide (c * (V % t) * 2 = c * t) = decide (V % t * 2 = t) := by rw [decide_eq_decide, Nat.mul_assoc]; exact ⟨fun z => Nat.eq_of_mul_eq_mul_left hc z, fun z => by rw [z]⟩
  rw [e1, e2]
theorem nrN_scale {V t c lo hi : Nat} (hc : 0 < c) : nrN (c * V) (c * t) lo hi = nrN V t lo hi := by
  unfold nrN
  rw [rrS_scale hc]
theorem farN_scale {V t n c : Nat} (hc : 0 < c) : farN (c * V) (c * t) n = c * farN V t n := by
  unfold farN
  have e : n * (c * t) = c * (n * t) := Nat.mul_left_comm _ _ _
  rw [e, ← Nat.mul_sub, ← Nat.mul_sub]
  by_cases h : n * t < V
  · rw [if_pos h, if_pos ((Nat.mul_lt_mul_left hc).2 h)]
  · rw [if_neg h, if_neg (fun z => h ((Nat.mul_lt_mul_left hc).1 z))]
theorem two_ten (t : Nat) (ht : t ≤ 20000) : 2 ^ t ≤ 10 ^ (t * 30103 / 100000 + 2) := by
  obtain ⟨k, hk⟩ : ∃ k, t * 30103 / 100000 + 2 = k := ⟨_, rfl⟩
  rw [hk]
  refine (Nat.pow_le_pow_iff_left (n := 93) (by decide)).1 ?_
  rw [← Nat.pow_mul, ← Nat.pow_mul, Nat.mul_comm t, Nat.pow_mul]
  refine Nat.le_trans (Nat.pow_le_pow_left (show 2 ^ 93 ≤ 10 ^ 28 by decide) t) ?_
  rw [← Nat.pow_mul]
  exact Nat.pow_le_pow_right (by decide) (by omega)
theorem ten_two (s : Nat) (hs : s ≤ 20000) : 10 ^ (s * 30103 / 100000) ≤ 2 ^ (s + 6) := by
  obtain ⟨k, hk⟩ : ∃ k, s * 30103 / 100000 = k := ⟨_, rfl⟩
  rw [hk]
  refine (Nat.pow_le_pow_iff_left (n := 59) (by decide)).1 ?_
  rw [← Nat.pow_mul, ← Nat.pow_mul, Nat.mul_comm k, Nat.pow_mul]
  refine Nat.le_trans (Nat.pow_le_pow_left (show 10 ^ 59 ≤ 2 ^ 196 by decide) k) ?_
  rw [← Nat.pow_mul]
  exact Nat.pow_le_pow_right (by decide) (by omega)
theorem ten_ex {t W : Nat} (ht : 0 < t) (h : t ≤ W) : ∃ j, t * 10 ^ j ≤ W ∧ W < t * 10 ^ (j + 1) := by
  have key : ∀ n, W < t * 10 ^ n → ∃ j, j < n ∧ t * 10 ^ j ≤ W ∧ W < t * 10 ^ (j + 1) := by
    intro n
    induction n with
    | zero => intro h1; rw [Nat.pow_zero] at h1; omega
    | succ n ih =>
      intro h1
      by_cases h2 : t * 10 ^ n ≤ W
      · exact ⟨n, Nat.lt_succ_self n, h2, h1⟩
      · obtain ⟨j, hj, h3⟩ := ih (by omega)
        exact ⟨j, by omega, h3⟩
  have h1 : W < t * 10 ^ W := Nat.lt_of_lt_of_le (Nat.lt_pow_self (by decide)) (Nat.le_mul_of_pos_left _ ht)
  obtain ⟨j, _, h2⟩ := key W h1
  exact ⟨j, h2⟩
def kK : Nat := 6000
theorem kK_eq : kK = 6000 := rfl
def tU (den : Nat) (e : Int) : Nat := den * 10 ^ (e + kK).toNat
def midN (S : Nat) (q : Int) : Nat := S * 2 ^ 2 * 2 ^ (q - 2).toNat
def s6 (x : Nat) : Nat := x * 10 ^ kK
theorem big_ten {a k : Nat} (ha : a < 2 ^ k) (hk : k ≤ 17000) : a < 10 ^ (5119 + 0) := by
  obtain ⟨n, hn⟩ : ∃ n, 5119 + 0 = n := ⟨_, rfl⟩
  rw [hn]
  exact Nat.lt_of_lt_of_le ha (Nat.le_trans (two_ten k (by omega)) (Nat.pow_le_pow_right (by decide) (by omega)))
theorem tU_pos {den : Nat} (h : 0 < den) (e : Int) : 0 < tU den e := Nat.mul_pos h (Nat.pow_pos (by decide))
theorem tU_next {den : Nat} {e : Int} (he : -(kK : Int) ≤ e) : tU den (e + 1) = 10 * tU den e := by
  unfold tU
  rw [show (e + 1 + kK).toNat = (e + kK).toNat + 1 by omega, Nat.pow_succ, ← Nat.mul_assoc, Nat.mul_comm 10]
theorem eS_ex {den mid k : Nat} (hd : 0 < den) (hm : 0 < mid) (hd2 : den < 2 ^ k) (hm2 : mid < 2 ^ k) (hk : k ≤ 17000) : ∃ eS : Int, tU den eS ≤ s6 mid ∧ s6 mid < tU den (eS + 1) ∧ -5125 ≤ eS ∧ eS ≤ 5125 := by
  have h1 := big_ten hd2 hk
  have h2 := big_ten hm2 hk
  have hK := kK_eq
  obtain ⟨n, hn⟩ : ∃ n, 5119 + 0 = n := ⟨_, rfl⟩
  rw [hn] at h1 h2
  have h3 : 10 ^ n ≤ 10 ^ kK := Nat.pow_le_pow_right (by decide) (by omega)
  have h4 : 1 * 10 ^ kK ≤ mid * 10 ^ kK := Nat.mul_le_mul_right _ hm
  obtain ⟨j, hj1, hj2⟩ := ten_ex (t := den) (W := s6 mid) hd (by unfold s6; omega)
  have h5 : j < n + kK := by
    refine (Nat.pow_lt_pow_iff_right (show 1 < 10 by decide)).1 ?_
    have a1 : 1 * 10 ^ j ≤ den * 10 ^ j := Nat.mul_le_mul_right _ hd
    have a2 : mid * 10 ^ kK < 10 ^ n * 10 ^ kK := Nat.mul_lt_mul_of_pos_right h2 (Nat.pow_pos (by decide))
    rw [← Nat.pow_add] at a2
    unfold s6 at hj1
    omega
  have h6 : kK < n + (j + 1) := by
    refine (Nat.pow_lt_pow_iff_right (show 1 < 10 by decide)).1 ?_
    have a2 : den * 10 ^ (j + 1) < 10 ^ n * 10 ^ (j + 1) := Nat.mul_lt_mul_of_pos_right h1 (Nat.pow_pos (by decide))
    rw [← Nat.pow_add] at a2
    unfold s6 at hj2
    omega
  refine ⟨(j : Int) - kK, ?_, ?_, by omega, by omega⟩
  · unfold tU
    rw [show ((j : Int) - kK + kK).toNat = j by omega]
    exact hj1
  · unfold tU
    rw [show ((j : Int) - kK + 1 + kK).toNat = j + 1 by omega]
    exact hj2
theorem s6_lt {a b : Nat} (h : a < b) : s6 a < s6 b := Nat.mul_lt_mul_of_pos_right h (Nat.pow_pos (by decide))
section
variable {P : Nat} {emin emax : Int} {W E : Nat} {ex : Bool} {c : Int} {S : Nat} {q : Int}
theorem lo4_lt (hS : 0 < S) : lo4 P emin S q + 1 ≤ S * 2 ^ 2 := by unfold lo4; split <;> omega
theorem sh_of (h : Fmt2 P emin emax W E ex) (hx1 : 1 ≤ emax) (hv : VP P emin emax c S q) (hc : c = 2 ∨ c = 3) (cl : Bool) :
    ∃ eS : Int, Sh cl (s6 (bndN P emin S q).1) (s6 (midN S q)) (s6 (bndN P emin S q).2.1) (tU (bndN P emin S q).2.2) (-(kK : Int)) eS ∧ (-5125 ≤ eS ∧ eS ≤ 5125) ∧ lhN cl (s6 (bndN P emin S q).1) (s6 (bndN P emin S q).2.1) (s6 (midN S q)) (tU (bndN P emin S q).2.2 (eS - 38)) = true := by
  obtain ⟨⟨bS0, bS1⟩, bq0, bq1, bS2, bS3⟩ := vp_fin h hx1 hv hc
  obtain ⟨k, hk, ⟨l1, l2, l3⟩, g1, g2, g3⟩ := bnd_sm h hx1 hv hc
  obtain ⟨e1, e2, e3⟩ := bnd_tq (P := P) (emin := emin) (S := S) (q := q)
  have hw : 0 < 2 ^ (q - 2).toNat := Nat.pow_pos (by decide)
  have hlo := lo4_lt (P := P) (emin := emin) (q := q) bS0
  have hhi : hi4 S = S * 2 ^ 2 + 2 := rfl
  have hp1 := h.p1
  have hS113 : S < 2 ^ 113 := Nat.lt_of_lt_of_le bS1 (Nat.pow_le_pow_right (by decide) hp1)
  have f1 : (bndN P emin S q).1 + 2 ^ (q - 2).toNat ≤ midN S q := by
    rw [e1]
    unfold midN
    have := Nat.mul_le_mul_right (2 ^ (q - 2).toNat) hlo
    rw [Nat.add_mul, Nat.one_mul] at this
    exact this
  have f2 : (bndN P emin S q).2.1 = midN S q + 2 * 2 ^ (q - 2).toNat := by
    rw [e2, hhi, Nat.add_mul]
    rfl
  have f3 : 4 * 2 ^ (q - 2).toNat ≤ midN S q := Nat.mul_le_mul_right _ (by omega)
  have f4 : midN S q < 2 ^ 115 * 2 ^ (q - 2).toNat := Nat.mul_lt_mul_of_pos_right (by omega) hw
  obtain ⟨den, hden⟩ : ∃ den, (bndN P emin S q).2.2 = den := ⟨_, rfl⟩
  obtain ⟨lo, elo⟩ : ∃ lo, (bndN P emin S q).1 = lo := ⟨_, rfl⟩
  obtain ⟨hi, ehi⟩ : ∃ hi, (bndN P emin S q).2.1 = hi := ⟨_, rfl⟩
  obtain ⟨mid, emid⟩ : ∃ mid, midN S q = mid := ⟨_, rfl⟩
  obtain ⟨w, ew⟩ : ∃ w, 2 ^ (q - 2).toNat = w := ⟨_, rfl⟩
  rw [hden] at l3 g3
  rw [elo] at l1 g1
  rw [ehi] at l2 g2
  rw [elo, ew, emid] at f1
  rw [ehi, emid, ew] at f2
  rw [emid, ew] at f3 f4
  rw [ew] at hw
  rw [hden, elo, ehi, emid]
  obtain ⟨eS, h1, h2, h3, h4⟩ := eS_ex (k := k) g3 (show 0 < mid by omega) l3 (by omega) hk
  have hK := kK_eq
  have sh : Sh cl (s6 lo) (s6 mid) (s6 hi) (tU den) (-(kK : Int)) eS := ⟨s6_lt (by omega), s6_lt (by omega), by
    unfold s6
    rw [← Nat.mul_assoc, ← Nat.mul_assoc]
    exact Nat.mul_le_mul_right _ (by omega), fun e he => tU_next he, fun e => tU_pos g3 e, h1, h2⟩
  refine ⟨eS, sh, ⟨h3, h4⟩, ?_⟩
  have hpw := sh.pow' (e := eS - 38) (e' := eS) (by omega) (by omega)
  rw [show (eS - (eS - 38)).toNat = 38 by omega] at hpw
  have pt := sh.p (eS - 38)
  have hb : tU den (eS - 38) < s6 w := by
    refine Nat.lt_of_mul_lt_mul_left (a := 10 ^ 38) ?_
    have a1 : s6 mid < s6 (2 ^ 115 * w) := s6_lt f4
    have a2 : s6 (2 ^ 115 * w) ≤ s6 (10 ^ 38 * w) := by
      unfold s6
      exact Nat.mul_le_mul_right _ (Nat.mul_le_mul_right _ (by decide))
    have a3 : s6 (10 ^ 38 * w) = 10 ^ 38 * s6 w := Nat.mul_assoc _ _ _
    omega
  have hg : s6 lo + s6 w ≤ s6 mid := by
    unfold s6
    rw [← Nat.add_mul]
    exact Nat.mul_le_mul_right _ f1
  have d1 := dt_le (s6 mid) (tU den (eS - 38))
  have d2 := dt_lt (V := s6 mid) pt
  rw [Nat.add_mul, Nat.one_mul] at d2
  unfold lhN
  rw [inJ_mid (by omega) (by have := sh.vh; omega), Bool.true_or]
theorem e0_ok {cl : Bool} {L V H : Nat} {den hi mid k bh bd : Nat} {eS : Int} (sh : Sh cl L V H (tU den) (-(kK : Int)) eS) (hV : V = s6 mid) (hmh : mid < hi) (hb : IsBits hi bh) (hd : IsBits den bd) (hd0 : 0 < den) (hhk : hi < 2 ^ k) (hdk : den < 2 ^ k) (hk : k ≤ 17000) (he : -5125 ≤ eS ∧ eS ≤ 5125) :
    eS + 1 ≤ Int.tdiv (((bh : Int) - bd + 1) * 30103) 100000 + 2 ∧ Int.tdiv (((bh : Int) - bd + 1) * 30103) 100000 + 2 ≤ 5130 ∧ bh ≤ k ∧ bd ≤ k := by
  have b1 := hb.le hhk
  have b2 := hd.le hdk
  have b3 := hd.pos hd0
  have b4 := hb.1
  have b5 : 2 ^ (bd - 1) ≤ den := by
    rcases hd.2 with h3 | h3
    · omega
    · exact h3
  have hK := kK_eq
  obtain ⟨e0, he0⟩ : ∃ e0, Int.tdiv (((bh : Int) - bd + 1) * 30103) 100000 + 2 = e0 := ⟨_, rfl⟩
  rw [he0]
  have key : mid * 10 ^ kK < den * 10 ^ (e0 + kK).toNat → -5200 ≤ e0 → eS + 1 ≤ e0 := by
    intro h1 h2
    rcases Int.lt_or_le eS e0 with h | h
    · omega
    · have h3 := sh.mono (e := e0) (e' := eS) (by omega) h
      have h4 := sh.lo
      have h5 : tU den e0 = den * 10 ^ (e0 + kK).toNat := rfl
      have h6 : s6 mid = mid * 10 ^ kK := rfl
      omega
  rcases Int.lt_or_le ((bh : Int) - bd + 1) 0 with ht | ht
  · obtain ⟨s, hs⟩ : ∃ s : Nat, (bh : Int) - bd + 1 = -(s : Int) := ⟨(-((bh : Int) - bd + 1)).toNat, by omega⟩
    obtain ⟨m, hm⟩ : ∃ m, s * 30103 / 100000 = m := ⟨_, rfl⟩
    have e1 : e0 = 2 - (m : Int) := by
      rw [← he0, hs, Int.neg_mul, Int.neg_tdiv, Int.tdiv_eq_ediv_of_nonneg (by omega)]
      omega
    refine ⟨key ?_ (by omega), by omega, b1, b2⟩
    have t1 := ten_two s (by omega)
    rw [hm] at t1
    have t2 : mid * 2 ^ (s + 6) < den * 100 := by
      have a1 : mid * 2 ^ s < 2 ^ bh * 2 ^ s := Nat.mul_lt_mul_of_pos_right (by omega) (Nat.pow_pos (by decide))
      rw [← Nat.pow_add, show bh + s = bd - 1 by omega] at a1
      rw [Nat.pow_add, ← Nat.mul_assoc]
      have a2 : mid * 2 ^ s * 2 ^ 6 ≤ mid * 2 ^ s * 100 := Nat.mul_le_mul_left _ (by decide)
      omega
    have t3 : mid * 10 ^ m < den * 100 := Nat.lt_of_le_of_lt (Nat.mul_le_mul_left _ t1) t2
    have t4 : mid * 10 ^ m * 10 ^ (kK - m) < den * 100 * 10 ^ (kK - m) := Nat.mul_lt_mul_of_pos_right t3 (Nat.pow_pos (by decide))
    rw [Nat.mul_assoc, ← Nat.pow_add, Nat.mul_assoc, show (100 : Nat) = 10 ^ 2 from rfl, ← Nat.pow_add] at t4
    rw [show m + (kK - m) = kK by omega, show 2 + (kK - m) = (e0 + kK).toNat by omega] at t4
    exact t4
  · obtain ⟨t, hs⟩ : ∃ t : Nat, (bh : Int) - bd + 1 = (t : Int) := ⟨((bh : Int) - bd + 1).toNat, by omega⟩
    obtain ⟨m, hm⟩ : ∃ m, t * 30103 / 100000 + 2 = m := ⟨_, rfl⟩
    have e1 : e0 = (m : Int) := by
      rw [← he0, hs, Int.tdiv_eq_ediv_of_nonneg (by omega)]
      omega
    refine ⟨key ?_ (by omega), by omega, b1, b2⟩
    have t1 := two_ten t (by omega)
    rw [hm] at t1
    have t2 : mid < den * 2 ^ t := by
      have a1 : 2 ^ (bd - 1) * 2 ^ t ≤ den * 2 ^ t := Nat.mul_le_mul_right _ b5
      rw [← Nat.pow_add, show bd - 1 + t = bh by omega] at a1
      omega
    have t3 : mid < den * 10 ^ m := Nat.lt_of_lt_of_le t2 (Nat.mul_le_mul_left _ t1)
    have t4 : mid * 10 ^ kK < den * 10 ^ m * 10 ^ kK := Nat.mul_lt_mul_of_pos_right t3 (Nat.pow_pos (by decide))
    rw [Nat.mul_assoc, ← Nat.pow_add, show m + kK = (e0 + kK).toNat by omega] at t4
    exact t4
end
theorem atN_same (cl : Bool) (x y : Nat) (e : Int) (he : -(kK : Int) ≤ e) : cLo cl (atN x y e).1 (atN x y e).2 = cLo cl (s6 x) (tU y e) ∧ cHi cl (atN x y e).1 (atN x y e).2 = cHi cl (s6 x) (tU y e) := by
  obtain ⟨c, hc, h12⟩ := atN_scale kK e he
  obtain ⟨h1, h2⟩ := h12 x y
  unfold s6 tU
  rw [← h1, ← h2, cLo_scale hc, cHi_scale hc]
  exact ⟨rfl, rfl⟩
def magN (S : Nat) (q : Int) : Nat × Nat := if 0 ≤ q then (S * 2 ^ q.toNat, 1) else (S, 2 ^ (-q).toNat)
theorem mag_mid {P : Nat} {emin : Int} (S : Nat) (q : Int) : ∃ c, 0 < c ∧ c * (magN S q).1 = midN S q ∧ c * (magN S q).2 = (bndN P emin S q).2.2 := by
  rw [(bnd_tq (P := P) (emin := emin) (S := S) (q := q)).2.2]
  unfold magN midN
  by_cases h0 : 0 ≤ q
  · rw [if_pos h0]
    dsimp only
    refine ⟨2 ^ (2 - q).toNat, Nat.pow_pos (by decide), ?_, Nat.mul_one _⟩
    rw [Nat.mul_left_comm, ← Nat.pow_add, Nat.mul_assoc, ← Nat.pow_add]
    congr 2
    omega
  · rw [if_neg h0]
    dsimp only
    refine ⟨2 ^ 2, by decide, ?_, ?_⟩
    · rw [show (q - 2).toNat = 0 by omega, Nat.pow_zero, Nat.mul_one, Nat.mul_comm]
    · rw [← Nat.pow_add]
      congr 1
      omega
theorem atM_scale {P : Nat} {emin : Int} (S : Nat) (q : Int) (e : Int) (he : -(kK : Int) ≤ e) : ∃ c, 0 < c ∧ c * (atN (magN S q).1 (magN S q).2 e).1 = s6 (midN S q) ∧ c * (atN (magN S q).1 (magN S q).2 e).2 = tU (bndN P emin S q).2.2 e := by
  obtain ⟨c, hc, h1, h2⟩ := mag_mid (P := P) (emin := emin) S q
  obtain ⟨d, hd, k12⟩ := atN_scale kK e he
  obtain ⟨k1, k2⟩ := k12 (magN S q).1 (magN S q).2
  refine ⟨c * d, Nat.mul_pos hc hd, ?_, ?_⟩
  · unfold s6
    rw [Nat.mul_assoc, k1, ← Nat.mul_assoc, h1]
  · unfold tU
    rw [Nat.mul_assoc, k2, ← Nat.mul_assoc, h2]
theorem cmpN_mul {a b k : Nat} (hk : 0 < k) : cmpN (a * k) (b * k) = cmpN a b := by
  unfold cmpN
  have e1 : a * k < b * k ↔ a < b := Nat.mul_lt_mul_right hk
  have e2 : a * k > b * k ↔ a > b := Nat.mul_lt_mul_right hk
  simp only [e1, e2]
theorem far_cmp {V t t' n n' c1 c2 a d a2 d2 : Nat} (hc1 : 0 < c1) (hc2 : 0 < c2) (h1 : c1 * a = V) (h2 : c1 * d = t) (h3 : c2 * a2 = V) (h4 : c2 * d2 = t') (ht : t = 10 * t') (ht0 : 0 < t') :
    cmpN (farN a2 d2 n' * d) (farN a d n * d2 * 10) = cmpN (farN V t' n') (farN V t n) := by
  rw [← cmpN_mul (k := c1 * c2) (Nat.mul_pos hc1 hc2)]
  have e1 : farN a2 d2 n' * d * (c1 * c2) = farN V t' n' * t := by
    rw [← h3, ← h4, farN_scale hc2, ← h2, Nat.mul_comm c1 c2, ← Nat.mul_assoc, Nat.mul_right_comm _ d c2, Nat.mul_comm _ c2, Nat.mul_assoc _ d c1, Nat.mul_comm d c1]
  have e2 : farN a d n * d2 * 10 * (c1 * c2) = farN V t n * t := by
    rw [ht, ← h4]
    rw [show farN V (10 * (c2 * d2)) n = c1 * farN a d n by rw [h4, ← ht, ← h1, ← h2, farN_scale hc1]]
    generalize farN a d n = f
    rw [Nat.mul_comm c1 f, Nat.mul_assoc f, Nat.mul_assoc f, Nat.mul_assoc f]
    congr 1
    rw [Nat.mul_comm d2 10, Nat.mul_assoc 10, Nat.mul_left_comm c1 10]
    congr 1
    rw [Nat.mul_left_comm d2 c1, Nat.mul_comm d2 c2]
  rw [e1, e2]
  exact cmpN_mul (by omega)
end Go.Proofs.YtgknelgplmohoaaDoor.M
end
section
namespace Go.Proofs.YtgknelgplmohoaaDoor.M
open Go.RowKit Go.Proofs.YtgknelgplmohoaaDoor.G Go.Proofs.YtgknelgplmohoaaDoorV.PrintWords Go.Proofs.YtgknelgplmohoaaDoorV.PrintLast Go.Proofs.YtgknelgplmohoaaDoor.X
set_option linter.unusedVariables false
set_option linter.unusedSimpArgs false
theorem ten_sm {x e n : Nat} (h : x * 10 ^ n = 10 ^ e) (he : e ≤ 20000) : Sm x := by
 have h1 : x ≤ x * 10 ^ n := Nat.le_mul_of_pos_right _ (Nat.pow_pos (by decide))
 have h2 : 10 ^ e ≤ (2 ^ 4) ^ e := Nat.pow_le_pow_left (by decide) e
 rw [← Nat.pow_mul] at h2
 refine Sm.of (k := 4 * e + 1) ?_ (by omega)
 rw [Nat.pow_succ]
 have := Nat.pow_pos (n := 4 * e) (show 0 < 2 by decide)
 omega
end Go.Proofs.YtgknelgplmohoaaDoor.M
end
section
namespace Go.Proofs.YtgknelgplmohoaaDoor.M
open Go.RowKit Go.Proofs.YtgknelgplmohoaaDoor.G Go.Proofs.YtgknelgplmohoaaDoorV.PrintWords Go.Proofs.YtgknelgplmohoaaDoorV.PrintLast Go.Proofs.YtgknelgplmohoaaDoor.X
set_option linter.unusedVariables false
set_option linter.unusedSimpArgs false
theorem ten_sm' {e : Nat} (he : e ≤ 20000) : Sm (10 ^ e) := ten_sm (x := 10 ^ e) (n := 0) (by rw [Nat.pow_zero, Nat.mul_one]) he
theorem ct_impl_ten (E : Int) (e : Nat) (hE : Nn E e) (he : e ≤ 20000) : CtR Tryd.prog 120 [.int .i64 E] [] .u64 (ofN B64 (10 ^ e)) := by
 obtain ⟨d, n, v⟩ := ofN_spec B64_2 (10 ^ e)
 exact ct_impl_ten_rows E e hE he _ d n v
end Go.Proofs.YtgknelgplmohoaaDoor.M
end
section
namespace Go.Proofs.YtgknelgplmohoaaDoor.M
open Go.RowKit Go.Proofs.YtgknelgplmohoaaDoor.G Go.Proofs.YtgknelgplmohoaaDoorV.PrintWords Go.Proofs.YtgknelgplmohoaaDoorV.PrintLast Go.Proofs.YtgknelgplmohoaaDoor.X
set_option linter.unusedVariables false
set_option linter.unusedSimpArgs false
theorem ct_spec_l2Top {P : Nat} {emin emax : Int} {W E : Nat} {ex : Bool} (h : Fmt2 P emin emax W E ex) : CtV Tryd.prog 101 [dscV P emin emax W E ex] [] (.int .i64 ((2 ^ E - 1 : Nat) : Int)) := by
 have m1 := h.m1
 refine ct_of Tryd.func101 rfl (by kernel_rfl) (fun B w0 => ?_)
 refine xg ?_
 refine xb 1 [.int .i64 (P : Int), .int .i64 emin, .int .i64 emax, .int .i64 (W : Int), .int .i64 (E : Int), .bool ex] 85 (fun g0 => ?_)
 refine xz [] [(2, .int .i64 0)] ?_
 refine xr [(1, [0])] [(2, .int .i64 (IntKind.wrap IntKind.i64 (IntKind.wrap IntKind.i64 (2 * emax) + 1)))] ?_
 refine SW_ret ?_
 refine xe () (.int .i64 (IntKind.wrap IntKind.i64 (IntKind.wrap IntKind.i64 (2 * emax) + 1))) [] ?_ trivial
 rw [wsi (x := 2 * emax) (by omega), wsi (by omega), h.top]
theorem ct_spec_Pack {P : Nat} {emin emax : Int} {W E : Nat} {ex : Bool} (h : Fmt2 P emin emax W E ex) (f : Int) (hf : spec_Describe.f f = some ((P : Int), emin, emax, (W : Int), (E : Int), ex)) (c : Int) (neg : Bool) (S : Nat) (hS : S < B128) (q : Int) (hq : -9223372036854775808 ≤ q ∧ q ≤ 9223372036854775807) :
  CtV Tryd.prog 50 [.int .i64 f, .agg #[.int .i64 c, .bool neg, .int .u64 (hiI S), .int .u64 (loI S), .int .i64 q]] [] (.tuple #[.agg #[.int .u64 (hiI (packR P emin emax W E ex c neg S q).1), .int .u64 (loI (packR P emin emax W E ex c neg S q).1)], .bool (packR P emin emax W E ex c neg S q).2]) := by
 have h1 := h.toFmt
 refine ct_of Tryd.func50 rfl (by kernel_rfl) (fun B w0 => ?_)
 have p3 := h.p3
 have p1 := h.p1
 refine xg ?_
 refine xb 3 [.int .i64 c, .bool neg, .int .u64 (hiI S), .int .u64 (loI S), .int .i64 q] 33 (fun g0 => ?_)
 refine xb 4 [.int .u64 0, .int .u64 0] 28 (fun g1 => ?_)
 refine xz [] [(5, .bool false)] ?_
 refine xg ?_
 refine xn 1 [] [(10, .int .i64 f)] ?_
 refine xcv 11 (ct_spec_Describe (f) hf) zs0 ?_
 refine xb 6 [.int .i64 0, .int .i64 0, .int .i64 0, .int .i64 0, .int .i64 0, .bool false] 85 (fun g2 => ?_)
 refine xy [(3, [2])] [] [(2, [.int .i64 (P : Int), .int .i64 emin, .int .i64 emax, .int .i64 (W : Int), .int .i64 (E : Int), .bool ex])] ?_
 refine SW_seq ?_
 refine xr [(1, [2])] [(14, .bool ((P : Int) == 0))] ?_
 refine xs ((P : Int) == 0) (fun q0 => ?_) (fun q0 => ?_)
 ·exfalso
  have := beq_iff_eq.1 q0
  omega
 ·refine SW_skip ?_
  refine xg ?_
  refine xn 1 [] [(16, .agg #[.int .u64 0, .int .u64 0])] ?_
  refine xb 7 [.int .u64 0, .int .u64 0] 28 (fun g3 => ?_)
  refine xy [(2, [3])] [] [] ?_
  refine xg ?_
  refine xn 2 [(1, [0])] [(18, .agg #[.int .u64 (hiI S), .int .u64 (loI S)])] ?_
  refine xcr 19 (ct_spec_l2Of (S) hS) zs0 (fun A0 k0 => ?_)
  refine xz [] [(8, .slice A0 (List.length (ofN B32 S)) k0)] ?_
  have e0 : 0 < 2 ^ E := Nat.pow_pos (by decide)
  have e1 : 2 ^ E - 1 < 2 ^ E := by omega
  have nP2 : Nn (IntKind.i64.wrap ((P : Int) - 2)) (P - 2) := Nn.wrap (by omega) (by omega)
  have r2 : 2 ^ (P - 2) < 2 ^ (P - 1) := Nat.pow_lt_pow_right (by decide) (by omega)
  have nP1 : Nn (IntKind.i64.wrap ((P : Int) - 1)) (P - 1) := Nn.wrap (by omega) (by omega)
  have hlow : S % 2 ^ (P - 1) < 2 ^ (P - 1) := Nat.mod_lt _ (Nat.pow_pos (by decide))
  have h128 : 2 ^ W ≤ B128 := Nat.pow_le_pow_right (n := 2) (by decide) h1.w2
  have mk : ∀ n l e r, e < 2 ^ E → r < 2 ^ (P - 1) → makeN P W ex n l e r < B128 := fun n l e r he hr => Nat.lt_of_lt_of_le (makeN_lt h1 n l e r he hr) h128
  have z0 : 0 < 2 ^ (P - 1) := Nat.pow_pos (by decide)
  obtain ⟨m, hm⟩ := bits_ex S
  have sS : Sm S := sm128 (Nat.lt_of_lt_of_le hS (by decide))
  refine SW_cut (fun s' => ∃ x, x < B128 ∧ packN P emax W E ex c neg S q = some x ∧ Weak s' ⟨[(0, .int .i64 f), (3, .pointer (some ⟨g0, 0, none⟩)), (4, .pointer (some ⟨g1, 0, none⟩)), (7, .pointer (some ⟨g3, 0, none⟩))], [⟨g0, [.int .i64 c, .bool neg, .int .u64 (hiI S), .int .u64 (loI S), .int .i64 q], 33⟩, ⟨g1, [.int .u64 0, .int .u64 0], 28⟩, ⟨g2, [.int .i64 (P : Int), .int .i64 emin, .int .i64 emax, .int .i64 (W : Int), .int .i64 (E : Int), .bool ex], 85⟩, ⟨g3, [.int .u64 (hiI x), .int .u64 (loI x)], 28⟩], []⟩) ?_ ?_
  ·refine xr [(1, [0])] [(21, .int .i64 c)] ?_
   refine SW_block ?_
   refine xr [] [(23, .bool (c == 1))] ?_
   refine xs (c == 1) (fun q1 => ?_) (fun q1 => ?_)
   ·refine SW_region ?_
    refine xn 3 [(0, [2]), (2, [0])] [(27, .bool neg), (25, .agg #[.int .i64 (P : Int), .int .i64 emin, .int .i64 emax, .int .i64 (W : Int), .int .i64 (E : Int), .bool ex])] ?_
    refine xcv 28 (ct_spec_l2Make' h1 (neg) (false) (0) e0 (0) ⟨rfl⟩) zs0 ?_
    refine xy [(4, [3])] [] [(3, [.int .u64 (hiI (makeN P W ex neg false 0 0)), .int .u64 (loI (makeN P W ex neg false 0 0))])] ?_
    have hc : c = 1 := by simpa using q1
    exact ⟨_, mk neg false 0 0 e0 z0, by unfold packN; rw [if_pos hc], Weak.mk' (by kernel_rfl) rfl zs0⟩
   have hc1 : c ≠ 1 := by simpa using q1
   refine xr [] [(29, .bool (c == 4))] ?_
   refine xs (c == 4) (fun q2 => ?_) (fun q2 => ?_)
   ·refine xdl (fun hB => ?_)
    refine xdk [(0, [2]), (1, []), (2, [0]), (3, [2])] [(34, .agg #[.int .i64 (P : Int), .int .i64 emin, .int .i64 emax, .int .i64 (W : Int), .int .i64 (E : Int), .bool ex]), (33, .bool neg), (31, .agg #[.int .i64 (P : Int), .int .i64 emin, .int .i64 emax, .int .i64 (W : Int), .int .i64 (E : Int), .bool ex])] hB ?_
    refine xdv 4 35 (ct_spec_l2Top h) zs0 ?_
    refine xdv 5 36 (ct_spec_l2Make' h1 (neg) (true) (2 ^ E - 1) e1 ((((2 ^ E - 1) : Nat) : Int)) ⟨rfl⟩) zs0 ?_
    refine xds 6 [3] [(3, [.int .u64 (hiI (makeN P W ex neg true (2 ^ E - 1) 0)), .int .u64 (loI (makeN P W ex neg true (2 ^ E - 1) 0))])] ?_
    refine xdz ?_
    have hc : c = 4 := by simpa using q2
    exact ⟨_, mk neg true _ 0 e1 z0, by unfold packN; rw [if_neg hc1, if_pos hc], Weak.mk' (by kernel_rfl) rfl zs0⟩
   have hc4 : c ≠ 4 := by simpa using q2
   refine xr [] [(37, .bool (c == 5))] ?_
   refine xs (c == 5) (fun q3 => ?_) (fun q3 => ?_)
   ·refine xdl (fun hB => ?_)
    refine xdk [(0, [2]), (1, [2]), (3, []), (4, [2]), (5, [])] [(44, .int .i64 (IntKind.wrap IntKind.i64 ((P : Int) - 2))), (40, .agg #[.int .i64 (P : Int), .int .i64 emin, .int .i64 emax, .int .i64 (W : Int), .int .i64 (E : Int), .bool ex]), (39, .agg #[.int .i64 (P : Int), .int .i64 emin, .int .i64 emax, .int .i64 (W : Int), .int .i64 (E : Int), .bool ex])] hB ?_
    refine xdv 2 41 (ct_spec_l2Top h) zs0 ?_
    refine xdr 6 45 (ct_spec_l2Two (IntKind.wrap IntKind.i64 ((P : Int) - 2)) (P - 2) nP2 (by omega)) zs0 (fun A1 k1 => ?_)
    refine xdv 7 46 (ct_spec_l2Make h1 (false) (true) (2 ^ E - 1) (2 ^ (P - 2)) e1 r2 ((((2 ^ E - 1) : Nat) : Int)) ⟨rfl⟩ (A1) (k1)) (zsS zi0 zs0) ?_
    refine xds 8 [3] [(3, [.int .u64 (hiI (makeN P W ex false true (2 ^ E - 1) (2 ^ (P - 2)))), .int .u64 (loI (makeN P W ex false true (2 ^ E - 1) (2 ^ (P - 2))))])] ?_
    refine xdz ?_
    have hc : c = 5 := by simpa using q3
    exact ⟨_, mk false true _ _ e1 r2, by unfold packN; rw [if_neg hc1, if_neg hc4, if_pos hc], Weak.mk' (by kernel_rfl) rfl zs0⟩
   have hc5 : c ≠ 5 := by simpa using q3
   refine xr [] [(47, .bool (c == 2))] ?_
   refine xs (c == 2) (fun q4 => ?_) (fun q4 => ?_)
   ·have hc : c = 2 := by simpa using q4
    have hpk : packN P emax W E ex c neg S q = if S < 2 ^ (P - 1) then some (makeN P W ex neg false 0 S) else none := by unfold packN; rw [if_neg hc1, if_neg hc4, if_neg hc5, if_pos hc]
    have hb := bits_lt (k := P - 1) hm
    refine SW_seq ?_
    refine xd (fun hB => ?_)
    refine xdk [(0, []), (2, []), (3, [2])] [(52, .int .i64 (P : Int)), (49, .slice A0 (List.length (ofN B32 S)) k0)] hB ?_
    refine xdv 1 50 (ct_spec_l1Bits (S) (A0) (k0) sS (m) hm) (zsS zi0 zs0) ?_
    refine xdk [(4, [])] [(53, .bool (decide ((m : Int) ≥ (P : Int))))] hB ?_
    refine xdz ?_
    refine xs (decide ((m : Int) ≥ (P : Int))) (fun q5 => ?_) (fun q5 => ?_)
    ·refine xq [(1, [1])] [(5, .bool false)] [] ?_
     refine SW_ret ?_
     refine xe () (.tuple #[.agg #[.int .u64 0, .int .u64 0], .bool false]) [1] ?_ trivial
     have hge : P ≤ m := by simpa using q5
     rw [packR_none (by rw [hpk, if_neg (by rw [← hb]; omega)])]
     rfl
    have hlt : m < P := by simpa using q5
    have hS2 : S < 2 ^ (P - 1) := hb.1 (by omega)
    refine SW_skip ?_
    refine SW_region ?_
    refine xn 4 [(0, [2]), (2, [0])] [(58, .slice A0 (List.length (ofN B32 S)) k0), (57, .bool neg), (55, .agg #[.int .i64 (P : Int), .int .i64 emin, .int .i64 emax, .int .i64 (W : Int), .int .i64 (E : Int), .bool ex])] ?_
    refine xcv 59 (ct_spec_l2Make h1 (neg) (false) (0) (S) e0 hS2 (0) ⟨rfl⟩ (A0) (k0)) (zsS zi0 zs0) ?_
    refine xy [(5, [3])] [] [(3, [.int .u64 (hiI (makeN P W ex neg false 0 S)), .int .u64 (loI (makeN P W ex neg false 0 S))])] ?_
    exact ⟨_, mk neg false 0 S e0 hS2, by rw [hpk, if_pos hS2], Weak.mk' (by kernel_rfl) rfl zs0⟩
   have hc2 : c ≠ 2 := by simpa using q4
   refine xr [] [(60, .bool (c == 3))] ?_
   refine xs (c == 3) (fun q5 => ?_) (fun q5 => ?_)
   ·have hc : c = 3 := by simpa using q5
    have hpk : packN P emax W E ex c neg S q = if (2 ^ (P - 1) ≤ S ∧ S < 2 ^ P) ∧ 1 ≤ q + emax + P - 1 ∧ q + emax + P - 1 < ((2 ^ E - 1 : Nat) : Int) then some (makeN P W ex neg true (q + emax + P - 1).toNat (S % 2 ^ (P - 1))) else none := by unfold packN; rw [if_neg hc1, if_neg hc4, if_neg hc5, if_neg hc2, if_pos hc]
    have m1 := h.m1
    have tp := h.top
    have wE := wrapE q emax P hq (by omega) m1.2 p1 (by omega)
    have hbP : m = P ↔ 2 ^ (P - 1) ≤ S ∧ S < 2 ^ P := ⟨fun e => by subst e; exact ⟨hm.2.resolve_left (by omega), hm.1⟩, fun e => hm.uniq ⟨e.2, .inr e.1⟩⟩
    have nope : ∀ x : Int, x = IntKind.i64.wrap (IntKind.i64.wrap (IntKind.i64.wrap (q + emax) + (P : Int)) - 1) → ¬ (m = P ∧ 1 ≤ x ∧ x < ((2 ^ E - 1 : Nat) : Int)) → packR P emin emax W E ex c neg S q = (0, false) := by
     intro x hx hn
     refine packR_none ?_
     rw [hpk, if_neg]
     intro hh
     rw [← hx] at wE
     refine hn ⟨hbP.2 hh.1, ?_⟩
     omega
    refine xr [(1, [0]), (3, [2]), (6, [2])] [(9, .int .i64 (IntKind.wrap IntKind.i64 (IntKind.wrap IntKind.i64 (IntKind.wrap IntKind.i64 (q + emax) + (P : Int)) - 1)))] ?_
    refine SW_seq ?_
    refine xd (fun hB => ?_)
    refine xdk [(0, []), (2, []), (3, [2])] [(74, .int .i64 (P : Int)), (71, .slice A0 (List.length (ofN B32 S)) k0)] hB ?_
    refine xdv 1 72 (ct_spec_l1Bits (S) (A0) (k0) sS (m) hm) (zsS zi0 zs0) ?_
    refine xdk [(4, []), (5, [])] [(76, .bool ((m : Int) != (P : Int)))] hB ?_
    refine xdn 76 ((m : Int) != (P : Int)) (fun q6 => ?_) (fun q6 => ?_)
    ·refine xdk [(6, []), (7, []), (8, []), (9, []), (10, []), (11, [2]), (12, []), (13, []), (14, [])] [(85, .bool true)] hB ?_
     refine xdz ?_
     refine xs1 ?_
     refine xq [(1, [1])] [(5, .bool false)] [] ?_
     refine SW_ret ?_
     refine xe () (.tuple #[.agg #[.int .u64 0, .int .u64 0], .bool false]) [1] ?_ trivial
     rw [nope _ rfl (fun z => by rw [z.1] at q6; simp at q6)]
     rfl
    ·have hmP : m = P := by
      have z : (m : Int) = P := by simpa using q6
      omega
     refine xdk [(6, []), (7, []), (8, []), (9, [])] [(80, .bool (decide (IntKind.wrap IntKind.i64 (IntKind.wrap IntKind.i64 (IntKind.wrap IntKind.i64 (q + emax) + (P : Int)) - 1) < 1)))] hB ?_
     refine xdn 80 (decide (IntKind.wrap IntKind.i64 (IntKind.wrap IntKind.i64 (IntKind.wrap IntKind.i64 (q + emax) + (P : Int)) - 1) < 1)) (fun q7 => ?_) (fun q7 => ?_)
     ·refine xdk [(10, []), (11, [2]), (12, []), (13, []), (14, [])] [(85, .bool true)] hB ?_
      refine xdz ?_
      refine xs1 ?_
      refine xq [(1, [1])] [(5, .bool false)] [] ?_
      refine SW_ret ?_
      refine xe () (.tuple #[.agg #[.int .u64 0, .int .u64 0], .bool false]) [1] ?_ trivial
      rw [nope _ rfl (fun z => by have := of_decide_eq_true q7; omega)]
      rfl
     ·refine xdk [(10, []), (11, [2])] [(82, .agg #[.int .i64 (P : Int), .int .i64 emin, .int .i64 emax, .int .i64 (W : Int), .int .i64 (E : Int), .bool ex]), (81, .int .i64 (IntKind.wrap IntKind.i64 (IntKind.wrap IntKind.i64 (IntKind.wrap IntKind.i64 (q + emax) + (P : Int)) - 1)))] hB ?_
      refine xdv 12 83 (ct_spec_l2Top h) zs0 ?_
      refine xdk [(13, []), (14, [])] [(85, .bool (decide (IntKind.wrap IntKind.i64 (IntKind.wrap IntKind.i64 (IntKind.wrap IntKind.i64 (q + emax) + (P : Int)) - 1) ≥ (((2 ^ E - 1) : Nat) : Int))))] hB ?_
      refine xdz ?_
      refine xs (decide (IntKind.wrap IntKind.i64 (IntKind.wrap IntKind.i64 (IntKind.wrap IntKind.i64 (q + emax) + (P : Int)) - 1) ≥ (((2 ^ E - 1) : Nat) : Int))) (fun q8 => ?_) (fun q8 => ?_)
      ·refine xq [(1, [1])] [(5, .bool false)] [] ?_
       refine SW_ret ?_
       refine xe () (.tuple #[.agg #[.int .u64 0, .int .u64 0], .bool false]) [1] ?_ trivial
       rw [nope _ rfl (fun z => by have := of_decide_eq_true q8; omega)]
       rfl
      ·have a1 := of_decide_eq_false q7
       have a2 := of_decide_eq_false q8
       have wE2 : IntKind.i64.wrap (IntKind.i64.wrap (IntKind.i64.wrap (q + emax) + (P : Int)) - 1) = q + emax + P - 1 := by
        rcases wE with e | e
        ·exact e
        ·exact absurd e.1 a1
       rw [wE2] at a1 a2
       have nE : Nn (IntKind.i64.wrap (IntKind.i64.wrap (IntKind.i64.wrap (q + emax) + (P : Int)) - 1)) (q + emax + P - 1).toNat := ⟨by rw [wE2]; omega⟩
       have e3 : (q + emax + P - 1).toNat < 2 ^ E := by omega
       clear wE2 wE nope
       refine SW_skip ?_
       refine xdl (fun hB => ?_)
       refine xdk [(0, [2]), (1, []), (2, [0]), (3, []), (4, []), (5, []), (6, [2]), (7, [])] [(94, .int .i64 (IntKind.wrap IntKind.i64 ((P : Int) - 1))), (91, .slice A0 (List.length (ofN B32 S)) k0), (90, .int .i64 (IntKind.wrap IntKind.i64 (IntKind.wrap IntKind.i64 (IntKind.wrap IntKind.i64 (q + emax) + (P : Int)) - 1))), (89, .bool neg), (87, .agg #[.int .i64 (P : Int), .int .i64 emin, .int .i64 emax, .int .i64 (W : Int), .int .i64 (E : Int), .bool ex])] hB ?_
       refine xdr 8 95 (ct_spec_l2Low (S) (A0) (k0) (IntKind.wrap IntKind.i64 ((P : Int) - 1)) (P - 1) nP1 (by omega) sS) (zsS zi0 zs0) (fun A1 k1 => ?_)
       refine xdv 9 96 (ct_spec_l2Make h1 (neg) (true) (Int.toNat (q + emax + (P : Int) - 1)) (S % 2 ^ (P - 1)) e3 hlow (IntKind.wrap IntKind.i64 (IntKind.wrap IntKind.i64 (IntKind.wrap IntKind.i64 (q + emax) + (P : Int)) - 1)) nE (A1) (k1)) (zsS zi0 zs0) ?_
       refine xds 10 [3] [(3, [.int .u64 (hiI (makeN P W ex neg true (Int.toNat (q + emax + (P : Int) - 1)) (S % 2 ^ (P - 1)))), .int .u64 (loI (makeN P W ex neg true (Int.toNat (q + emax + (P : Int) - 1)) (S % 2 ^ (P - 1))))])] ?_
       refine xdz ?_
       exact ⟨_, mk neg true _ _ e3 hlow, by rw [hpk, if_pos ⟨hbP.1 hmP, by omega, by omega⟩], Weak.mk' (by kernel_rfl) rfl zs0⟩
   ·have hc3 : c ≠ 3 := by simpa using q5
    refine xq [(1, [1])] [(5, .bool false)] [] ?_
    refine SW_ret ?_
    refine xe () (.tuple #[.agg #[.int .u64 0, .int .u64 0], .bool false]) [1] ?_ trivial
    rw [packR_none (by unfold packN; rw [if_neg hc1, if_neg hc4, if_neg hc5, if_neg hc2, if_neg hc3])]
    rfl
  ·rintro s' ⟨x, hx, hpk, hw⟩
   refine SW_weak hw ?_
   rw [packR_some hpk]
   refine SW_seq ?_
   refine xd (fun hB => ?_)
   refine xdk [(0, []), (1, [3]), (3, [0])] [(100, .agg #[.int .i64 c, .bool neg, .int .u64 (hiI S), .int .u64 (loI S), .int .i64 q]), (98, .agg #[.int .u64 (hiI x), .int .u64 (loI x)]), (97, .int .i64 f)] hB ?_
   refine xdv 2 99 (ct_spec_Unpack h1 (f) hf (x) hx) zs0 ?_
   refine xdw 4 101 (.bool (!((Prod.fst (unpN P emin emax W E ex x) == c) && ((Prod.fst (Prod.snd (unpN P emin emax W E ex x)) == neg) && (((Prod.fst (Prod.snd (Prod.snd (unpN P emin emax W E ex x))) == hiI S) && (Prod.fst (Prod.snd (Prod.snd (Prod.snd (unpN P emin emax W E ex x)))) == loI S)) && (Prod.snd (Prod.snd (Prod.snd (Prod.snd (unpN P emin emax W E ex x)))) == q)))))) hB (fun w _ _ => run_neq rfl (by kernel_rfl) (by kernel_rfl) (by kernel_rfl) w (eq_parts _ _ _ _ _ _ _ _ _ _ _ w)) ?_
   refine xdz ?_
   refine xs (!(Prod.fst (unpN P emin emax W E ex x) == c && (Prod.fst (Prod.snd (unpN P emin emax W E ex x)) == neg && (Prod.fst (Prod.snd (Prod.snd (unpN P emin emax W E ex x))) == hiI S && Prod.fst (Prod.snd (Prod.snd (Prod.snd (unpN P emin emax W E ex x)))) == loI S && Prod.snd (Prod.snd (Prod.snd (Prod.snd (unpN P emin emax W E ex x)))) == q)))) (fun q1 => ?_) (fun q1 => ?_)
   ·refine xq [(1, [1])] [(5, .bool false)] [] ?_
    refine SW_ret ?_
    refine xe () (.tuple #[.agg #[.int .u64 0, .int .u64 0], .bool false]) [1] ?_ trivial
    rw [if_neg]
    ·rfl
    ·intro hu
     rw [hu] at q1
     simp at q1
   ·refine SW_skip ?_
    refine xq [(0, [3]), (1, [1])] [(5, .bool true)] [(1, [.int .u64 (hiI x), .int .u64 (loI x)])] ?_
    refine SW_ret ?_
    refine xe () (.tuple #[.agg #[.int .u64 (hiI x), .int .u64 (loI x)], .bool true]) [1] ?_ trivial
    rw [if_pos]
    have hq : (!eqb (unpN P emin emax W E ex x) (c, neg, hiI S, loI S, q)) = false := q1
    exact (eqb_iff _ _).1 (by simpa using hq)
end Go.Proofs.YtgknelgplmohoaaDoor.M
end
section
namespace Go.Proofs.YtgknelgplmohoaaDoor.M
open Go.RowKit Go.Proofs.YtgknelgplmohoaaDoor.G Go.Proofs.YtgknelgplmohoaaDoorV.PrintWords Go.Proofs.YtgknelgplmohoaaDoorV.PrintLast Go.Proofs.YtgknelgplmohoaaDoor.X
set_option linter.unusedVariables false
set_option linter.unusedSimpArgs false
structure Zn (a q : Int) : Prop where
 out : a = q
 lo : -9223372036854775808 ≤ q
 hi : q ≤ 9223372036854775807
theorem Zn.wrap {x q : Int} (h : x = q) (hq : -9223372036854775808 ≤ q ∧ q ≤ 9223372036854775807) : Zn (IntKind.i64.wrap x) q := ⟨by rw [wsi (by omega)]; exact h, hq.1, hq.2⟩
theorem ct_spec_Pack' {P : Nat} {emin emax : Int} {W E : Nat} {ex : Bool} (h : Fmt2 P emin emax W E ex) (f : Int) (hf : spec_Describe.f f = some ((P : Int), emin, emax, (W : Int), (E : Int), ex)) (c : Int) (neg : Bool) (hi lo : Int) (S : Nat) (hw : Wd hi lo S) (hS : S < B128) (a q : Int) (hq : Zn a q) :
  CtV Tryd.prog 50 [.int .i64 f, .agg #[.int .i64 c, .bool neg, .int .u64 hi, .int .u64 lo, .int .i64 a]] [] (.tuple #[.agg #[.int .u64 (hiI (packR P emin emax W E ex c neg S q).1), .int .u64 (loI (packR P emin emax W E ex c neg S q).1)], .bool (packR P emin emax W E ex c neg S q).2]) := by
 obtain ⟨rfl, rfl⟩ := hw
 obtain ⟨rfl, h1, h2⟩ := hq
 exact ct_spec_Pack h f hf c neg S hS _ ⟨h1, h2⟩
end Go.Proofs.YtgknelgplmohoaaDoor.M
end
section
namespace Go.Proofs.YtgknelgplmohoaaDoor.M
open Go.RowKit Go.Proofs.YtgknelgplmohoaaDoor.G Go.Proofs.YtgknelgplmohoaaDoorV.PrintWords Go.Proofs.YtgknelgplmohoaaDoorV.PrintLast Go.Proofs.YtgknelgplmohoaaDoor.X
set_option linter.unusedVariables false
set_option linter.unusedSimpArgs false
theorem rd_limb (x i : Nat) : rd (ofN B64 x) (i : Int) = ((x / B64 ^ i % B64 : Nat) : Int) := by
 obtain ⟨d, n, v⟩ := ofN_spec B64_2 x
 have h1 := rd_val B64_pos d i
 have h2 := (d.rd B64_pos (i : Int)).1
 rw [v] at h1
 omega
end Go.Proofs.YtgknelgplmohoaaDoor.M
end
section
namespace Go.Proofs.YtgknelgplmohoaaDoor.M
open Go.RowKit Go.Proofs.YtgknelgplmohoaaDoor.G Go.Proofs.YtgknelgplmohoaaDoorV.PrintWords Go.Proofs.YtgknelgplmohoaaDoorV.PrintLast Go.Proofs.YtgknelgplmohoaaDoor.X
set_option linter.unusedVariables false
set_option linter.unusedSimpArgs false
section
variable {P : Nat} {emin emax : Int} {W E : Nat} {ex : Bool}
theorem cmpN_lt' {x y : Nat} (h : x < y) : cmpN x y = -1 := by unfold cmpN; rw [if_pos h]
theorem cmpN_gt' {x y : Nat} (h : y < x) : cmpN x y = 1 := by unfold cmpN; rw [if_neg (by omega), if_pos h]
def Next (P : Nat) (emin : Int) (S : Nat) (q : Int) (c' : Int) (S' : Nat) (q' : Int) : Prop :=
  c' = 4 ∨ ((bndN P emin S q).2.1 * (bndN P emin S' q').2.2 = (bndN P emin S' q').1 * (bndN P emin S q).2.2 ∧ (c' = 2 ∨ c' = 3) ∧ (decide (S % 2 = 0) != decide (S' % 2 = 0)) = true)
end
end Go.Proofs.YtgknelgplmohoaaDoor.M
end
section
namespace Go.Proofs.YtgknelgplmohoaaDoor.M
open Go.RowKit Go.Proofs.YtgknelgplmohoaaDoor.G Go.Proofs.YtgknelgplmohoaaDoorV.PrintWords Go.Proofs.YtgknelgplmohoaaDoorV.PrintLast Go.Proofs.YtgknelgplmohoaaDoor.X
set_option linter.unusedVariables false
set_option linter.unusedSimpArgs false
theorem ct_impl_at (x y : Nat) (e : Int) (A A' : Option Addr) (c c' : Nat) (he : -20000 ≤ e ∧ e ≤ 20000) (sx' : Sm x) (sy' : Sm y) (u : Nat × Nat) (hu : atN x y e = u) : CtRR Tryd.prog 125 [.slice A (ofN B64 x).length c, .slice A' (ofN B64 y).length c', .int .i64 e] [Row .u64 A c (ofN B64 x), Row .u64 A' c' (ofN B64 y)] .u64 (ofN B64 u.1) (ofN B64 u.2) := by
 subst hu
 refine ct_of Tryd.func125 rfl (by kernel_rfl) (fun B w0 => ?_)
 by_cases h0 : 0 ≤ e
 ·have z1 : decide (e ≥ 0) = true := decide_eq_true h0
  have hN : Nn e e.toNat := ⟨by omega⟩
  have hN2 : e.toNat ≤ 20000 := by omega
  have sT : Sm (10 ^ e.toNat) := ten_sm' hN2
  have hu : atN x y e = (x, y * 10 ^ e.toNat) := by unfold atN; rw [if_pos h0]
  rw [hu]
  refine xr [] [(7, .slice none 0 0), (6, .slice none 0 0)] ?_
  refine SW_seq ?_
  refine xr [] [(9, .bool (decide (e ≥ 0)))] ?_
  refine xst z1 ?_
  refine xg ?_
  refine xn 3 [] [(12, .int .i64 e), (11, .slice A' (List.length (ofN B64 y)) c'), (10, .slice A (List.length (ofN B64 x)) c)] ?_
  refine xcr 13 (ct_impl_ten (e) (Int.toNat e) hN hN2) zs0 (fun A0 k0 => ?_)
  refine xcr 14 (ct_impl_nat_mul (y) (10 ^ Int.toNat e) (A') (A0) (c') (k0) sy' sT) (zsS (ziS (ziS zi0)) (zsS zi0 zs0)) (fun A1 k1 => ?_)
  refine xz [] [(7, .slice A1 (List.length (ofN B64 (y * 10 ^ Int.toNat e))) k1), (6, .slice A (List.length (ofN B64 x)) c)] ?_
  refine SW_ret ?_
  refine xe ((A, c), A1, k1) (.tuple #[.slice A (List.length (ofN B64 x)) c, .slice A1 (List.length (ofN B64 (y * 10 ^ Int.toNat e))) k1]) [] ?_ (zsS (ziS (ziS zi0)) (zsS zi0 zs0))
  rfl
 ·have z1 : decide (e ≥ 0) = false := decide_eq_false h0
  have v1 : Ve (IntKind.i64.wrap (0 - e)) (((-e).toNat : Nat) : Int) := ⟨by rw [wrap_i64 (by omega)]; omega⟩
  have hN2 : (-e).toNat ≤ 20000 := by omega
  have sT : Sm (10 ^ (-e).toNat) := ten_sm' hN2
  have hu : atN x y e = (x * 10 ^ (-e).toNat, y) := by unfold atN; rw [if_neg h0]
  rw [hu]
  refine xr [] [(7, .slice none 0 0), (6, .slice none 0 0)] ?_
  refine SW_seq ?_
  refine xr [] [(9, .bool (decide (e ≥ 0)))] ?_
  refine xsf z1 ?_
  refine SW_skip ?_
  refine xg ?_
  refine xn 2 [] [(16, .int .i64 e), (15, .slice A (List.length (ofN B64 x)) c)] ?_
  refine xve 17 IntKind.i64 (IntKind.wrap IntKind.i64 (0 - e)) ((((Int.toNat (-e)) : Nat) : Int)) v1 ?_
  refine xcr 18 (ct_impl_ten ((((Int.toNat (-e)) : Nat) : Int)) (Int.toNat (-e)) ⟨rfl⟩ hN2) zs0 (fun A0 k0 => ?_)
  refine xcr 19 (ct_impl_nat_mul (x) (10 ^ Int.toNat (-e)) (A) (A0) (c) (k0) sx' sT) (zsS (ziS zi0) (zsS zi0 zs0)) (fun A1 k1 => ?_)
  refine xz [] [(7, .slice A' (List.length (ofN B64 y)) c'), (6, .slice A1 (List.length (ofN B64 (x * 10 ^ Int.toNat (-e)))) k1)] ?_
  refine SW_ret ?_
  refine xe ((A1, k1), A', c') (.tuple #[.slice A1 (List.length (ofN B64 (x * 10 ^ Int.toNat (-e)))) k1, .slice A' (List.length (ofN B64 y)) c']) [] ?_ (zsS zi0 (zsS (ziS (ziS (ziS zi0))) zs0))
  rfl
theorem lenp64 (x : Nat) : decide (((ofN B64 x).length : Int) > 0) = decide (0 < x) := by
 rw [decide_eq_decide]
 have := ofN_zero B64_2 x
 omega
theorem lenz64 (x : Nat) : (((ofN B64 x).length : Int) == 0) = decide (x = 0) := by
 rw [Bool.eq_iff_iff, beq_iff_eq, decide_eq_true_iff]
 have := ofN_zero B64_2 x
 omega
theorem ct_impl_candidates (lo hi den : Nat) (cl : Bool) (e : Int) (p : R3) (he : -20000 ≤ e ∧ e ≤ 20000) (k : Nat) (hlo : lo < 2 ^ k) (hhi : hi < 2 ^ k) (hden : den < 2 ^ k) (hk : k ≤ 17000) (hd0 : 0 < den) (u v : Nat × Nat) (hu : atN lo den e = u) (hv : atN hi den e = v) :
  CtRR Tryd.prog 122 [itvV (lo, hi, den) cl p, .int .i64 e] (itvF (lo, hi, den) p) .u64 (ofN B64 (cLo cl u.1 u.2)) (ofN B64 (cHi cl v.1 v.2)) := by
 have s1 : Sm lo := Sm.of hlo (by omega)
 have s2 : Sm hi := Sm.of hhi (by omega)
 have s3 : Sm den := Sm.of hden (by omega)
 have big : ∀ x : Nat, x < 2 ^ k → Sm (atN x den e).1 ∧ Sm (atN x den e).2 ∧ 0 < (atN x den e).2 := fun x hx => by
  have := atN_lt (n := 200000) hx hden he (by omega)
  exact ⟨Sm.of this.1 (by decide), Sm.of this.2 (by decide), atN_pos hd0⟩
 have b1 := big lo hlo
 have b2 := big hi hhi
 rw [hu] at b1
 rw [hv] at b2
 obtain ⟨⟨p1, k1⟩, ⟨p2, k2⟩, ⟨p3, k3⟩⟩ := p
 obtain ⟨u1, u2⟩ := u
 obtain ⟨v1, v2⟩ := v
 dsimp only at b1 b2 ⊢
 obtain ⟨b11, b12, b13⟩ := b1
 obtain ⟨b21, b22, b23⟩ := b2
 have q1 : Sm (u1 / u2) := b11.mono (Nat.div_le_self _ _)
 have q2 : Sm (v1 / v2) := b21.mono (Nat.div_le_self _ _)
 have o1 : Sm 1 := Sm.of (k := 1) (by decide) (by decide)
 have lp := lenp64 (u1 % u2)
 have lz := lenz64 (v1 % v2)
 have lq := lenp64 (v1 / v2)
 obtain ⟨L1, hL1⟩ : ∃ L1, (if u1 % u2 = 0 ∧ cl = true then u1 / u2 else u1 / u2 + 1) = L1 := ⟨_, rfl⟩
 obtain ⟨H1, hH1⟩ : ∃ H1, cHi cl v1 v2 = H1 := ⟨_, rfl⟩
 have eL : cLo cl u1 u2 = max 1 L1 := by unfold cLo; rw [hL1]
 have ll := lenz64 L1
 rw [eL, hH1]
 refine ct_of Tryd.func122 rfl (by kernel_rfl) (fun B w0 => ?_)
 refine xg ?_
 refine xb 2 [.slice p1 (List.length (ofN B64 lo)) k1, .slice p2 (List.length (ofN B64 hi)) k2, .slice p3 (List.length (ofN B64 den)) k3, .bool cl, .bool true] 63 (fun g0 => ?_)
 refine xz [] [(5, .slice none 0 0), (4, .slice none 0 0)] ?_
 refine xg ?_
 refine xn 5 [(1, [0]), (3, [0])] [(14, .int .i64 e), (13, .slice p3 (List.length (ofN B64 den)) k3), (11, .slice p1 (List.length (ofN B64 lo)) k1)] ?_
 refine xcw 15 (ct_impl_at (lo) (den) (e) (p1) (p3) (k1) (k3) he s1 s3 ((u1, u2)) hu) (zsS zi0 (zsS (ziS (ziS zi0)) zs0)) (fun A4 k4 A5 k5 => ?_)
 refine xz [] [(7, .slice A5 (List.length (ofN B64 u2)) k5), (6, .slice A4 (List.length (ofN B64 u1)) k4)] ?_
 refine xg ?_
 refine xn 2 [] [(20, .slice A5 (List.length (ofN B64 u2)) k5), (19, .slice A4 (List.length (ofN B64 u1)) k4)] ?_
 refine xcw 21 (ct_impl_nat_div (u1) (u2) (A4) (A5) (k4) (k5) b11 b12 b13) (zsS zi0 (zsS (ziS zi0) zs0)) (fun A6 k6 A7 k7 => ?_)
 refine xz [] [(8, .slice A7 (List.length (ofN B64 (u1 % u2))) k7), (4, .slice A6 (List.length (ofN B64 (u1 / u2))) k6)] ?_
 refine SW_cut (fun s' => ∃ (A9 : Option Addr) (c9 : Nat), Weak s' ⟨[(1, .int .i64 e), (2, .pointer (some ⟨g0, 0, none⟩)), (4, .slice A9 (ofN B64 L1).length c9)], [⟨g0, [.slice p1 (ofN B64 lo).length k1, .slice p2 (ofN B64 hi).length k2, .slice p3 (ofN B64 den).length k3, .bool cl, .bool true], 63⟩], [Row .u64 A9 c9 (ofN B64 L1), Row .u64 p1 k1 (ofN B64 lo), Row .u64 p2 k2 (ofN B64 hi), Row .u64 p3 k3 (ofN B64 den)]⟩) ?_ (fun s' hs' => ?_)
 ·by_cases hr : u1 % u2 = 0
  ·have z1 : decide (((ofN B64 (u1 % u2)).length : Int) > 0) = false := by rw [lp]; exact decide_eq_false (by omega)
   cases cl with
   | false =>
    rw [if_neg (by simp)] at hL1
    subst hL1
    refine xg ?_
    refine xn 4 [] [(27, .bool (decide ((((List.length (ofN B64 (u1 % u2))) : Nat) : Int) > 0)))] ?_
    refine xkf 27 z1 ?_
    refine xz [(5, [0])] [(31, .bool true)] ?_
    refine xs1 ?_
    refine SW_region ?_
    refine xn 1 [] [(32, .slice A6 (List.length (ofN B64 (u1 / u2))) k6)] ?_
    refine xcr 33 (ct_impl_word (1) (1) ⟨rfl⟩ (by omega)) zs0 (fun A8 k8 => ?_)
    refine xcr 34 (ct_impl_nat_add (u1 / u2) (1) (A6) (A8) (k6) (k8) q1 o1) (zsS (ziS zi0) (zsS zi0 zs0)) (fun A9 k9 => ?_)
    refine xz [] [(4, .slice A9 (List.length (ofN B64 (u1 / u2 + 1))) k9)] ?_
    refine ⟨(A9), (k9), xw (zsS zi0 (zsS (ziS (ziS (ziS (ziS (ziS (ziS zi0)))))) (zsS (ziS (ziS (ziS (ziS (ziS (ziS (ziS zi0))))))) (zsS (ziS (ziS (ziS (ziS (ziS (ziS (ziS (ziS zi0)))))))) zs0))))⟩
   | true =>
    rw [if_pos ⟨hr, rfl⟩] at hL1
    subst hL1
    refine xg ?_
    refine xn 4 [] [(27, .bool (decide ((((List.length (ofN B64 (u1 % u2))) : Nat) : Int) > 0)))] ?_
    refine xkf 27 z1 ?_
    refine xz [(5, [0])] [(31, .bool false)] ?_
    refine xs0 ?_
    refine SW_skip ?_
    refine ⟨(A6), (k6), xw (zsS zi0 (zsS (ziS (ziS (ziS (ziS zi0)))) (zsS (ziS (ziS (ziS (ziS (ziS zi0))))) (zsS (ziS (ziS (ziS (ziS (ziS (ziS zi0)))))) zs0))))⟩
  ·have z1 : decide (((ofN B64 (u1 % u2)).length : Int) > 0) = true := by rw [lp]; exact decide_eq_true (by omega)
   rw [if_neg (fun z => hr z.1)] at hL1
   subst hL1
   refine xg ?_
   refine xn 4 [] [(27, .bool (decide ((((List.length (ofN B64 (u1 % u2))) : Nat) : Int) > 0)))] ?_
   refine xkt 27 z1 ?_
   refine xz [] [(31, .bool true)] ?_
   refine xs1 ?_
   refine SW_region ?_
   refine xn 1 [] [(32, .slice A6 (List.length (ofN B64 (u1 / u2))) k6)] ?_
   refine xcr 33 (ct_impl_word (1) (1) ⟨rfl⟩ (by omega)) zs0 (fun A8 k8 => ?_)
   refine xcr 34 (ct_impl_nat_add (u1 / u2) (1) (A6) (A8) (k6) (k8) q1 o1) (zsS (ziS zi0) (zsS zi0 zs0)) (fun A9 k9 => ?_)
   refine xz [] [(4, .slice A9 (List.length (ofN B64 (u1 / u2 + 1))) k9)] ?_
   refine ⟨(A9), (k9), xw (zsS zi0 (zsS (ziS (ziS (ziS (ziS (ziS (ziS zi0)))))) (zsS (ziS (ziS (ziS (ziS (ziS (ziS (ziS zi0))))))) (zsS (ziS (ziS (ziS (ziS (ziS (ziS (ziS (ziS zi0)))))))) zs0))))⟩
 obtain ⟨A9, c9, hw⟩ := hs'
 refine SW_weak hw ?_
 clear hw hL1 eL
 refine xg ?_
 refine xn 5 [(1, [0]), (3, [0])] [(40, .int .i64 e), (39, .slice p3 (List.length (ofN B64 den)) k3), (37, .slice p2 (List.length (ofN B64 hi)) k2)] ?_
 refine xcw 41 (ct_impl_at (hi) (den) (e) (p2) (p3) (k2) (k3) he s2 s3 ((v1, v2)) hv) (zsS (ziS (ziS zi0)) (zsS (ziS (ziS (ziS zi0))) zs0)) (fun A10 k10 A11 k11 => ?_)
 refine xz [] [(7, .slice A11 (List.length (ofN B64 v2)) k11), (6, .slice A10 (List.length (ofN B64 v1)) k10)] ?_
 refine xg ?_
 refine xn 2 [] [(46, .slice A11 (List.length (ofN B64 v2)) k11), (45, .slice A10 (List.length (ofN B64 v1)) k10)] ?_
 refine xcw 47 (ct_impl_nat_div (v1) (v2) (A10) (A11) (k10) (k11) b21 b22 b23) (zsS zi0 (zsS (ziS zi0) zs0)) (fun A12 k12 A13 k13 => ?_)
 refine xz [] [(8, .slice A13 (List.length (ofN B64 (v1 % v2))) k13), (5, .slice A12 (List.length (ofN B64 (v1 / v2))) k12)] ?_
 refine SW_cut (fun s' => ∃ (A8 : Option Addr) (c8 : Nat), Weak2 s' ⟨[(4, .slice A9 (ofN B64 L1).length c9), (5, .slice A8 (ofN B64 H1).length c8)], [], [Row .u64 A9 c9 (ofN B64 L1), Row .u64 A8 c8 (ofN B64 H1)]⟩) ?_ (fun s' hs' => ?_)
 ·unfold cHi at hH1
  by_cases hr : v1 % v2 = 0
  ·have z1 : (((ofN B64 (v1 % v2)).length : Int) == 0) = true := by rw [lz]; exact decide_eq_true hr
   cases cl with
   | false =>
    rw [if_pos ⟨hr, rfl⟩] at hH1
    by_cases hq : 0 < v1 / v2
    ·have z2 : decide (((ofN B64 (v1 / v2)).length : Int) > 0) = true := by rw [lq]; exact decide_eq_true hq
     subst hH1
     refine xg ?_
     refine xn 4 [] [(53, .bool ((((List.length (ofN B64 (v1 % v2))) : Nat) : Int) == 0))] ?_
     refine xkt 53 z1 ?_
     refine xz [(5, [0])] [(62, .bool (decide ((((List.length (ofN B64 (v1 / v2))) : Nat) : Int) > 0)))] ?_
     refine xst z2 ?_
     refine SW_region ?_
     refine xn 1 [] [(63, .slice A12 (List.length (ofN B64 (v1 / v2))) k12)] ?_
     refine xcr 64 (ct_impl_word (1) (1) ⟨rfl⟩ (by omega)) zs0 (fun A14 k14 => ?_)
     refine xcr 65 (ct_impl_nat_sub (v1 / v2) (1) (A12) (A14) (k12) (k14) q2 (by omega)) (zsS (ziS zi0) (zsS zi0 zs0)) (fun A15 k15 => ?_)
     refine xz [] [(5, .slice A15 (List.length (ofN B64 (v1 / v2 - 1))) k15)] ?_
     refine ⟨(A15), (k15), xw2 [] (zsS (ziS (ziS (ziS (ziS (ziS (ziS zi0)))))) (zsS zi0 zs0))⟩
    ·have z2 : decide (((ofN B64 (v1 / v2)).length : Int) > 0) = false := by rw [lq]; exact decide_eq_false hq
     have h9 : v1 / v2 = 0 := Nat.eq_zero_of_not_pos hq
     have e0 : v1 / v2 = H1 := by rw [← hH1, h9]
     clear hH1
     subst e0
     refine xg ?_
     refine xn 4 [] [(53, .bool ((((List.length (ofN B64 (v1 % v2))) : Nat) : Int) == 0))] ?_
     refine xkt 53 z1 ?_
     refine xz [(5, [0])] [(62, .bool (decide ((((List.length (ofN B64 (v1 / v2))) : Nat) : Int) > 0)))] ?_
     refine xsf z2 ?_
     refine SW_skip ?_
     refine ⟨(A12), (k12), xw2 [] (zsS (ziS (ziS (ziS (ziS zi0)))) (zsS zi0 zs0))⟩
   | true =>
    rw [if_neg (by simp)] at hH1
    subst hH1
    refine xg ?_
    refine xn 4 [] [(53, .bool ((((List.length (ofN B64 (v1 % v2))) : Nat) : Int) == 0))] ?_
    refine xkt 53 z1 ?_
    refine xz [(5, [0])] [(62, .bool false)] ?_
    refine xs0 ?_
    refine SW_skip ?_
    refine ⟨(A12), (k12), xw2 [] (zsS (ziS (ziS (ziS (ziS zi0)))) (zsS zi0 zs0))⟩
  ·have z1 : (((ofN B64 (v1 % v2)).length : Int) == 0) = false := by rw [lz]; exact decide_eq_false hr
   rw [if_neg (fun z => hr z.1)] at hH1
   subst hH1
   refine xg ?_
   refine xn 4 [] [(53, .bool ((((List.length (ofN B64 (v1 % v2))) : Nat) : Int) == 0))] ?_
   refine xkf 53 z1 ?_
   refine xz [] [(62, .bool false)] ?_
   refine xs0 ?_
   refine SW_skip ?_
   refine ⟨(A12), (k12), xw2 [] (zsS (ziS (ziS (ziS (ziS zi0)))) (zsS zi0 zs0))⟩
 obtain ⟨A8, c8, hw⟩ := hs'
 refine SW_weak2 hw ?_
 clear hw hH1
 by_cases h0 : L1 = 0
 ·have z1 : (((ofN B64 L1).length : Int) == 0) = true := by rw [ll]; exact decide_eq_true h0
  have e0 : max 1 L1 = 1 := by omega
  rw [e0]
  refine SW_seq ?_
  refine xr [] [(68, .bool ((((List.length (ofN B64 L1)) : Nat) : Int) == 0))] ?_
  refine xst z1 ?_
  refine SW_region ?_
  refine xcr 69 (ct_impl_word (1) (1) ⟨rfl⟩ (by omega)) zs0 (fun A14 k14 => ?_)
  refine xz [] [(4, .slice A14 (List.length (ofN B64 1)) k14)] ?_
  refine xr [] [(5, .slice A8 (List.length (ofN B64 H1)) c8), (4, .slice A14 (List.length (ofN B64 1)) k14)] ?_
  refine SW_ret ?_
  refine xe ((A14, k14), A8, c8) (.tuple #[.slice A14 (List.length (ofN B64 1)) k14, .slice A8 (List.length (ofN B64 H1)) c8]) [] ?_ (zsS zi0 (zsS (ziS (ziS zi0)) zs0))
  rfl
 ·have z1 : (((ofN B64 L1).length : Int) == 0) = false := by rw [ll]; exact decide_eq_false h0
  have e0 : max 1 L1 = L1 := by omega
  rw [e0]
  refine SW_seq ?_
  refine xr [] [(68, .bool ((((List.length (ofN B64 L1)) : Nat) : Int) == 0))] ?_
  refine xsf z1 ?_
  refine SW_skip ?_
  refine xr [] [(5, .slice A8 (List.length (ofN B64 H1)) c8), (4, .slice A9 (List.length (ofN B64 L1)) c9)] ?_
  refine SW_ret ?_
  refine xe ((A9, c9), A8, c8) (.tuple #[.slice A9 (List.length (ofN B64 L1)) c9, .slice A8 (List.length (ofN B64 H1)) c8]) [] ?_ (zsS zi0 (zsS (ziS zi0) zs0))
  rfl
theorem ct_impl_near (V t lo hi k : Nat) (A A' A2 A3 : Option Addr) (c c' c2 c3 : Nat) (hV : V < 2 ^ k) (ht : t < 2 ^ k) (h0 : 0 < t) (hlo : lo < 2 ^ k) (hhi : hi < 2 ^ k) (hk : k ≤ 400000) :
  CtRR Tryd.prog 126 [.slice A (ofN B64 V).length c, .slice A' (ofN B64 t).length c', .slice A2 (ofN B64 lo).length c2, .slice A3 (ofN B64 hi).length c3] [Row .u64 A c (ofN B64 V), Row .u64 A' c' (ofN B64 t), Row .u64 A2 c2 (ofN B64 lo), Row .u64 A3 c3 (ofN B64 hi)] .u64 (ofN B64 (nrN V t lo hi)) (ofN B64 (farN V t (nrN V t lo hi))) := by
 have sV : Sm V := Sm.of hV (by omega)
 have st : Sm t := Sm.of ht (by omega)
 have sl : Sm lo := Sm.of hlo (by omega)
 have sh : Sm hi := Sm.of hhi (by omega)
 have sQ : Sm (V / t) := sV.mono (Nat.div_le_self _ _)
 have sR : Sm (V % t) := sV.mono (Nat.mod_le _ _)
 have s1 : Sm 1 := Sm.of (k := 1) (by decide) (by decide)
 have sR2 : Sm (V % t * 2 ^ 1) := Sm.of (k := k + 1) (by
  have h1 : V % t ≤ V := Nat.mod_le _ _
  rw [Nat.pow_add, Nat.pow_one]
  omega) (by omega)
 have hq := Nat.div_le_self V t
 have hrs := rrS_le V t
 have hp : 0 < 2 ^ k := Nat.pow_pos (by decide)
 have h2k : 2 ^ (k + 1) = 2 ^ k * 2 := Nat.pow_succ _ _
 refine ct_of Tryd.func126 rfl (by kernel_rfl) (fun B w0 => ?_)
 refine xr [] [(9, .slice none 0 0), (8, .slice none 0 0)] ?_
 refine xg ?_
 refine xn 2 [] [(16, .slice A' (List.length (ofN B64 t)) c'), (15, .slice A (List.length (ofN B64 V)) c)] ?_
 refine xcw 17 (ct_impl_nat_div (V) (t) (A) (A') (c) (c') sV st h0) (zsS zi0 (zsS (ziS zi0) zs0)) (fun A4 k4 A5 k5 => ?_)
 refine xz [] [(11, .slice A5 (List.length (ofN B64 (V % t))) k5), (10, .slice A4 (List.length (ofN B64 (V / t))) k4)] ?_
 refine xg ?_
 refine xn 1 [] [(20, .slice A5 (List.length (ofN B64 (V % t))) k5)] ?_
 refine xcr 21 (ct_impl_nat_left (V % t) (A5) (k5) (1) (1) ⟨rfl⟩ (by omega) sR) (zsS (ziS zi0) zs0) (fun A6 k6 => ?_)
 refine xn 3 [] [(22, .slice A' (List.length (ofN B64 t)) c')] ?_
 refine xcv 23 (ct_impl_nat_cmp (V % t * 2 ^ 1) (t) (A6) (A') (k6) (c') sR2 st) (zsS zi0 (zsS (ziS (ziS (ziS (ziS zi0)))) zs0)) ?_
 refine xz [] [(12, .int .i64 (cmpN (V % t * 2 ^ 1) t))] ?_
 refine SW_cut (fun s' => ∃ (A9 : Option Addr) (c9 : Nat), Weak s' ⟨[(0, .slice A (ofN B64 V).length c), (1, .slice A' (ofN B64 t).length c'), (2, .slice A2 (ofN B64 lo).length c2), (3, .slice A3 (ofN B64 hi).length c3), (10, .slice A9 (ofN B64 (rrS V t)).length c9)], [], [Row .u64 A9 c9 (ofN B64 (rrS V t)), Row .u64 A c (ofN B64 V), Row .u64 A' c' (ofN B64 t), Row .u64 A2 c2 (ofN B64 lo), Row .u64 A3 c3 (ofN B64 hi)]⟩) ?_ (fun s' hs' => ?_)
 ·rcases Nat.lt_trichotomy t (V % t * 2 ^ 1) with hc | hc | hc
  ·have z1 : decide (cmpN (V % t * 2 ^ 1) t > 0) = true := decide_eq_true (by unfold cmpN; rw [if_neg (by omega), if_pos hc]; decide)
   have e : rrS V t = V / t + 1 := by unfold rrS rrUp; rw [if_pos (by rw [decide_eq_true (show t < V % t * 2 by omega)]; rfl)]
   rw [e]
   refine xg ?_
   refine xn 3 [] [(26, .bool (decide (cmpN (V % t * 2 ^ 1) t > 0)))] ?_
   refine xkt 26 z1 ?_
   refine xz [] [(41, .bool true)] ?_
   refine xs1 ?_
   refine SW_region ?_
   refine xn 1 [] [(42, .slice A4 (List.length (ofN B64 (V / t))) k4)] ?_
   refine xcr 43 (ct_impl_word (1) (1) ⟨rfl⟩ (by omega)) zs0 (fun A7 k7 => ?_)
   refine xcr 44 (ct_impl_nat_add (V / t) (1) (A4) (A7) (k4) (k7) sQ s1) (zsS (ziS (ziS zi0)) (zsS zi0 zs0)) (fun A8 k8 => ?_)
   refine xz [] [(10, .slice A8 (List.length (ofN B64 (V / t + 1))) k8)] ?_
   refine ⟨(A8), (k8), xw (zsS zi0 (zsS (ziS (ziS (ziS (ziS (ziS zi0))))) (zsS (ziS (ziS (ziS (ziS (ziS (ziS zi0)))))) (zsS (ziS (ziS (ziS (ziS (ziS (ziS (ziS zi0))))))) (zsS (ziS (ziS (ziS (ziS (ziS (ziS (ziS (ziS zi0)))))))) zs0)))))⟩
  ·have ec : cmpN (V % t * 2 ^ 1) t = 0 := by unfold cmpN; rw [if_neg (by omega), if_neg (by omega)]
   have z1 : decide (cmpN (V % t * 2 ^ 1) t > 0) = false := decide_eq_false (by rw [ec]; decide)
   have z2 : (cmpN (V % t * 2 ^ 1) t == 0) = true := by rw [ec]; rfl
   have eu : rrUp V t = decide (V / t % 2 = 1) := by unfold rrUp; rw [decide_eq_false (show ¬ t < V % t * 2 by omega), decide_eq_true (show V % t * 2 = t by omega), Bool.true_and, Bool.false_or]
   by_cases hQ0 : V / t = 0
   ·have z3 : decide (((ofN B64 (V / t)).length : Int) > 0) = false := by rw [lenp64]; exact decide_eq_false (by omega)
    have e : rrS V t = V / t := by unfold rrS; rw [eu, if_neg (by rw [hQ0]; decide)]
    rw [e]
    refine xg ?_
    refine xn 3 [] [(26, .bool (decide (cmpN (V % t * 2 ^ 1) t > 0)))] ?_
    refine xkf 26 z1 ?_
    refine xn 6 [] [(29, .bool (cmpN (V % t * 2 ^ 1) t == 0))] ?_
    refine xkt 29 z2 ?_
    refine xn 11 [] [(34, .bool (decide ((((List.length (ofN B64 (V / t))) : Nat) : Int) > 0)))] ?_
    refine xkf 34 z3 ?_
    refine xz [] [(41, .bool false)] ?_
    refine xs0 ?_
    refine SW_skip ?_
    refine ⟨(A4), (k4), xw (zsS (ziS zi0) (zsS (ziS (ziS (ziS zi0))) (zsS (ziS (ziS (ziS (ziS zi0)))) (zsS (ziS (ziS (ziS (ziS (ziS zi0))))) (zsS (ziS (ziS (ziS (ziS (ziS (ziS zi0)))))) zs0)))))⟩
   ·have hlen : 0 < (ofN B64 (V / t)).length := by
     rcases Nat.eq_zero_or_pos (ofN B64 (V / t)).length with h9 | h9
     ·exact absurd ((ofN_zero B64_2 (V / t)).1 h9) hQ0
     ·exact h9
    have z3 : decide (((ofN B64 (V / t)).length : Int) > 0) = true := decide_eq_true (by omega)
    refine SW_know (ziS zi0) (fun w h => row_at h hlen) (fun ⟨a3, e3⟩ => ?_)
    subst e3
    have v5 : Ve (rd (ofN B64 (V / t)) ((0 : Nat) : Int)) ((V / t % B64 : Nat) : Int) := ⟨by rw [rd_limb, Nat.pow_zero, Nat.div_one]⟩
    have v6 : Ve (bits .and .u64 ((V / t % B64 : Nat) : Int) 1) ((V / t % B64 % 2 : Nat) : Int) := ⟨and1 _ (Nat.mod_lt _ (by decide))⟩
    have e6 : V / t % B64 % 2 = V / t % 2 := Nat.mod_mod_of_dvd _ (by decide)
    by_cases hodd : V / t % 2 = 1
    ·have z5 : (((V / t % B64 % 2 : Nat) : Int) == 1) = true := by rw [e6, hodd]; rfl
     have e : rrS V t = V / t + 1 := by unfold rrS; rw [eu, if_pos (decide_eq_true hodd)]
     rw [e]
     refine xg ?_
     refine xn 3 [] [(26, .bool (decide (cmpN (V % t * 2 ^ 1) t > 0)))] ?_
     refine xkf 26 z1 ?_
     refine xn 6 [] [(29, .bool (cmpN (V % t * 2 ^ 1) t == 0))] ?_
     refine xkt 29 z2 ?_
     refine xn 11 [] [(34, .bool (decide ((((List.length (ofN B64 (V / t))) : Nat) : Int) > 0)))] ?_
     refine xkt 34 z3 ?_
     refine xn 12 [] [(35, .slice (some a3) (List.length (ofN B64 (V / t))) k4)] ?_
     refine xfi 36 26 (a3) (List.length (ofN B64 (V / t))) (k4) 0 IntKind.i64 (0) ⟨rfl⟩ (by omega) ?_
     refine xfle 37 (ziS zi0) (0) ((((V / t % B64) : Nat) : Int)) v5 (by omega) ?_
     refine xve 38 IntKind.u64 (bits BinOp.and IntKind.u64 (((V / t % B64) : Nat) : Int) 1) ((((V / t % B64 % 2) : Nat) : Int)) v6 ?_
     refine xz [] [(41, .bool ((((V / t % B64 % 2) : Nat) : Int) == 1))] ?_
     refine xst z5 ?_
     refine SW_region ?_
     refine xn 1 [] [(42, .slice (some a3) (List.length (ofN B64 (V / t))) k4)] ?_
     refine xcr 43 (ct_impl_word (1) (1) ⟨rfl⟩ (by omega)) zs0 (fun A7 k7 => ?_)
     refine xcr 44 (ct_impl_nat_add (V / t) (1) (some a3) (A7) (k4) (k7) sQ s1) (zsS (ziS (ziS zi0)) (zsS zi0 zs0)) (fun A8 k8 => ?_)
     refine xz [] [(10, .slice A8 (List.length (ofN B64 (V / t + 1))) k8)] ?_
     refine ⟨(A8), (k8), xw (zsS zi0 (zsS (ziS (ziS (ziS (ziS (ziS zi0))))) (zsS (ziS (ziS (ziS (ziS (ziS (ziS zi0)))))) (zsS (ziS (ziS (ziS (ziS (ziS (ziS (ziS zi0))))))) (zsS (ziS (ziS (ziS (ziS (ziS (ziS (ziS (ziS zi0)))))))) zs0)))))⟩
    ·have z5 : (((V / t % B64 % 2 : Nat) : Int) == 1) = false := by rw [e6, show V / t % 2 = 0 by omega]; rfl
     have e : rrS V t = V / t := by unfold rrS; rw [eu, if_neg (by simp [hodd])]
     rw [e]
     refine xg ?_
     refine xn 3 [] [(26, .bool (decide (cmpN (V % t * 2 ^ 1) t > 0)))] ?_
     refine xkf 26 z1 ?_
     refine xn 6 [] [(29, .bool (cmpN (V % t * 2 ^ 1) t == 0))] ?_
     refine xkt 29 z2 ?_
     refine xn 11 [] [(34, .bool (decide ((((List.length (ofN B64 (V / t))) : Nat) : Int) > 0)))] ?_
     refine xkt 34 z3 ?_
     refine xn 12 [] [(35, .slice (some a3) (List.length (ofN B64 (V / t))) k4)] ?_
     refine xfi 36 26 (a3) (List.length (ofN B64 (V / t))) (k4) 0 IntKind.i64 (0) ⟨rfl⟩ (by omega) ?_
     refine xfle 37 (ziS zi0) (0) ((((V / t % B64) : Nat) : Int)) v5 (by omega) ?_
     refine xve 38 IntKind.u64 (bits BinOp.and IntKind.u64 (((V / t % B64) : Nat) : Int) 1) ((((V / t % B64 % 2) : Nat) : Int)) v6 ?_
     refine xz [] [(41, .bool ((((V / t % B64 % 2) : Nat) : Int) == 1))] ?_
     refine xsf z5 ?_
     refine SW_skip ?_
     refine ⟨(some a3), (k4), xw (zsS (ziS zi0) (zsS (ziS (ziS (ziS zi0))) (zsS (ziS (ziS (ziS (ziS zi0)))) (zsS (ziS (ziS (ziS (ziS (ziS zi0))))) (zsS (ziS (ziS (ziS (ziS (ziS (ziS zi0)))))) zs0)))))⟩
  ·have z1 : decide (cmpN (V % t * 2 ^ 1) t > 0) = false := decide_eq_false (by unfold cmpN; rw [if_pos hc]; decide)
   have z2 : (cmpN (V % t * 2 ^ 1) t == 0) = false := by unfold cmpN; rw [if_pos hc]; rfl
   have e : rrS V t = V / t := by unfold rrS rrUp; rw [if_neg (by rw [decide_eq_false (show ¬ t < V % t * 2 by omega), decide_eq_false (show ¬ V % t * 2 = t by omega), Bool.false_and, Bool.false_or]; exact Bool.false_ne_true)]
   rw [e]
   refine xg ?_
   refine xn 3 [] [(26, .bool (decide (cmpN (V % t * 2 ^ 1) t > 0)))] ?_
   refine xkf 26 z1 ?_
   refine xn 6 [] [(29, .bool (cmpN (V % t * 2 ^ 1) t == 0))] ?_
   refine xkf 29 z2 ?_
   refine xz [] [(41, .bool false)] ?_
   refine xs0 ?_
   refine SW_skip ?_
   refine ⟨(A4), (k4), xw (zsS (ziS zi0) (zsS (ziS (ziS (ziS zi0))) (zsS (ziS (ziS (ziS (ziS zi0)))) (zsS (ziS (ziS (ziS (ziS (ziS zi0))))) (zsS (ziS (ziS (ziS (ziS (ziS (ziS zi0)))))) zs0)))))⟩
 obtain ⟨A9, c9, hw⟩ := hs'
 refine SW_weak hw ?_
 clear hw
 obtain ⟨n1, hn1⟩ : ∃ n1, max (rrS V t) lo = n1 := ⟨_, rfl⟩
 have hN : nrN V t lo hi = min n1 hi := by unfold nrN; rw [hn1]
 have sS : Sm (rrS V t) := Sm.of (k := k + 1) (by omega) (by omega)
 have sn1 : Sm n1 := Sm.of (k := k + 1) (by omega) (by omega)
 rw [hN]
 refine SW_cut (fun s' => ∃ (A8 : Option Addr) (c8 : Nat), Weak s' ⟨[(0, .slice A (ofN B64 V).length c), (1, .slice A' (ofN B64 t).length c'), (3, .slice A3 (ofN B64 hi).length c3), (10, .slice A8 (ofN B64 n1).length c8)], [], [Row .u64 A8 c8 (ofN B64 n1), Row .u64 A c (ofN B64 V), Row .u64 A' c' (ofN B64 t), Row .u64 A3 c3 (ofN B64 hi)]⟩) ?_ (fun s' hs' => ?_)
 ·by_cases hl : rrS V t < lo
  ·have z1 : decide (cmpN (rrS V t) lo < 0) = true := decide_eq_true (by rw [cmpN_lt' hl]; decide)
   have e : n1 = lo := by omega
   rw [e]
   refine xg ?_
   refine xn 2 [] [(46, .slice A2 (List.length (ofN B64 lo)) c2), (45, .slice A9 (List.length (ofN B64 (rrS V t))) c9)] ?_
   refine xcv 47 (ct_impl_nat_cmp (rrS V t) (lo) (A9) (A2) (c9) (c2) sS sl) (zsS zi0 (zsS (ziS (ziS (ziS zi0))) zs0)) ?_
   refine xz [] [(48, .bool (decide (cmpN (rrS V t) lo < 0)))] ?_
   refine xst z1 ?_
   refine xrl [] [(10, .slice A2 (List.length (ofN B64 lo)) c2)] ?_
   refine ⟨(A2), (c2), xw (zsS (ziS (ziS (ziS zi0))) (zsS (ziS zi0) (zsS (ziS (ziS zi0)) (zsS (ziS (ziS (ziS (ziS zi0)))) zs0))))⟩
  ·have z1 : decide (cmpN (rrS V t) lo < 0) = false := decide_eq_false (by have := cmpN_ge (show lo ≤ rrS V t by omega); omega)
   have e : n1 = rrS V t := by omega
   rw [e]
   refine xg ?_
   refine xn 2 [] [(46, .slice A2 (List.length (ofN B64 lo)) c2), (45, .slice A9 (List.length (ofN B64 (rrS V t))) c9)] ?_
   refine xcv 47 (ct_impl_nat_cmp (rrS V t) (lo) (A9) (A2) (c9) (c2) sS sl) (zsS zi0 (zsS (ziS (ziS (ziS zi0))) zs0)) ?_
   refine xz [] [(48, .bool (decide (cmpN (rrS V t) lo < 0)))] ?_
   refine xsf z1 ?_
   refine SW_skip ?_
   refine ⟨(A9), (c9), xw (zsS zi0 (zsS (ziS zi0) (zsS (ziS (ziS zi0)) (zsS (ziS (ziS (ziS (ziS zi0)))) zs0))))⟩
 obtain ⟨A8, c8, hw⟩ := hs'
 refine SW_weak hw ?_
 clear hw
 obtain ⟨n2, hn2⟩ : ∃ n2, min n1 hi = n2 := ⟨_, rfl⟩
 have hn2' : n2 < 2 ^ (k + 1) := by omega
 have sn2 : Sm n2 := Sm.of hn2' (by omega)
 rw [hn2]
 clear hN
 refine SW_cut (fun s' => ∃ (A7 : Option Addr) (c7 : Nat), Weak s' ⟨[(0, .slice A (ofN B64 V).length c), (1, .slice A' (ofN B64 t).length c'), (10, .slice A7 (ofN B64 n2).length c7)], [], [Row .u64 A7 c7 (ofN B64 n2), Row .u64 A c (ofN B64 V), Row .u64 A' c' (ofN B64 t)]⟩) ?_ (fun s' hs' => ?_)
 ·by_cases hl : hi < n1
  ·have z1 : decide (cmpN n1 hi > 0) = true := decide_eq_true (by rw [cmpN_gt' hl]; decide)
   have e : n2 = hi := by omega
   rw [e]
   refine xg ?_
   refine xn 2 [] [(51, .slice A3 (List.length (ofN B64 hi)) c3), (50, .slice A8 (List.length (ofN B64 n1)) c8)] ?_
   refine xcv 52 (ct_impl_nat_cmp (n1) (hi) (A8) (A3) (c8) (c3) sn1 sh) (zsS zi0 (zsS (ziS (ziS (ziS zi0))) zs0)) ?_
   refine xz [] [(53, .bool (decide (cmpN n1 hi > 0)))] ?_
   refine xst z1 ?_
   refine xrl [] [(10, .slice A3 (List.length (ofN B64 hi)) c3)] ?_
   refine ⟨(A3), (c3), xw (zsS (ziS (ziS (ziS zi0))) (zsS (ziS zi0) (zsS (ziS (ziS zi0)) zs0)))⟩
  ·have z1 : decide (cmpN n1 hi > 0) = false := decide_eq_false (by unfold cmpN; split <;> (try split) <;> omega)
   have e : n2 = n1 := by omega
   rw [e]
   refine xg ?_
   refine xn 2 [] [(51, .slice A3 (List.length (ofN B64 hi)) c3), (50, .slice A8 (List.length (ofN B64 n1)) c8)] ?_
   refine xcv 52 (ct_impl_nat_cmp (n1) (hi) (A8) (A3) (c8) (c3) sn1 sh) (zsS zi0 (zsS (ziS (ziS (ziS zi0))) zs0)) ?_
   refine xz [] [(53, .bool (decide (cmpN n1 hi > 0)))] ?_
   refine xsf z1 ?_
   refine SW_skip ?_
   refine ⟨(A8), (c8), xw (zsS zi0 (zsS (ziS zi0) (zsS (ziS (ziS zi0)) zs0)))⟩
 obtain ⟨A7, c7, hw⟩ := hs'
 refine SW_weak hw ?_
 clear hw hn2 hn1
 have sx2 : Sm (n2 * t) := Sm.of (mul_lt2 hn2' ht) (by omega)
 by_cases hf : n2 * t < V
 ·have z1 : decide (cmpN (n2 * t) V < 0) = true := decide_eq_true (by rw [cmpN_lt' hf]; decide)
  have hle : n2 * t ≤ V := by omega
  have e : farN V t n2 = V - n2 * t := by unfold farN; rw [if_pos hf]
  rw [e]
  refine xg ?_
  refine xn 2 [] [(56, .slice A' (List.length (ofN B64 t)) c'), (55, .slice A7 (List.length (ofN B64 n2)) c7)] ?_
  refine xcr 57 (ct_impl_nat_mul (n2) (t) (A7) (A') (c7) (c') sn2 st) (zsS zi0 (zsS (ziS (ziS zi0)) zs0)) (fun A10 k10 => ?_)
  refine xz [] [(13, .slice A10 (List.length (ofN B64 (n2 * t))) k10)] ?_
  refine SW_seq ?_
  refine xg ?_
  refine xn 2 [] [(59, .slice A (List.length (ofN B64 V)) c), (58, .slice A10 (List.length (ofN B64 (n2 * t))) k10)] ?_
  refine xcv 60 (ct_impl_nat_cmp (n2 * t) (V) (A10) (A) (k10) (c) sx2 sV) (zsS zi0 (zsS (ziS (ziS zi0)) zs0)) ?_
  refine xz [] [(61, .bool (decide (cmpN (n2 * t) V < 0)))] ?_
  refine xst z1 ?_
  refine xg ?_
  refine xn 3 [] [(64, .slice A10 (List.length (ofN B64 (n2 * t))) k10), (63, .slice A (List.length (ofN B64 V)) c), (62, .slice A7 (List.length (ofN B64 n2)) c7)] ?_
  refine xcr 65 (ct_impl_nat_sub (V) (n2 * t) (A) (A10) (c) (k10) sV hle) (zsS (ziS (ziS zi0)) (zsS zi0 zs0)) (fun A11 k11 => ?_)
  refine xz [] [(9, .slice A11 (List.length (ofN B64 (V - n2 * t))) k11), (8, .slice A7 (List.length (ofN B64 n2)) c7)] ?_
  refine SW_ret ?_
  refine xe ((A7, c7), A11, k11) (.tuple #[.slice A7 (List.length (ofN B64 n2)) c7, .slice A11 (List.length (ofN B64 (V - n2 * t))) k11]) [] ?_ (zsS (ziS (ziS zi0)) (zsS zi0 zs0))
  rfl
 ·have z1 : decide (cmpN (n2 * t) V < 0) = false := decide_eq_false (by have := cmpN_ge (show V ≤ n2 * t by omega); omega)
  have hle : V ≤ n2 * t := by omega
  have e : farN V t n2 = n2 * t - V := by unfold farN; rw [if_neg hf]
  rw [e]
  refine xg ?_
  refine xn 2 [] [(56, .slice A' (List.length (ofN B64 t)) c'), (55, .slice A7 (List.length (ofN B64 n2)) c7)] ?_
  refine xcr 57 (ct_impl_nat_mul (n2) (t) (A7) (A') (c7) (c') sn2 st) (zsS zi0 (zsS (ziS (ziS zi0)) zs0)) (fun A10 k10 => ?_)
  refine xz [] [(13, .slice A10 (List.length (ofN B64 (n2 * t))) k10)] ?_
  refine SW_seq ?_
  refine xg ?_
  refine xn 2 [] [(59, .slice A (List.length (ofN B64 V)) c), (58, .slice A10 (List.length (ofN B64 (n2 * t))) k10)] ?_
  refine xcv 60 (ct_impl_nat_cmp (n2 * t) (V) (A10) (A) (k10) (c) sx2 sV) (zsS zi0 (zsS (ziS (ziS zi0)) zs0)) ?_
  refine xz [] [(61, .bool (decide (cmpN (n2 * t) V < 0)))] ?_
  refine xsf z1 ?_
  refine SW_skip ?_
  refine xg ?_
  refine xn 3 [] [(68, .slice A (List.length (ofN B64 V)) c), (67, .slice A10 (List.length (ofN B64 (n2 * t))) k10), (66, .slice A7 (List.length (ofN B64 n2)) c7)] ?_
  refine xcr 69 (ct_impl_nat_sub (n2 * t) (V) (A10) (A) (k10) (c) sx2 hle) (zsS zi0 (zsS (ziS (ziS zi0)) zs0)) (fun A11 k11 => ?_)
  refine xz [] [(9, .slice A11 (List.length (ofN B64 (n2 * t - V))) k11), (8, .slice A7 (List.length (ofN B64 n2)) c7)] ?_
  refine SW_ret ?_
  refine xe ((A7, c7), A11, k11) (.tuple #[.slice A7 (List.length (ofN B64 n2)) c7, .slice A11 (List.length (ofN B64 (n2 * t - V))) k11]) [] ?_ (zsS (ziS (ziS zi0)) (zsS zi0 zs0))
  rfl
end Go.Proofs.YtgknelgplmohoaaDoor.M
end
section
namespace Go.Proofs.YtgknelgplmohoaaDoor.M
open Go.RowKit Go.Proofs.YtgknelgplmohoaaDoor.G Go.Proofs.YtgknelgplmohoaaDoorV.PrintWords Go.Proofs.YtgknelgplmohoaaDoorV.PrintLast Go.Proofs.YtgknelgplmohoaaDoor.X
set_option linter.unusedVariables false
set_option linter.unusedSimpArgs false
theorem cmp_neg (x y : Nat) : decide (cmpN x y < 0) = decide (x < y) := by
 rw [decide_eq_decide]
 unfold cmpN
 split
 ·simp; omega
 ·split
  ·simp; omega
  ·simp; omega
theorem cmp_zero (x y : Nat) : (cmpN x y == 0) = decide (x = y) := by
 rw [Bool.eq_iff_iff, beq_iff_eq, decide_eq_true_iff]
 unfold cmpN
 split
 ·constructor <;> intro h <;> omega
 ·split
  ·constructor <;> intro h <;> omega
  ·constructor <;> intro h <;> omega
end Go.Proofs.YtgknelgplmohoaaDoor.M
end
section
namespace Go.Proofs.YtgknelgplmohoaaDoor.M
open Go.RowKit Go.Proofs.YtgknelgplmohoaaDoor.G Go.Proofs.YtgknelgplmohoaaDoorV.PrintWords Go.Proofs.YtgknelgplmohoaaDoorV.PrintLast Go.Proofs.YtgknelgplmohoaaDoor.X
set_option linter.unusedVariables false
set_option linter.unusedSimpArgs false
theorem ct_spec_l1Fits (n c : Nat) (A : Option Addr) (b : Bool) (hb : decide (n ≤ 1200) = b) : CtV Tryd.prog 48 [.slice A n c] [] (.bool b) := by
 subst hb
 refine ct_of Tryd.func48 rfl (by kernel_rfl) (fun B w0 => ?_)
 have e : decide ((n : Int) ≤ 1200) = decide (n ≤ 1200) := by rw [decide_eq_decide]; omega
 refine xr [] [(2, .bool false)] ?_
 refine xr [] [(2, .bool (decide ((n : Int) ≤ 1200)))] ?_
 refine SW_ret ?_
 refine xe () (.bool (decide ((n : Int) ≤ 1200))) [] ?_ trivial
 rw [e]
theorem isBits_ex (v : Nat) : ∃ n, IsBits v n := by
 by_cases h : v = 0
 ·exact ⟨0, h ▸ IsBits.zero⟩
 ·exact ⟨Nat.log2 v + 1, Nat.lt_log2_self, .inr (Nat.log2_self_le h)⟩
theorem fits_bits {a : List Int} (d : Dig B64 a) (h : a.length ≤ 1200) : ∃ m, IsBits (val B64 a) m ∧ m ≤ 76800 := by
 obtain ⟨m, hm⟩ := isBits_ex (val B64 a)
 have h1 := val_lt d
 rw [show B64 = 2 ^ 64 from rfl, ← Nat.pow_mul] at h1
 have h2 := hm.le (w := 64 * a.length) h1
 exact ⟨m, hm, by omega⟩
theorem len1200 {x m : Nat} (hm : x < 2 ^ m) (h : m ≤ 76800) : (ofN B64 x).length ≤ 1200 := by
 obtain ⟨k, hk⟩ : ∃ k : Nat, k = 1200 := ⟨_, rfl⟩
 have h1 : x < B64 ^ k := by
  rw [show B64 = 2 ^ 64 from rfl, ← Nat.pow_mul]
  exact Nat.lt_of_lt_of_le hm (Nat.pow_le_pow_right (by decide) (by omega))
 have := ofN_len B64_2 h1
 omega
end Go.Proofs.YtgknelgplmohoaaDoor.M
end
section
namespace Go.Proofs.YtgknelgplmohoaaDoor.M
open Go.RowKit Go.Proofs.YtgknelgplmohoaaDoor.G Go.Proofs.YtgknelgplmohoaaDoorV.PrintWords Go.Proofs.YtgknelgplmohoaaDoorV.PrintLast Go.Proofs.YtgknelgplmohoaaDoor.X
set_option linter.unusedVariables false
set_option linter.unusedSimpArgs false
theorem ct_impl_isFormat (f : Int) (b : Bool) (hb : decide (0 ≤ f ∧ f < 4) = b) : CtV Tryd.prog 52 [.int .i64 f] [] (.bool b) := by
 subst hb
 refine ct_of Tryd.func52 rfl (by kernel_rfl) (fun B w0 => ?_)
 by_cases h1 : 0 ≤ f
 ·have z1 : decide (f ≥ 0) = true := decide_eq_true h1
  by_cases h2 : f < 4
  ·have z2 : decide (f < 4) = true := decide_eq_true h2
   rw [decide_eq_true (⟨h1, h2⟩ : 0 ≤ f ∧ f < 4)]
   refine xr [] [(2, .bool false)] ?_
   refine xg ?_
   refine xn 3 [] [(5, .bool (decide (f ≥ 0)))] ?_
   refine xkt 5 z1 ?_
   refine xz [] [(2, .bool (decide (f < 4)))] ?_
   refine SW_ret ?_
   refine xe () (.bool (decide (f < 4))) [] ?_ trivial
   rw [z2]
  ·have z2 : decide (f < 4) = false := decide_eq_false h2
   rw [decide_eq_false (fun z => h2 z.2 : ¬ (0 ≤ f ∧ f < 4))]
   refine xr [] [(2, .bool false)] ?_
   refine xg ?_
   refine xn 3 [] [(5, .bool (decide (f ≥ 0)))] ?_
   refine xkt 5 z1 ?_
   refine xz [] [(2, .bool (decide (f < 4)))] ?_
   refine SW_ret ?_
   refine xe () (.bool (decide (f < 4))) [] ?_ trivial
   rw [z2]
 ·have z1 : decide (f ≥ 0) = false := decide_eq_false h1
  rw [decide_eq_false (fun z => h1 z.1 : ¬ (0 ≤ f ∧ f < 4))]
  refine xr [] [(2, .bool false)] ?_
  refine xg ?_
  refine xn 3 [] [(5, .bool (decide (f ≥ 0)))] ?_
  refine xkf 5 z1 ?_
  refine xz [] [(2, .bool false)] ?_
  refine SW_ret ?_
  refine xe () (.bool false) [] ?_ trivial
  rfl
end Go.Proofs.YtgknelgplmohoaaDoor.M
end
section
namespace Go.Proofs.YtgknelgplmohoaaDoor.M
open Go.RowKit Go.Proofs.YtgknelgplmohoaaDoor.G Go.Proofs.YtgknelgplmohoaaDoorV.PrintWords Go.Proofs.YtgknelgplmohoaaDoorV.PrintLast Go.Proofs.YtgknelgplmohoaaDoor.X
set_option linter.unusedVariables false
set_option linter.unusedSimpArgs false
theorem hilo_eq (a b : Nat) : ((hiI a == hiI b) && (loI a == loI b)) = decide (a = b) := by
 rw [Bool.eq_iff_iff, Bool.and_eq_true, beq_iff_eq, beq_iff_eq, decide_eq_true_iff]
 exact ⟨fun z => hilo_inj z.1 z.2, fun z => by rw [z]; exact ⟨rfl, rfl⟩⟩
theorem ct_impl_Bounds {P : Nat} {emin emax : Int} {W E : Nat} {ex : Bool} {f : Int} (d : FD f P emin emax W E ex) (x : Nat) (hx : x < B128) (c : Int) (neg : Bool) (S : Nat) (q : Int) (hx2 : unpN P emin emax W E ex x = (c, neg, hiI S, loI S, q)) (hv : VP P emin emax c S q) (hc : c = 2 ∨ c = 3) (u : Nat × Nat × Nat) (hu : bndN P emin S q = u) :
  Ct Tryd.prog 85 [.int .i64 f, .agg #[.int .u64 (hiI x), .int .u64 (loI x)]] [Tabled] (γ := R3) (itvV u (decide (S % 2 = 0))) (itvF u) := by
 subst hu
 have h := d.h
 have hF := h.toFmt
 have hf := d.lf
 have cu := ct_impl_Unpack h.toFmt f hf x hx
 rw [hx2, prtV] at cu
 dsimp only at cu
 have p0 := h.p0
 have p1 := h.p1
 have p3 := h.p3
 have m0 := h.m0
 have m1 := h.m1
 have b128 : 2 ^ P < B128 := Nat.pow_lt_pow_right (a := 2) (n := 128) (by decide) (by omega)
 have t2 := two_P hF
 obtain ⟨⟨bS0, bS1⟩, bq0, bq1, bS2, _⟩ := vp_fin h d.x1 hv hc
 have bS : S < B128 := by omega
 have p113 : 2 ^ P ≤ 2 ^ 113 := Nat.pow_le_pow_right (by decide) p1
 have sS : Sm S := sm128 (Nat.lt_trans bS (by decide))
 have sF : Sm (S * 2 ^ 2) := Sm.of (k := 116) (by omega) (by decide)
 have sH : Sm (S * 2 ^ 2 + 2) := Sm.of (k := 116) (by omega) (by decide)
 have s2 : Sm 2 := Sm.of (k := 2) (by decide) (by decide)
 have s1 : Sm 1 := Sm.of (k := 1) (by decide) (by decide)
 have l2 : 2 ≤ S * 2 ^ 2 := by omega
 have l1 : 1 ≤ S * 2 ^ 2 := by omega
 have hp1 : P - 1 < 128 := by omega
 have v1 : Ve (IntKind.i64.wrap ((P : Int) - 1)) ((P - 1 : Nat) : Int) := ⟨by rw [wrap_i64 (by omega)]; omega⟩
 have w3 : Ve (IntKind.i64.wrap (q - 2)) (q - 2) := ⟨wrap_i64 (by omega)⟩
 have v2 : Ve (bits .and .u64 (loI S) 1) ((S % 2 : Nat) : Int) := ⟨by unfold loI; rw [and1 _ (by omega)]; omega⟩
 have e2 : (((S % 2 : Nat) : Int) == 0) = decide (S % 2 = 0) := by rw [Bool.eq_iff_iff, beq_iff_eq, decide_eq_true_iff]; omega
 obtain ⟨L, hL⟩ : ∃ L, lo4 P emin S q = L := ⟨_, rfl⟩
 have sL : Sm L := by rw [← hL]; unfold lo4; split <;> exact sF.mono (by omega)
 have hL3 : L < 2 ^ 116 := by rw [← hL]; unfold lo4; split <;> omega
 rw [← e2]
 refine ct_of Tryd.func85 rfl (by kernel_rfl) (fun B w0 => ?_)
 refine xg ?_
 refine xb 3 [.int .u64 (hiI x), .int .u64 (loI x)] 28 (fun g0 => ?_)
 refine xb 4 [.slice none 0 0, .slice none 0 0, .slice none 0 0, .bool false, .bool false] 63 (fun g1 => ?_)
 refine xz [] [] ?_
 refine xg ?_
 refine xn 1 [] [(14, .int .i64 f)] ?_
 refine xcv 15 (ct_impl_layoutOf (f) hf) (zsS zi0 zs0) ?_
 refine xn 5 [] [(17, .bool true), (16, .agg #[.int .i64 (P : Int), .int .i64 emin, .int .i64 emax, .int .i64 (W : Int), .int .i64 (E : Int), .bool ex])] ?_
 refine xb 5 [.int .i64 0, .int .i64 0, .int .i64 0, .int .i64 0, .int .i64 0, .bool false] 95 (fun g2 => ?_)
 refine xy [(6, [2])] [] [(2, [.int .i64 (P : Int), .int .i64 emin, .int .i64 emax, .int .i64 (W : Int), .int .i64 (E : Int), .bool ex])] ?_
 refine xg ?_
 refine xn 2 [(1, [0])] [(19, .agg #[.int .u64 (hiI x), .int .u64 (loI x)]), (18, .int .i64 f)] ?_
 refine xcv 20 cu (zsS zi0 zs0) ?_
 refine xb 7 [.int .i64 0, .bool false, .int .u64 0, .int .u64 0, .int .i64 0] 33 (fun g3 => ?_)
 refine xy [(4, [3])] [] [(3, [.int .i64 c, .bool neg, .int .u64 (hiI S), .int .u64 (loI S), .int .i64 q])] ?_
 refine SW_cut (fun s' => Weak2 s' ⟨[(4, .pointer (some ⟨g1, 0, none⟩)), (5, .pointer (some ⟨g2, 0, none⟩)), (7, .pointer (some ⟨g3, 0, none⟩))], [⟨g1, [.slice none 0 0, .slice none 0 0, .slice none 0 0, .bool false, .bool false], 63⟩, ⟨g2, [.int .i64 (P : Int), .int .i64 emin, .int .i64 emax, .int .i64 (W : Int), .int .i64 (E : Int), .bool ex], 95⟩, ⟨g3, [.int .i64 c, .bool neg, .int .u64 (hiI S), .int .u64 (loI S), .int .i64 q], 33⟩], [Tabled]⟩) ?_ ?_
 ·rcases hc with rfl | rfl
  ·refine xr [(1, [3])] [(28, .bool false)] ?_
   refine xs0 ?_
   refine SW_skip ?_
   exact xw2 [false, true, true, true] (zsS zi0 zs0)
  ·refine xr [(1, [3]), (5, [3])] [(28, .bool false)] ?_
   refine xs0 ?_
   refine SW_skip ?_
   exact xw2 [false, true, true, true] (zsS zi0 zs0)
 ·rintro s' hw
  refine SW_weak2 hw ?_
  clear hw
  refine xg ?_
  refine xn 2 [(1, [2])] [(31, .agg #[.int .u64 (hiI S), .int .u64 (loI S)])] ?_
  refine xcr 32 (ct_impl_Word_nat (S) bS) zs0 (fun A0 k0 => ?_)
  refine xcr 33 (ct_impl_nat_left (S) (A0) (k0) (2) (2) ⟨rfl⟩ (by omega) sS) (zsS zi0 zs0) (fun A1 k1 => ?_)
  refine xz [] [(8, .slice A1 (List.length (ofN B64 (S * 2 ^ 2))) k1)] ?_
  refine xg ?_
  refine xn 1 [] [(34, .slice A1 (List.length (ofN B64 (S * 2 ^ 2))) k1)] ?_
  refine xcr 35 (ct_impl_word (2) (2) ⟨rfl⟩ (by omega)) zs0 (fun A2 k2 => ?_)
  refine xcr 36 (ct_impl_nat_add (S * 2 ^ 2) (2) (A1) (A2) (k1) (k2) sF s2) (zsS (ziS zi0) (zsS zi0 zs0)) (fun A3 k3 => ?_)
  refine xn 4 [] [(37, .slice A1 (List.length (ofN B64 (S * 2 ^ 2))) k1)] ?_
  refine xcr 38 (ct_impl_word (2) (2) ⟨rfl⟩ (by omega)) zs0 (fun A4 k4 => ?_)
  refine xcr 39 (ct_impl_nat_sub (S * 2 ^ 2) (2) (A1) (A4) (k1) (k4) sF l2) (zsS (ziS (ziS (ziS zi0))) (zsS zi0 zs0)) (fun A5 k5 => ?_)
  refine xz [] [(10, .slice A5 (List.length (ofN B64 (S * 2 ^ 2 - 2))) k5), (9, .slice A3 (List.length (ofN B64 (S * 2 ^ 2 + 2))) k3)] ?_
  refine SW_cut (fun s' => ∃ (A1 A2 : Option Addr) (c1 c2 : Nat), Weak2 s' ⟨[(4, .pointer (some ⟨g1, 0, none⟩)), (7, .pointer (some ⟨g3, 0, none⟩)), (9, .slice A1 (ofN B64 (S * 2 ^ 2 + 2)).length c1), (10, .slice A2 (ofN B64 L).length c2)], [⟨g1, [.slice none 0 0, .slice none 0 0, .slice none 0 0, .bool false, .bool false], 63⟩, ⟨g3, [.int .i64 c, .bool neg, .int .u64 (hiI S), .int .u64 (loI S), .int .i64 q], 33⟩], [Row .u64 A1 c1 (ofN B64 (S * 2 ^ 2 + 2)), Row .u64 A2 c2 (ofN B64 L)]⟩) ?_ ?_
  ·by_cases hc3 : c = 3
   ·have z1 : (c == 3) = true := by rw [beq_iff_eq]; exact hc3
    by_cases hS : S = 2 ^ (P - 1)
    ·have z2 : ((hiI S == hiI (2 ^ (P - 1))) && (loI S == loI (2 ^ (P - 1)))) = true := by rw [hilo_eq]; exact decide_eq_true hS
     by_cases hq : q > emin - (P : Int) + 1
     ·have z3 : decide (q > emin - (P : Int) + 1) = true := decide_eq_true hq
      have e : L = S * 2 ^ 2 - 1 := by rw [← hL]; unfold lo4; rw [if_pos ⟨hS, hq⟩]
      rw [e]
      refine xd (fun hB => ?_)
      refine xdk [(0, []), (1, [2]), (2, []), (3, [])] [(43, .bool (c == 3))] hB ?_
      refine xdnt 43 z1 ?_
      refine xdk [(4, []), (5, [2]), (6, []), (7, []), (8, [1])] [(48, .int .i64 (P : Int)), (45, .agg #[.int .u64 (hiI S), .int .u64 (loI S)])] hB ?_
      refine xdve 9 hB 49 IntKind.i64 (IntKind.wrap IntKind.i64 ((P : Int) - 1)) ((((P - 1) : Nat) : Int)) v1 ?_
      refine xdv 10 50 (ct_impl_one ((((P - 1) : Nat) : Int)) (P - 1) ⟨rfl⟩ hp1) zs0 ?_
      refine xdw 11 51 (.bool ((hiI S == hiI (2 ^ (P - 1))) && (loI S == loI (2 ^ (P - 1))))) hB (fun w _ _ => run_eql rfl (by kernel_rfl) (by kernel_rfl) (by kernel_rfl) w (eq_word _ _ _ _ _ w)) ?_
      refine xdk [(12, []), (13, [])] [(53, .bool (hiI S == hiI (2 ^ (P - 1)) && loI S == loI (2 ^ (P - 1))))] hB ?_
      refine xdnt 53 z2 ?_
      refine xdk [(14, []), (15, [2]), (16, [1])] [(56, .agg #[.int .i64 (P : Int), .int .i64 emin, .int .i64 emax, .int .i64 (W : Int), .int .i64 (E : Int), .bool ex]), (55, .int .i64 q)] hB ?_
      refine xdv 17 57 (ct_impl_layout_qMin hF) zs0 ?_
      refine xdk [(18, []), (19, [])] [(59, .bool (decide (q > emin - (P : Int) + 1)))] hB ?_
      refine xdz ?_
      refine xst z3 ?_
      refine SW_region ?_
      refine xn 1 [] [(60, .slice A1 (List.length (ofN B64 (S * 2 ^ 2))) k1)] ?_
      refine xcr 61 (ct_impl_word (1) (1) ⟨rfl⟩ (by omega)) zs0 (fun A6 k6 => ?_)
      refine xcr 62 (ct_impl_nat_sub (S * 2 ^ 2) (1) (A1) (A6) (k1) (k6) sF l1) (zsS (ziS (ziS (ziS (ziS (ziS zi0))))) (zsS zi0 zs0)) (fun A7 k7 => ?_)
      refine xz [] [(10, .slice A7 (List.length (ofN B64 (S * 2 ^ 2 - 1))) k7)] ?_
      refine ⟨(A3), (A7), (k3), (k7), xw2 [true, false, true] (zsS (ziS (ziS (ziS (ziS zi0)))) (zsS zi0 zs0))⟩
     ·have z3 : decide (q > emin - (P : Int) + 1) = false := decide_eq_false hq
      have e : L = S * 2 ^ 2 - 2 := by rw [← hL]; unfold lo4; rw [if_neg (fun z => hq z.2)]
      rw [e]
      refine xd (fun hB => ?_)
      refine xdk [(0, []), (1, [2]), (2, []), (3, [])] [(43, .bool (c == 3))] hB ?_
      refine xdnt 43 z1 ?_
      refine xdk [(4, []), (5, [2]), (6, []), (7, []), (8, [1])] [(48, .int .i64 (P : Int)), (45, .agg #[.int .u64 (hiI S), .int .u64 (loI S)])] hB ?_
      refine xdve 9 hB 49 IntKind.i64 (IntKind.wrap IntKind.i64 ((P : Int) - 1)) ((((P - 1) : Nat) : Int)) v1 ?_
      refine xdv 10 50 (ct_impl_one ((((P - 1) : Nat) : Int)) (P - 1) ⟨rfl⟩ hp1) zs0 ?_
      refine xdw 11 51 (.bool ((hiI S == hiI (2 ^ (P - 1))) && (loI S == loI (2 ^ (P - 1))))) hB (fun w _ _ => run_eql rfl (by kernel_rfl) (by kernel_rfl) (by kernel_rfl) w (eq_word _ _ _ _ _ w)) ?_
      refine xdk [(12, []), (13, [])] [(53, .bool (hiI S == hiI (2 ^ (P - 1)) && loI S == loI (2 ^ (P - 1))))] hB ?_
      refine xdnt 53 z2 ?_
      refine xdk [(14, []), (15, [2]), (16, [1])] [(56, .agg #[.int .i64 (P : Int), .int .i64 emin, .int .i64 emax, .int .i64 (W : Int), .int .i64 (E : Int), .bool ex]), (55, .int .i64 q)] hB ?_
      refine xdv 17 57 (ct_impl_layout_qMin hF) zs0 ?_
      refine xdk [(18, []), (19, [])] [(59, .bool (decide (q > emin - (P : Int) + 1)))] hB ?_
      refine xdz ?_
      refine xsf z3 ?_
      refine SW_skip ?_
      refine ⟨(A3), (A5), (k3), (k5), xw2 [true, false, true] (zsS (ziS (ziS zi0)) (zsS zi0 zs0))⟩
    ·have z2 : ((hiI S == hiI (2 ^ (P - 1))) && (loI S == loI (2 ^ (P - 1)))) = false := by rw [hilo_eq]; exact decide_eq_false hS
     have e : L = S * 2 ^ 2 - 2 := by rw [← hL]; unfold lo4; rw [if_neg (fun z => hS z.1)]
     rw [e]
     refine xd (fun hB => ?_)
     refine xdk [(0, []), (1, [2]), (2, []), (3, [])] [(43, .bool (c == 3))] hB ?_
     refine xdnt 43 z1 ?_
     refine xdk [(4, []), (5, [2]), (6, []), (7, []), (8, [1])] [(48, .int .i64 (P : Int)), (45, .agg #[.int .u64 (hiI S), .int .u64 (loI S)])] hB ?_
     refine xdve 9 hB 49 IntKind.i64 (IntKind.wrap IntKind.i64 ((P : Int) - 1)) ((((P - 1) : Nat) : Int)) v1 ?_
     refine xdv 10 50 (ct_impl_one ((((P - 1) : Nat) : Int)) (P - 1) ⟨rfl⟩ hp1) zs0 ?_
     refine xdw 11 51 (.bool ((hiI S == hiI (2 ^ (P - 1))) && (loI S == loI (2 ^ (P - 1))))) hB (fun w _ _ => run_eql rfl (by kernel_rfl) (by kernel_rfl) (by kernel_rfl) w (eq_word _ _ _ _ _ w)) ?_
     refine xdk [(12, []), (13, [])] [(53, .bool (hiI S == hiI (2 ^ (P - 1)) && loI S == loI (2 ^ (P - 1))))] hB ?_
     refine xdnf 53 z2 ?_
     refine xdk [(14, []), (15, []), (16, [1]), (17, []), (18, []), (19, [])] [(59, .bool false)] hB ?_
     refine xdz ?_
     refine xs0 ?_
     refine SW_skip ?_
     refine ⟨(A3), (A5), (k3), (k5), xw2 [true, false, true] (zsS (ziS (ziS zi0)) (zsS zi0 zs0))⟩
   ·have z1 : (c == 3) = false := by rw [beq_eq_false_iff_ne]; exact hc3
    have e : L = S * 2 ^ 2 - 2 := by rw [← hL]; unfold lo4; rw [if_neg (fun z => by have := bS2 (by omega); omega)]
    rw [e]
    refine xd (fun hB => ?_)
    refine xdk [(0, []), (1, [2]), (2, []), (3, [])] [(43, .bool (c == 3))] hB ?_
    refine xdnf 43 z1 ?_
    refine xdk [(4, []), (5, []), (6, []), (7, []), (8, []), (9, []), (10, []), (11, []), (12, []), (13, []), (14, []), (15, []), (16, [1]), (17, []), (18, []), (19, [])] [(59, .bool false)] hB ?_
    refine xdz ?_
    refine xs0 ?_
    refine SW_skip ?_
    refine ⟨(A3), (A5), (k3), (k5), xw2 [true, false, true] (zsS (ziS (ziS zi0)) (zsS zi0 zs0))⟩
  ·rintro s' ⟨A1, A2, c1, c2, hw⟩
   refine SW_weak2 hw ?_
   clear hw
   by_cases hq2 : 2 ≤ q
   ·have z4 : decide (q - 2 ≥ 0) = true := decide_eq_true (by omega)
    have hN : Nn (q - 2) (q - 2).toNat := ⟨by omega⟩
    have hn : (q - 2).toNat ≤ 1000000 := by omega
    have e : bndN P emin S q = (L * 2 ^ (q - 2).toNat, (S * 2 ^ 2 + 2) * 2 ^ (q - 2).toNat, 1) := by unfold bndN hi4; rw [if_pos hq2, hL]
    rw [e]
    refine xg ?_
    refine xn 2 [(1, [1])] [(64, .int .i64 q)] ?_
    refine xve 65 IntKind.i64 (IntKind.wrap IntKind.i64 (q - 2)) (q - 2) w3 ?_
    refine xz [] [(11, .int .i64 (q - 2))] ?_
    refine xg ?_
    refine xn 3 [(2, [1])] [(68, .int .u64 (loI S))] ?_
    refine xve 69 IntKind.u64 (bits BinOp.and IntKind.u64 (loI S) 1) ((((S % 2) : Nat) : Int)) v2 ?_
    refine xn 6 [] [(71, .agg #[.slice none 0 0, .slice none 0 0, .slice none 0 0, .bool ((((S % 2) : Nat) : Int) == 0), .bool true])] ?_
    refine xb 12 [.slice none 0 0, .slice none 0 0, .slice none 0 0, .bool false, .bool false] 63 (fun g4 => ?_)
    refine xy [(7, [2])] [] [(2, [.slice none 0 0, .slice none 0 0, .slice none 0 0, .bool ((((S % 2) : Nat) : Int) == 0), .bool true])] ?_
    refine SW_seq ?_
    refine xr [] [(73, .bool (decide (q - 2 ≥ 0)))] ?_
    refine xst z4 ?_
    refine SW_region ?_
    refine xn 2 [] [(75, .int .i64 (q - 2)), (74, .slice A2 (List.length (ofN B64 L)) c2)] ?_
    refine xcr 76 (ct_impl_nat_left (L) (A2) (c2) (q - 2) (Int.toNat (q - 2)) hN hn sL) (zsS (ziS zi0) zs0) (fun A6 k6 => ?_)
    refine xn 5 [] [(78, .int .i64 (q - 2)), (77, .slice A1 (List.length (ofN B64 (S * 2 ^ 2 + 2))) c1)] ?_
    refine xcr 79 (ct_impl_nat_left (S * 2 ^ 2 + 2) (A1) (c1) (q - 2) (Int.toNat (q - 2)) hN hn sH) (zsS (ziS zi0) zs0) (fun A7 k7 => ?_)
    refine xcr 80 (ct_impl_word (1) (1) ⟨rfl⟩ (by omega)) zs0 (fun A8 k8 => ?_)
    refine xy [(8, [2]), (10, [2]), (12, [2])] [] [(2, [.slice A6 (List.length (ofN B64 (L * 2 ^ Int.toNat (q - 2)))) k6, .slice A7 (List.length (ofN B64 ((S * 2 ^ 2 + 2) * 2 ^ Int.toNat (q - 2)))) k7, .slice A8 (List.length (ofN B64 1)) k8, .bool ((((S % 2) : Nat) : Int) == 0), .bool true])] ?_
    refine xq [(0, [2]), (1, [0])] [] [(0, [.slice A6 (List.length (ofN B64 (L * 2 ^ Int.toNat (q - 2)))) k6, .slice A7 (List.length (ofN B64 ((S * 2 ^ 2 + 2) * 2 ^ Int.toNat (q - 2)))) k7, .slice A8 (List.length (ofN B64 1)) k8, .bool ((((S % 2) : Nat) : Int) == 0), .bool true])] ?_
    refine SW_ret ?_
    refine xe ((A6, k6), (A7, k7), A8, k8) (.agg #[.slice A6 (List.length (ofN B64 (L * 2 ^ Int.toNat (q - 2)))) k6, .slice A7 (List.length (ofN B64 ((S * 2 ^ 2 + 2) * 2 ^ Int.toNat (q - 2)))) k7, .slice A8 (List.length (ofN B64 1)) k8, .bool ((((S % 2) : Nat) : Int) == 0), .bool true]) [0] ?_ (zsS (ziS (ziS zi0)) (zsS (ziS zi0) (zsS zi0 zs0)))
    rfl
   ·have z4 : decide (q - 2 ≥ 0) = false := decide_eq_false (by omega)
    have w4 : Ve (IntKind.i64.wrap (0 - (q - 2))) (((2 - q).toNat : Nat) : Int) := ⟨by rw [wrap_i64 (by omega)]; omega⟩
    have e : bndN P emin S q = (L, S * 2 ^ 2 + 2, 1 * 2 ^ (2 - q).toNat) := by unfold bndN hi4; rw [if_neg hq2, hL, Nat.one_mul]
    have hn : (2 - q).toNat ≤ 1000000 := by omega
    rw [e]
    refine xg ?_
    refine xn 2 [(1, [1])] [(64, .int .i64 q)] ?_
    refine xve 65 IntKind.i64 (IntKind.wrap IntKind.i64 (q - 2)) (q - 2) w3 ?_
    refine xz [] [(11, .int .i64 (q - 2))] ?_
    refine xg ?_
    refine xn 3 [(2, [1])] [(68, .int .u64 (loI S))] ?_
    refine xve 69 IntKind.u64 (bits BinOp.and IntKind.u64 (loI S) 1) ((((S % 2) : Nat) : Int)) v2 ?_
    refine xn 6 [] [(71, .agg #[.slice none 0 0, .slice none 0 0, .slice none 0 0, .bool ((((S % 2) : Nat) : Int) == 0), .bool true])] ?_
    refine xb 12 [.slice none 0 0, .slice none 0 0, .slice none 0 0, .bool false, .bool false] 63 (fun g4 => ?_)
    refine xy [(7, [2])] [] [(2, [.slice none 0 0, .slice none 0 0, .slice none 0 0, .bool ((((S % 2) : Nat) : Int) == 0), .bool true])] ?_
    refine SW_seq ?_
    refine xr [] [(73, .bool (decide (q - 2 ≥ 0)))] ?_
    refine xsf z4 ?_
    refine SW_region ?_
    refine xn 2 [] [(85, .slice A1 (List.length (ofN B64 (S * 2 ^ 2 + 2))) c1), (84, .slice A2 (List.length (ofN B64 L)) c2)] ?_
    refine xcr 86 (ct_impl_word (1) (1) ⟨rfl⟩ (by omega)) zs0 (fun A6 k6 => ?_)
    refine xn 4 [] [(87, .int .i64 (q - 2))] ?_
    refine xve 88 IntKind.i64 (IntKind.wrap IntKind.i64 (0 - (q - 2))) ((((Int.toNat (2 - q)) : Nat) : Int)) w4 ?_
    refine xcr 89 (ct_impl_nat_left (1) (A6) (k6) ((((Int.toNat (2 - q)) : Nat) : Int)) (Int.toNat (2 - q)) ⟨rfl⟩ hn s1) (zsS zi0 zs0) (fun A7 k7 => ?_)
    refine xy [(7, [2]), (9, [2]), (11, [2])] [] [(2, [.slice A2 (List.length (ofN B64 L)) c2, .slice A1 (List.length (ofN B64 (S * 2 ^ 2 + 2))) c1, .slice A7 (List.length (ofN B64 (1 * 2 ^ Int.toNat (2 - q)))) k7, .bool ((((S % 2) : Nat) : Int) == 0), .bool true])] ?_
    refine xq [(0, [2]), (1, [0])] [] [(0, [.slice A2 (List.length (ofN B64 L)) c2, .slice A1 (List.length (ofN B64 (S * 2 ^ 2 + 2))) c1, .slice A7 (List.length (ofN B64 (1 * 2 ^ Int.toNat (2 - q)))) k7, .bool ((((S % 2) : Nat) : Int) == 0), .bool true])] ?_
    refine SW_ret ?_
    refine xe ((A2, c2), (A1, c1), A7, k7) (.agg #[.slice A2 (List.length (ofN B64 L)) c2, .slice A1 (List.length (ofN B64 (S * 2 ^ 2 + 2))) c1, .slice A7 (List.length (ofN B64 (1 * 2 ^ Int.toNat (2 - q)))) k7, .bool ((((S % 2) : Nat) : Int) == 0), .bool true]) [0] ?_ (zsS (ziS (ziS (ziS zi0))) (zsS (ziS (ziS zi0)) (zsS zi0 zs0)))
    rfl
end Go.Proofs.YtgknelgplmohoaaDoor.M
end
section
namespace Go.Proofs.YtgknelgplmohoaaDoor.X
open Go.RowKit Go.Proofs.YtgknelgplmohoaaDoorV.PrintWords Go.Proofs.YtgknelgplmohoaaDoorV.PrintLast
set_option linter.unusedVariables false
set_option linter.unusedSimpArgs false
abbrev Post := Exit → Act → World → Prop
def SQ (X : Cx) (c : Code) (s : St) (Q : Post) : Prop := ∀ a w, Agree X.fr s a → Holds X s w → c.wpIn X.F 0 X.P Q a w
def Cx.push (X : Cx) (d : Deferred) : Cx := ⟨X.P, X.n, X.B, ⟨X.w0.w, X.w0.M, d :: X.w0.df⟩, X.rd⟩
theorem Holds.push {X : Cx} {s : St} {w : World} (h : Holds X s w) (d : Deferred) : Holds (X.push d) s w :=
  ⟨⟨h.below.os, h.below.tape, h.below.output, h.below.size, h.below.block⟩, h.box, h.new, h.nodup, h.fact, h.old⟩
section
variable {X : Cx} {s : St} {Q : Post} {ops : Array Oper}
theorem SQ_of {c : Code} {K : Exit → St → Prop} (h : SW X c s K) (hq : ∀ e a w, Lift X K e a w → Q e a w) : SQ X c s Q := fun a w ha hw => wpIn_mono (h a w ha hw) hq
theorem SQ_seq {x y : Code} (h : SQ X x s (Exit.then (y.wpIn X.F 0 X.P Q) Q)) : SQ X (.seq x y) s Q := fun a w ha hw => wpIn_seq (h a w ha hw)
theorem SQ_cut {x y : Code} {K : Exit → St → Prop} (M : St → Prop) (h : SW X x s (thenK M K)) (hq : ∀ e s' a w, Agree X.fr s' a → Holds X s' w → K e s' → Q e a w) (h2 : ∀ s', M s' → SQ X y s' Q) : SQ X (.seq x y) s Q := by
  refine SQ_seq (SQ_of h (fun e a w hl => ?_))
  obtain ⟨s', ha, hw, hk⟩ := hl
  cases e with
  | normal => exact h2 s' hk a w ha hw
  | _ => exact hq _ s' a w ha hw hk
theorem SQ_weak {c : Code} {t : St} (h : Weak s t) (k : SQ X c t Q) : SQ X c s Q := by
  intro a w ha hw
  refine k a w ⟨ha.size, ha.defers, fun i v hv => ha.env i v (h.env i v hv)⟩ ⟨hw.below, h.bs ▸ hw.box, h.bs ▸ hw.new, h.bs ▸ hw.nodup, fun F hF => ?_, hw.old⟩
  have := hw.fact F (h.fs.mem F hF)
  rw [h.bs] at this
  exact this
end
abbrev LvD (P : Program) (fn : Func) (R : Ending → World → Prop) (a : Act) (w : World) : Prop := Leaves P fn a.tmps R a.defers .returning w
theorem RetL.post {X : Cx} {fn : Func} {R : Ending → World → Prop} : ∀ e a w, Lift X (RetL X fn (LvD X.P fn R)) e a w → bodyPostD X.P fn R e a w := by
  rintro e a w ⟨s, ha, hw, hk⟩
  cases e with
  | normal => exact hk a w ha hw
  | ret => exact hk a w ha hw
  | _ => exact hk.elim
def LeftM (P : Program) (B : List Nat) (w0 : Base) {γ : Type} (val : γ → Value) (bs' : γ → List Box) (post : γ → List Fact) (e : Ending) (w' : World) : Prop := ∃ g : γ, e = .returned (val g) ∧ Holds ⟨P, 0, B, w0, none⟩ ⟨[], bs' g, post g⟩ w'
theorem left_end {P : Program} {n : Nat} {B : List Nat} {w0 : Base} {df : List Deferred} {fn : Func} {γ : Type} {val : γ → Value} {bs' : γ → List Box} {post : γ → List Fact} {s : St} {tmps : Array Value} {w : World} {fr : Nat × List Deferred} (ha : Agree fr s ⟨tmps, df⟩) (hw : Holds ⟨P, n, B, w0, none⟩ s w)
    (g : γ) (m : List Bool) (hs gs : List Nat) (ho : outN P fn s hs = some (val g, dup gs)) (hm : bs' g = pick s.bs m) (hsub : Sub (post g) s.fs) : Leaves P fn tmps (LeftM P B w0 val bs' post) [] .returning w := by
  have hx : Holds ⟨P, n, B, w0, none⟩ ⟨[], bs' g, s.fs⟩ w := hw.sub (fun b hb => (pick_sub s.bs m).subset (hm ▸ hb)) (by rw [hm]; exact ((pick_sub s.bs m).map Box.id).nodup hw.nodup) []
  exact ⟨val g, outN_spec ho ha hw.box, g, rfl, ⟨hx.below, hx.box, hx.new, hx.nodup, fun F hF => hx.fact F (hsub.mem F hF), hx.old⟩⟩
end Go.Proofs.YtgknelgplmohoaaDoor.X
end
