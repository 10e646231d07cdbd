/- For every text of at most 1048576 bytes, for the code and the word drawn out of it, the law laws.FnShortest answers true: a zero or a number that is not finite has no digits; for every other number the digits begin and end with a digit that is not 0, the decimal they say lies between the ends of the number's rounding interval, no decimal of fewer digits lies between them, and of the two neighbours of the same length neither lies nearer to the number (and where one lies as near, the digits' number is even). For a longer text the law answers true at once. Conditions: the table of formats reads as its text lays it, as the row says. -/
import Derived.Test.YtgknelgplmohoaaDoorTie
import Derived.Test.YtgknelgplmohoaaDoorCards
import Derived.ChangeOld
import Derived.Test.YtgknelgplmohoaaDoorQFnShortestr
section
namespace Go.Proofs.YtgknelgplmohoaaDoor
open Go.Proofs.YtgknelgplmohoaaDoor.G Go.Proofs.YtgknelgplmohoaaDoor.M Go.ChangeShapes Go.WideShapes Go.ChangeAt Go.WideMaps Go.WideElems Go.RowKit Go.Joins Go.Proofs.YtgknelgplmohoaaDoor.X
set_option linter.unusedVariables false
set_option linter.unusedSimpArgs false
theorem laidOut : laidOutB Tryd.prog = true := by kernel_rfl
theorem wf_i64 {x : Int} (h : (Lit.int .i64 x).wf = true) : -9223372036854775808 ≤ x ∧ x ≤ 9223372036854775807 := by
  simp [Lit.wf, IntKind.min, IntKind.max, IntKind.signed, IntKind.bits] at h
  omega
set_option maxRecDepth 100000 in
theorem lifted (os : Os) (started : os.Started) (H : Type) (enc : TypeId × Value → H) :
    ReturnsInHanded {} Tryd.checked os 6 .any (fun w args => (Rows.fnShortestSpec.pre enc Tryd.prog Tryd.f6 [] false w args ∧ laidMetH Tryd.prog lst w) ∧ sizedMet enc Tryd.prog Tryd.f6 (OpenSpec.ofChange Rows.fnShortestSpec) false w args)
      (Rows.fnShortestSpec.post enc Tryd.prog Tryd.f6 false true false false) := by
  refine returnsInHanded_of_change_and (C := Tryd.checked) (X := fun w _ => laidMetH Tryd.prog lst w) (fun _ _ _ hh h => h.of_heap hh) own started (by kernel_rfl) Tryd.func6
    (ChangeSpec.witness_shaped (enc := enc) (C := Tryd.checked) (os := os) (X := fun w _ => laidMetH Tryd.prog lst w) false (World.doorLaid Tryd.prog 400 os) #[.slice none 0 0] 8 rfl (World.shaped_of_RefB (by kernel_rfl) (by kernel_rfl)) (by kernel_rfl) (by kernel_rfl) (by kernel_rfl) (door_met os _)) ?_
  intro W base args ds gs before hval0 hW _ _ hL _
  have hval : ∀ (j : Nat) t v, Tryd.f6.params[j]? = some t → args[j]? = some v → Value.okWide Tryd.prog W .any base t v := hval0
  have hW' := hW
  obtain ⟨p, q, hA0, hV0, rfl, hfz, hnd⟩ := hW
  have hA : DataW.TrodAll enc Tryd.prog W 0 (fun _ => true) true Tryd.f6.params.toList args.toList ds p := hA0
  have hV : DataW.TrodVars enc Tryd.prog W (fun _ => true) ["loop.example/s01493/impl.formats"] gs q := hV0
  rw [Tryd.params6] at hA hval
  obtain ⟨v0, d0, rfl, rfl, h0⟩ := trodAll_one hA
  obtain ⟨s0, l0, c0, rfl⟩ := okWide_slice Tryd.underlying22 (hval 0 22 v0 rfl rfl)
  have k0 := h0
  have lt0 : ∀ x ∈ p, x.block < W.heap.size := by obtain ⟨m, hm⟩ := k0; exact DataW.trod_lt m _ _ _ hm
  obtain ⟨x0, rfl, hr0, wf0⟩ : ∃ xs : List Int, xs.length = l0 ∧ Row .u8 s0 c0 xs W ∧ ∀ n ∈ xs, (Lit.int .u8 n).wf = true := by
    obtain ⟨fuel, hf⟩ := h0
    rcases open_ints Tryd.underlying22 Tryd.underlying5 (by kernel_rfl) hf with ⟨hcs, _⟩ | ⟨x, l, c, zs, hcs, _, hl, hm, hz, _, hcell, hwz⟩
    · simp [Value.cells] at hcs
      obtain ⟨rfl, rfl, rfl⟩ := hcs
      exact isRow_row (.inl ⟨rfl, rfl, rfl, rfl⟩)
    · simp [Value.cells] at hcs
      obtain ⟨rfl, rfl, rfl⟩ := hcs
      exact isRow_row (.inr ⟨_, rfl, hl, hm, by simpa using hz, hcell, hwz⟩)
  obtain ⟨g, t, cs, fuel, d, p', rfl, hg, ht, hvar, hd, rfl⟩ := trodVars_one hV
  obtain rfl := Option.some.inj (gForm.symm.trans hg)
  obtain rfl := Option.some.inj (tForm.symm.trans ht)
  obtain rfl : cs = table24 := Option.some.inj (hvar.symm.trans (cells_of_laid hL))
  obtain ⟨rfl, rfl⟩ := DataW.Trod.unique (v := .agg table24) ⟨fuel, hd⟩ ⟨4, reads_table enc W _⟩
  clear hA0 hV0 hval0
  simp only [List.append_nil, List.nil_append] at hW'
  have hcell : ∀ i : Nat, W.cell? ⟨0, i, none⟩ = table24[i]? := fun i => World.var?_cell hg hvar i
  have hs : 0 < W.heap.size := tab_size hcell
  have hT : Tabled W := ⟨hs, fun i _ => hcell i⟩
  refine (ctV_all (ct_laws_FnShortest s0 c0 x0 (dig_u8 wf0)) (feet_cons (tabled_foot hT) (feet_cons (row_foot hr0) feet_nil))).mono fun e W' ⟨he, bel⟩ => ?_
  subst he
  have hvar' : W'.var? Tryd.prog "loop.example/s01493/impl.formats" = some table24 := by
    have hb := bel.block 0 hs
    rw [← hvar]
    simp only [World.var?, hg, Option.bind_some, hb]
  exact ⟨_, rfl, _, _, _, [], _, _, hW', trodAll_mk1 (shut_bool Tryd.underlying4 _), (trodAll_cons_mk (Below.trod laidOut (by kernel_rfl) (of_decide_eq_true (by kernel_rfl)) k0 bel lt0) trodAll_mk0), ⟨0, 131, table24, 4, [], [], hg, ht, hvar', reads_table enc W' _, rfl, rfl⟩, bel.frame _, fun h => by cases h⟩
theorem row_holds : Rows.FnShortestSaid :=
  OpenClaim.holds_of_wide 6 Tryd.f6 rfl rfl rfl rfl rfl rfl rfl ⟨rfl, rfl, rfl, rfl, rfl⟩ rfl rfl rfl rfl rfl (by kernel_rfl) Tryd.func6 (by kernel_rfl)
    (of_decide_eq_true (by kernel_rfl)) (by unfold Func.isWrapper; first | (rw [if_pos (by decide +kernel)]; kernel_rfl) | (rw [if_neg (by decide +kernel)]; exact ⟨rfl, rfl⟩))
    (fun os started H enc _ => lifted os started H enc)
theorem fnShortest_holds : Rows.FnShortestCardSaid :=
  Claim7.holds_tied_plain_at .later [] [.data] true (true, "8acf51dd352197777fcd9328606bfdf4fe1d90fdd9a376a4406ae5a33b898595") true
    row_holds (fun _ h => by cases h) (by kernel_rfl) (fun _ h => by cases h) fnShortest_row_tie rfl ⟨rfl, rfl⟩ (by kernel_rfl) rfl
    (fun f fn hf hfn => by
      obtain rfl : f = 6 := Option.some.inj ((show Tryd.prog.funcNamed "loop.example/s01493/laws.FnShortest" = some 6 by kernel_rfl).symm.trans hf) |>.symm
      obtain rfl : fn = Tryd.f6 := (Option.some.inj (Tryd.func6.symm.trans hfn)).symm
      exact ⟨by kernel_rfl, fun j t ht => by
        rw [Tryd.params6] at ht
        have hm : t ∈ [22] := by simpa using Array.mem_of_getElem? ht
        have hall : ([22].all fun u => !Tryd.prog.wantsStandIn u) = true := by kernel_rfl
        exact (show Tryd.prog.wantsStandIn t = false by simpa using List.all_eq_true.1 hall t hm)⟩)
    (by kernel_rfl)
end Go.Proofs.YtgknelgplmohoaaDoor
end
