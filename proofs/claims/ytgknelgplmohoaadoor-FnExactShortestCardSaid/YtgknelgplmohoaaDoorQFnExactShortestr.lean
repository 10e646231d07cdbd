/- For every int and every word of 128 bits the program's Shortest returns what the reference's Shortest returns: the digits, the exponent, the sign and the code; and its digits lie in memory of their own, behind another call too. Conditions: the table of formats reads as its text lays it, as the row says. -/
import Derived.Test.YtgknelgplmohoaaDoorTie
import Derived.Test.YtgknelgplmohoaaDoorCards
import Derived.ChangeOld
import Derived.Test.YtgknelgplmohoaaDoorQFnExactShortestq
section
namespace Go.Proofs.YtgknelgplmohoaaDoor
open Go.Proofs.YtgknelgplmohoaaDoor.G Go.Proofs.YtgknelgplmohoaaDoor.M Go.ChangeShapes Go.WideShapes Go.ChangeAt Go.WideMaps Go.WideElems Go.RowKit Go.Joins Go.Proofs.YtgknelgplmohoaaDoor.X
set_option linter.unusedVariables false
set_option linter.unusedSimpArgs false
theorem cellsWord : Tryd.prog.cellsOf 50 = 2 := by kernel_rfl
theorem wf_i64 {x : Int} (h : (Lit.int .i64 x).wf = true) : -9223372036854775808 ≤ x ∧ x ≤ 9223372036854775807 := by
  simp [Lit.wf, IntKind.min, IntKind.max, IntKind.signed, IntKind.bits] at h
  omega
set_option maxRecDepth 100000 in
theorem lifted (os : Os) (started : os.Started) (H : Type) (enc : TypeId × Value → H) :
    ReturnsInHanded {} Tryd.checked os 5 .any (fun w args => (Rows.fnExactShortestSpec.pre enc Tryd.prog Tryd.f5 [] false w args ∧ laidMetH Tryd.prog lst w) ∧ sizedMet enc Tryd.prog Tryd.f5 (OpenSpec.ofChange Rows.fnExactShortestSpec) false w args)
      (Rows.fnExactShortestSpec.post enc Tryd.prog Tryd.f5 false true false false) := by
  refine returnsInHanded_of_change_and (C := Tryd.checked) (X := fun w _ => laidMetH Tryd.prog lst w) (fun _ _ _ hh h => h.of_heap hh) own started (by kernel_rfl) Tryd.func5
    (ChangeSpec.witness_shaped (enc := enc) (C := Tryd.checked) (os := os) (X := fun w _ => laidMetH Tryd.prog lst w) false (World.doorLaid Tryd.prog 400 os) #[.int .i64 0, .agg #[.int .u64 0, .int .u64 0]] 8 rfl (World.shaped_of_RefB (by kernel_rfl) (by kernel_rfl)) (by kernel_rfl) (by kernel_rfl) (by kernel_rfl) (door_met os _)) ?_
  intro W base args ds gs before hval0 hW _ _ hL _
  have hval : ∀ (j : Nat) t v, Tryd.f5.params[j]? = some t → args[j]? = some v → Value.okWide Tryd.prog W .any base t v := hval0
  have hW' := hW
  obtain ⟨p, q, hA0, hV0, rfl, hfz, hnd⟩ := hW
  have hA : DataW.TrodAll enc Tryd.prog W 0 (fun _ => true) true Tryd.f5.params.toList args.toList ds p := hA0
  have hV : DataW.TrodVars enc Tryd.prog W (fun _ => true) ["loop.example/s01493/impl.formats"] gs q := hV0
  rw [Tryd.params5] at hA hval
  obtain ⟨v0, v1, d0, d1, p0, p1, rfl, rfl, rfl, h0, h1⟩ := trodAll_two hA
  obtain ⟨a0, rfl, rfl, rfl, wf0⟩ := open_int Tryd.underlying3 (hval 0 3 v0 rfl rfl) h0
  obtain ⟨c1, e1, y1, z1, m1, rfl, rfl, rfl, hy1, hz1⟩ := open_agg2 Tryd.underlying50 (by kernel_rfl) cellsWord (hval 1 50 v1 rfl rfl) h1
  obtain ⟨u1, f1, rfl, wu1⟩ := DataW.trod_int Tryd.underlying26 hy1
  obtain ⟨l1, k1, rfl, wl1⟩ := DataW.trod_int Tryd.underlying26 hz1
  simp at f1 k1
  subst f1 k1
  obtain ⟨g, t, cs, fuel, d, p', rfl, hg, ht, hvar, hd, rfl⟩ := trodVars_one hV
  obtain rfl := Option.some.inj (gForm.symm.trans hg)
  obtain rfl := Option.some.inj (tForm.symm.trans ht)
  obtain rfl : cs = table24 := Option.some.inj (hvar.symm.trans (cells_of_laid hL))
  obtain ⟨rfl, rfl⟩ := DataW.Trod.unique (v := .agg table24) ⟨fuel, hd⟩ ⟨4, reads_table enc W _⟩
  clear hA0 hV0 hval0
  simp only [List.append_nil, List.nil_append] at hW'
  have hcell : ∀ i : Nat, W.cell? ⟨0, i, none⟩ = table24[i]? := fun i => World.var?_cell hg hvar i
  have hs : 0 < W.heap.size := tab_size hcell
  have hT : Tabled W := ⟨hs, fun i _ => hcell i⟩
  obtain ⟨n1, hn1, rfl, rfl⟩ := word_split wu1 wl1
  refine (ctV_all (ct_laws_FnExactShortest a0 n1 hn1) (feet_cons (tabled_foot hT) feet_nil)).mono fun e W' ⟨he, bel⟩ => ?_
  subst he
  have hvar' : W'.var? Tryd.prog "loop.example/s01493/impl.formats" = some table24 := by
    have hb := bel.block 0 hs
    rw [← hvar]
    simp only [World.var?, hg, Option.bind_some, hb]
  have rdW1 : ∀ (sp : Nat → Bool), DataW.Trod enc Tryd.prog W' 0 sp true 50 (.agg #[.int .u64 (hiI n1), .int .u64 (loI n1)]) (.agg [.lit (.int .u64 (hiI n1)), .lit (.int .u64 (loI n1))]) [] := fun sp =>
    shut_agg2 (y0 := (.lit (.int .u64 (hiI n1)), [])) (y1 := (.lit (.int .u64 (loI n1)), [])) Tryd.underlying50 (by kernel_rfl) cellsWord ⟨1, by simp [DataW.trod, Tryd.underlying26, wu1]⟩ ⟨1, by simp [DataW.trod, Tryd.underlying26, wl1]⟩
  exact ⟨_, rfl, _, _, _, [], _, _, hW', trodAll_mk1 (shut_bool Tryd.underlying4 _), (trodAll_cons_mk (shut_int Tryd.underlying3 wf0) (trodAll_cons_mk (rdW1 _) trodAll_mk0)), ⟨0, 131, table24, 4, [], [], hg, ht, hvar', reads_table enc W' _, rfl, rfl⟩, bel.frame _, fun h => by cases h⟩
theorem row_holds : Rows.FnExactShortestSaid :=
  OpenClaim.holds_of_wide 5 Tryd.f5 rfl rfl rfl rfl rfl rfl rfl ⟨rfl, rfl, rfl, rfl, rfl⟩ rfl rfl rfl rfl rfl (by kernel_rfl) Tryd.func5 (by kernel_rfl)
    (of_decide_eq_true (by kernel_rfl)) (by unfold Func.isWrapper; first | (rw [if_pos (by decide +kernel)]; kernel_rfl) | (rw [if_neg (by decide +kernel)]; exact ⟨rfl, rfl⟩))
    (fun os started H enc _ => lifted os started H enc)
theorem fnExactShortest_holds : Rows.FnExactShortestCardSaid :=
  Claim7.holds_tied_plain_at .later [] [.data] true (true, "8acf51dd352197777fcd9328606bfdf4fe1d90fdd9a376a4406ae5a33b898595") true
    row_holds (fun _ h => by cases h) (by kernel_rfl) (fun _ h => by cases h) fnExactShortest_row_tie rfl ⟨rfl, rfl⟩ (by kernel_rfl) rfl
    (fun f fn hf hfn => by
      obtain rfl : f = 5 := Option.some.inj ((show Tryd.prog.funcNamed "loop.example/s01493/laws.FnExactShortest" = some 5 by kernel_rfl).symm.trans hf) |>.symm
      obtain rfl : fn = Tryd.f5 := (Option.some.inj (Tryd.func5.symm.trans hfn)).symm
      exact ⟨by kernel_rfl, fun j t ht => by
        rw [Tryd.params5] at ht
        have hm : t ∈ [3, 50] := by simpa using Array.mem_of_getElem? ht
        have hall : ([3, 50].all fun u => !Tryd.prog.wantsStandIn u) = true := by kernel_rfl
        exact (show Tryd.prog.wantsStandIn t = false by simpa using List.all_eq_true.1 hall t hm)⟩)
    (by kernel_rfl)
end Go.Proofs.YtgknelgplmohoaaDoor
end
