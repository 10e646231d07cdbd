/- For every number of 64 bits and every power the program's Scale returns what the reference's Scale returns: nothing where the power is no sound one, else the two ends of the product and the exponent; the answer owns its memory. Conditions: none beyond the row's own. -/
import Derived.Test.YtlfpjlfmjojimaaRows
import Derived.ShutString
import Derived.Test.YtlfpjlfmjojimaaQFnExactScalen
section
namespace Go.Proofs.Ytlfpjlfmjojimaa.fnExactScale
open Go.ChangeShapes Go.WideShapes Go.ChangeAt Go.RowKit Go.Proofs.Ytlfpjlfmjojimaa.M Go.Proofs.Ytlfpjlfmjojimaa.X Go.WideMaps Go.WideElems Go.Joins
set_option linter.unusedVariables false
set_option linter.unusedSimpArgs false
theorem own : ownKnob Try.prog.godebug = none := by kernel_rfl
set_option maxRecDepth 100000 in
theorem lifted (os : Os) (started : os.Started) (H : Type) (enc : TypeId × Value → H) :
    ReturnsInHanded {} Try.checked os 5 .any (Rows.fnExactScaleSpec.pre6 enc Try.prog Try.f5 Rows.fnExactScaleRow.domain false) (Rows.fnExactScaleSpec.post enc Try.prog Try.f5 false true false false) := by
  refine returnsInHanded_of_change_sized (C := Try.checked) own started (by kernel_rfl) Try.func5
    (ChangeSpec.witness6 (enc := enc) (C := Try.checked) false ⟨#[], #[.int .u64 0, .agg #[.int .i64 0, .int .i64 0, .int .u64 0, .int .u64 0, .int .i64 0, .bool false, .bool false]], []⟩ 8 (by kernel_rfl) (by kernel_rfl) (by kernel_rfl) (by kernel_rfl)) ?_
  intro W base args ds gs before hval0 hW hcnd hsz0 _
  have hval : ∀ (j : Nat) t v, Try.f5.params[j]? = some t → args[j]? = some v → Value.okWide Try.prog W .any base t v := hval0
  have hW' := hW
  obtain ⟨p, q, hA0, hV, rfl, hfz, hnd⟩ := hW
  have hA : DataW.TrodAll enc Try.prog W 0 (fun _ => true) true Try.f5.params.toList args.toList ds p := hA0
  rw [Try.params5] at hA hval
  obtain ⟨v0, v1, d0, d1, p0, p1, rfl, rfl, rfl, h0, h1⟩ := trodAll_two hA
  obtain ⟨rfl, rfl⟩ := trodVars_none hV
  obtain ⟨a0, rfl, rfl, rfl, wf0⟩ := open_int Try.underlying22 (hval 0 22 v0 rfl rfl) h0
  obtain ⟨m0, hm0, rfl⟩ : ∃ d : Nat, d < 18446744073709551616 ∧ a0 = (d : Int) := ⟨a0.toNat, by have := wf_u64 wf0; omega, by have := wf_u64 wf0; omega⟩
  obtain ⟨pa1, pb1, ph1, pl1, pe1, px1, py1, rfl, rfl, rfl, ya1, yb1, yh1, yl1, ye1⟩ := open_power (hval 1 41 v1 rfl rfl) h1
  obtain ⟨n1, hn1, rfl, rfl⟩ := word_split yh1 yl1
  clear hA0 hval0 hsz0
  refine (ctV_all (ct_laws_FnExactScale m0 hm0 pa1 pb1 n1 hn1 pe1 px1 py1) feet_nil).mono fun e W' ⟨he, bel⟩ => ?_
  subst he
  exact ⟨_, rfl, _, _, _, [], _, [], hW', trodAll_mk1 (shut_bool Try.underlying4 _), (trodAll_cons_mk (shut_int Try.underlying22 wf0) (trodAll_cons_mk (shut_power enc W' 0 _ true ya1 yb1 yh1 yl1 ye1) trodAll_mk0)), rfl, bel.frame _, fun h => by cases h⟩
theorem over : Rows.fnExactScaleRow.holds Try.pinned (OpenSpec.ofChange Rows.fnExactScaleSpec) :=
  OpenClaim.holds_of_wide 5 Try.f5 rfl rfl rfl rfl rfl rfl rfl ⟨rfl, rfl, rfl, rfl, rfl⟩ rfl rfl rfl rfl rfl (by kernel_rfl) Try.func5 (by kernel_rfl)
    (of_decide_eq_true (by kernel_rfl)) (by unfold Func.isWrapper; first | (rw [if_pos (by decide +kernel)]; kernel_rfl) | (rw [if_neg (by decide +kernel)]; exact ⟨rfl, rfl⟩))
    (fun os started H enc _ => lifted os started H enc)
theorem proved : Rows.FnExactScaleSaid := over
end Go.Proofs.Ytlfpjlfmjojimaa.fnExactScale
namespace Go.Proofs.Ytlfpjlfmjojimaa
theorem fnExactScale_holds : Rows.FnExactScaleSaid := fnExactScale.proved
end Go.Proofs.Ytlfpjlfmjojimaa
end
