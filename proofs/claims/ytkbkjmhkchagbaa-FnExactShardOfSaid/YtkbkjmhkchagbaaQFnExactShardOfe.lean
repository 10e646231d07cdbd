/- For every shape of a cache and every key the program's ShardOf returns what the reference's ShardOf returns. Conditions: none beyond the row's own. -/
import Derived.Test.YtkbkjmhkchagbaaRows
import Derived.ProofKit
import Derived.OpenShut
import Derived.ShutString
import Derived.ChangeOld
import Derived.SizedLaws
import Derived.Lib.SmallJoins
import Derived.Test.YtkbkjmhkchagbaaQFnExactShardOfd
section
namespace Go.Proofs.Ytkbkjmhkchagbaa.fnExactShardOf
open Go.ChangeShapes Go.WideShapes Go.ChangeAt Go.RowKit Go.Joins
open Go.ChangeMaps (open_string shut_string)
set_option linter.unusedVariables false
theorem own : ownKnob Try.prog.godebug = none := by kernel_rfl
theorem cells24 : Try.prog.cellsOf 24 = 2 := by kernel_rfl
theorem cells26 : Try.prog.cellsOf 26 = 2 := by kernel_rfl
set_option maxRecDepth 100000 in
theorem lifted (os : Os) (started : os.Started) (H : Type) (enc : TypeId × Value → H) :
    ReturnsInHanded {} Try.checked os 5 .any (Rows.fnExactShardOfSpec.pre6 enc Try.prog Try.f5 Rows.fnExactShardOfRow.domain false) (Rows.fnExactShardOfSpec.post enc Try.prog Try.f5 false true false false) := by
  refine returnsInHanded_of_change_sized (C := Try.checked) own started (by kernel_rfl) Try.func5
    (ChangeSpec.witness6 (enc := enc) (C := Try.checked) false ⟨#[], #[.agg #[.int .i64 0, .int .i64 0], .agg #[.int .i64 0, .int .i64 0]], []⟩ 8 (by kernel_rfl) (by kernel_rfl) (by kernel_rfl) (by kernel_rfl)) ?_
  intro W base args ds gs before hval0 hW hcnd hsz0 _
  have hval : ∀ (j : Nat) t v, Try.f5.params[j]? = some t → args[j]? = some v → Value.okWide Try.prog W .any base t v := hval0
  have hW' := hW
  obtain ⟨p, q, hA0, hV, rfl, hfz, hnd⟩ := hW
  have hA : DataW.TrodAll enc Try.prog W 0 (fun _ => true) true Try.f5.params.toList args.toList ds p := hA0
  rw [Try.params5] at hA hval
  obtain ⟨v0, vs0, d0, ds0, p0, q0, hargs, rfl, rfl, h0, r0⟩ := trodAll_cons hA
  obtain ⟨v1, vs1, d1, ds1, p1, q1, rfl, rfl, rfl, h1, r1⟩ := trodAll_cons r0
  obtain ⟨rfl, rfl, rfl⟩ := trodAll_nil r1
  obtain rfl : args = #[v0, v1] := by cases args; simp_all
  obtain ⟨rfl, rfl⟩ := trodVars_none hV
  obtain ⟨c0, c1, y0, y1, m0, rfl, rfl, rfl, hy0, hy1⟩ := open_agg2 Try.underlying24 (by kernel_rfl) cells24 (hval 0 24 v0 rfl rfl) h0
  obtain ⟨b0, b1, z0, z1, m1, rfl, rfl, rfl, hz0, hz1⟩ := open_agg2 Try.underlying26 (by kernel_rfl) cells26 (hval 1 26 v1 rfl rfl) h1
  obtain ⟨a, e0, rfl, wa⟩ := DataW.trod_int Try.underlying3 hy0
  obtain ⟨b, e1, rfl, wb⟩ := DataW.trod_int Try.underlying3 hy1
  obtain ⟨c, e2, rfl, wc⟩ := DataW.trod_int Try.underlying3 hz0
  obtain ⟨d, e3, rfl, wd⟩ := DataW.trod_int Try.underlying3 hz1
  simp at e0 e1 e2 e3
  subst e0 e1 e2 e3
  clear hA0 hval0 hsz0
  simp only [List.append_nil] at hW'
  have reads1 : ∀ (W' : World) (sp : Nat → Bool), DataW.Trod enc Try.prog W' 0 sp true 24 (.agg #[.int .i64 a, .int .i64 b]) (.agg [.lit (.int .i64 a), .lit (.int .i64 b)]) [] := fun W' sp =>
    shut_agg2 (y0 := (.lit (.int .i64 a), [])) (y1 := (.lit (.int .i64 b), [])) Try.underlying24 (by kernel_rfl) cells24 ⟨1, by simp [DataW.trod, Try.underlying3, wa]⟩ ⟨1, by simp [DataW.trod, Try.underlying3, wb]⟩
  have reads2 : ∀ (W' : World) (sp : Nat → Bool), DataW.Trod enc Try.prog W' 0 sp true 26 (.agg #[.int .i64 c, .int .i64 d]) (.agg [.lit (.int .i64 c), .lit (.int .i64 d)]) [] := fun W' sp =>
    shut_agg2 (y0 := (.lit (.int .i64 c), [])) (y1 := (.lit (.int .i64 d), [])) Try.underlying26 (by kernel_rfl) cells26 ⟨1, by simp [DataW.trod, Try.underlying3, wc]⟩ ⟨1, by simp [DataW.trod, Try.underlying3, wd]⟩
  refine (PH.laws_FnExactShardOf.calls a b c d true W (Pure.FnExactShardOf a b c d)).mono fun e W' ⟨he, bel⟩ => ?_
  subst he
  exact ⟨_, rfl, _, _, _, [], _, [], hW', trodAll_mk1 (shut_bool Try.underlying4 _), (trodAll_cons_mk (reads1 _ _) (trodAll_cons_mk (reads2 _ _) trodAll_mk0)), rfl, bel.frame _, fun h => by cases h⟩
theorem over : Rows.fnExactShardOfRow.holds Try.pinned (OpenSpec.ofChange Rows.fnExactShardOfSpec) :=
  OpenClaim.holds_of_wide 5 Try.f5 rfl rfl rfl rfl rfl rfl rfl ⟨rfl, rfl, rfl, rfl, rfl⟩ rfl rfl rfl rfl rfl (by kernel_rfl) Try.func5 (by kernel_rfl)
    (of_decide_eq_true (by kernel_rfl)) (by unfold Func.isWrapper; first | (rw [if_pos (by decide +kernel)]; kernel_rfl) | (rw [if_neg (by decide +kernel)]; exact ⟨rfl, rfl⟩))
    (fun os started H enc _ => lifted os started H enc)
theorem proved : Rows.FnExactShardOfSaid := over
end Go.Proofs.Ytkbkjmhkchagbaa.fnExactShardOf
namespace Go.Proofs.Ytkbkjmhkchagbaa
theorem fnExactShardOf_holds : Rows.FnExactShardOfSaid := fnExactShardOf.proved
end Go.Proofs.Ytkbkjmhkchagbaa
end
