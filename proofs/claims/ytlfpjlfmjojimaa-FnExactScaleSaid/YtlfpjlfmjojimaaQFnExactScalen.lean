import Derived.Lib.SmallJoins
import Derived.ProofKit
import Derived.OpenShut
import Derived.ChangeOld
import Derived.SizedLaws
import Derived.Test.YtlfpjlfmjojimaaQFnExactScalem
section
namespace Go.Proofs.Ytlfpjlfmjojimaa
open Go.Proofs.Ytlfpjlfmjojimaa.G Go.Proofs.Ytlfpjlfmjojimaa.M Go.ChangeShapes Go.WideShapes Go.ChangeAt Go.WideMaps Go.WideElems Go.RowKit Go.Joins Go.Proofs.Ytlfpjlfmjojimaa.X Go.Proofs.YtlfpjlfmjojimaaV.PrintWords Go.Proofs.YtlfpjlfmjojimaaV.PrintLast
set_option linter.unusedVariables false
set_option linter.unusedSimpArgs false
theorem wf_u64 {x : Int} (h : (Lit.int .u64 x).wf = true) : 0 ≤ x ∧ x < 18446744073709551616 := by
  simp [Lit.wf, IntKind.min, IntKind.max, IntKind.signed, IntKind.bits] at h
  omega
theorem ctV_all {P : Program} {f : FuncId} {args : List Value} {v : Value} {pre : List Fact} (h : CtV P f args pre v) {W : World} (hp : ∀ F ∈ pre, Foot F W (fun k => k ∉ ([] : List Nat))) : Calls P f args.toArray W fun e w' => e = .returned v ∧ Below W.heap.size W w' :=
  (h [] W (fun k hk => by cases hk) hp).mono (fun e w' ⟨_, h1, _, h2⟩ => ⟨h1, h2⟩)
theorem feet_nil {W : World} : ∀ F ∈ ([] : List Fact), Foot F W (fun k => k ∉ ([] : List Nat)) := fun F hF => by cases hF
end Go.Proofs.Ytlfpjlfmjojimaa
end
section
namespace Go.Proofs.Ytlfpjlfmjojimaa
open Go.Proofs.Ytlfpjlfmjojimaa.G Go.Proofs.Ytlfpjlfmjojimaa.M Go.ChangeShapes Go.WideShapes Go.ChangeAt Go.WideMaps Go.WideElems Go.RowKit Go.Joins Go.Proofs.Ytlfpjlfmjojimaa.X
set_option linter.unusedVariables false
set_option linter.unusedSimpArgs false
theorem cellsI : Try.prog.cellsOf 3 = 1 := by kernel_rfl
theorem cellsB : Try.prog.cellsOf 4 = 1 := by kernel_rfl
theorem cellsWd : Try.prog.cellsOf 39 = 2 := by kernel_rfl
theorem cellsPow : Try.prog.cellsOf 41 = 7 := by kernel_rfl
theorem cellsU6 : Try.prog.cellsOf 22 = 1 := by kernel_rfl
set_option maxRecDepth 100000 in
theorem open_power {H : Type} {enc : TypeId × Value → H} {w : World} {base b0 : Nat} {sp : Nat → Bool} {held : Bool} {r : Reach} {v : Value} {d : DataW H} {p : List MemPlace} (hv : Value.okWide Try.prog w r b0 41 v) (h : DataW.Trod enc Try.prog w base sp held 41 v d p) :
    ∃ (a b h l e : Int) (x y : Bool), v = .agg #[.int .i64 a, .int .i64 b, .int .u64 h, .int .u64 l, .int .i64 e, .bool x, .bool y] ∧ d = .agg [.lit (.int .i64 a), .lit (.int .i64 b), .agg [.lit (.int .u64 h), .lit (.int .u64 l)], .lit (.int .i64 e), .lit (.bool x), .lit (.bool y)] ∧ p = [] ∧
      (Lit.int .i64 a).wf = true ∧ (Lit.int .i64 b).wf = true ∧ (Lit.int .u64 h).wf = true ∧ (Lit.int .u64 l).wf = true ∧ (Lit.int .i64 e).wf = true := by
  obtain ⟨cs, rfl, hsz⟩ := okWide_struct Try.underlying41 hv
  obtain ⟨l⟩ := cs
  obtain ⟨fuel, hf⟩ := h
  obtain ⟨xs, m, _, hx, hl, hlen, hg⟩ := DataW.trod_struct Try.underlying41 hf
  have h0 : DataW.trod enc Try.prog w base sp held m 3 ((l.drop 0).take (Try.prog.cellsOf 3)) = xs[0]? := hg 0 _ rfl
  rw [cellsI] at h0
  have h1 : DataW.trod enc Try.prog w base sp held m 3 ((l.drop 1).take (Try.prog.cellsOf 3)) = xs[1]? := hg 1 _ rfl
  rw [cellsI] at h1
  have h2 : DataW.trod enc Try.prog w base sp held m 39 ((l.drop 2).take (Try.prog.cellsOf 39)) = xs[2]? := hg 2 _ rfl
  rw [cellsWd] at h2
  have h3 : DataW.trod enc Try.prog w base sp held m 3 ((l.drop 4).take (Try.prog.cellsOf 3)) = xs[3]? := hg 3 _ rfl
  rw [cellsI] at h3
  have h4 : DataW.trod enc Try.prog w base sp held m 4 ((l.drop 5).take (Try.prog.cellsOf 4)) = xs[4]? := hg 4 _ rfl
  rw [cellsB] at h4
  have h5 : DataW.trod enc Try.prog w base sp held m 4 ((l.drop 6).take (Try.prog.cellsOf 4)) = xs[5]? := hg 5 _ rfl
  rw [cellsB] at h5
  match l, (show l.length = 7 from hsz.trans cellsPow) with
  | [v0, v1, v2, v3, v4, v5, v6], _ =>
    match xs, hlen with
    | [x0, x1, x2, x3, x4, x5], _ =>
      obtain ⟨n0, e0, rfl, k0⟩ := DataW.trod_int Try.underlying3 h0
      obtain ⟨n1, e1, rfl, k1⟩ := DataW.trod_int Try.underlying3 h1
      obtain ⟨n3, e3, rfl, k3⟩ := DataW.trod_int Try.underlying3 h3
      obtain ⟨n4, e4, rfl⟩ := DataW.trod_bool Try.underlying4 h4
      obtain ⟨n5, e5, rfl⟩ := DataW.trod_bool Try.underlying4 h5
      have h2' : DataW.trod enc Try.prog w base sp held m 39 [v2, v3] = some x2 := h2
      obtain ⟨ys, m2, _, hy, hyl, hylen, hyg⟩ := DataW.trod_struct Try.underlying39 h2'
      have g0 : DataW.trod enc Try.prog w base sp held m2 22 (([v2, v3].drop 0).take (Try.prog.cellsOf 22)) = ys[0]? := hyg 0 _ rfl
      rw [cellsU6] at g0
      have g1 : DataW.trod enc Try.prog w base sp held m2 22 (([v2, v3].drop 1).take (Try.prog.cellsOf 22)) = ys[1]? := hyg 1 _ rfl
      rw [cellsU6] at g1
      match ys, hylen with
      | [y0, y1], _ =>
        obtain ⟨a0, f0, rfl, j0⟩ := DataW.trod_int Try.underlying22 g0
        obtain ⟨a1, f1, rfl, j1⟩ := DataW.trod_int Try.underlying22 g1
        simp at e0 e1 e3 e4 e5 f0 f1
        subst e0 e1 e3 e4 e5 f0 f1
        subst hy
        simp at hx
        obtain ⟨rfl, rfl⟩ := hx
        exact ⟨n0, n1, a0, a1, n3, n4, n5, rfl, rfl, rfl, k0, k1, j0, j1, k3⟩
set_option maxRecDepth 100000 in
theorem shut_power {H : Type} (enc : TypeId × Value → H) (w : World) (base : Nat) (sp : Nat → Bool) (held : Bool) {a b h l e : Int} {x y : Bool} (k0 : (Lit.int .i64 a).wf = true) (k1 : (Lit.int .i64 b).wf = true) (j0 : (Lit.int .u64 h).wf = true) (j1 : (Lit.int .u64 l).wf = true) (k3 : (Lit.int .i64 e).wf = true) :
    DataW.Trod enc Try.prog w base sp held 41 (.agg #[.int .i64 a, .int .i64 b, .int .u64 h, .int .u64 l, .int .i64 e, .bool x, .bool y]) (.agg [.lit (.int .i64 a), .lit (.int .i64 b), .agg [.lit (.int .u64 h), .lit (.int .u64 l)], .lit (.int .i64 e), .lit (.bool x), .lit (.bool y)]) [] := by
  have ti : ∀ {z : Int}, (Lit.int .i64 z).wf = true → DataW.trod enc Try.prog w base sp held 2 3 [.int .i64 z] = some (.lit (.int .i64 z), []) := fun k => by simp [DataW.trod, Try.underlying3, k]
  have tb : ∀ {z : Bool}, DataW.trod enc Try.prog w base sp held 2 4 [.bool z] = some (.lit (.bool z), []) := by intro z; simp [DataW.trod, Try.underlying4]
  have e4 : DataW.trod enc Try.prog w base sp held 1 22 [.int .u64 h] = some (.lit (.int .u64 h), []) := by simp [DataW.trod, Try.underlying22, j0]
  have e5 : DataW.trod enc Try.prog w base sp held 1 22 [.int .u64 l] = some (.lit (.int .u64 l), []) := by simp [DataW.trod, Try.underlying22, j1]
  have e6 : DataW.trod enc Try.prog w base sp held 2 39 [.int .u64 h, .int .u64 l] = some (.agg [.lit (.int .u64 h), .lit (.int .u64 l)], []) :=
    trod_struct2_mk (y0 := (.lit (.int .u64 h), [])) (y1 := (.lit (.int .u64 l), [])) Try.underlying39 cellsWd.symm e4 e5
  refine ⟨3, ?_⟩
  exact trod_struct_mk (xs := [(.lit (.int .i64 a), []), (.lit (.int .i64 b), []), (.agg [.lit (.int .u64 h), .lit (.int .u64 l)], []), (.lit (.int .i64 e), []), (.lit (.bool x), []), (.lit (.bool y), [])]) Try.underlying41 cellsPow.symm (by
    show List.mapM _ [_, _, _, _, _, _] = _
    have hL : (Value.agg #[.int .i64 a, .int .i64 b, .int .u64 h, .int .u64 l, .int .i64 e, .bool x, .bool y]).cells.toList = ([.int .i64 a, .int .i64 b, .int .u64 h, .int .u64 l, .int .i64 e, .bool x, .bool y] : List Value) := rfl
    simp only [List.mapM_cons, List.mapM_nil, hL]
    have a0 : DataW.trod enc Try.prog w base sp held 2 3 ((([.int .i64 a, .int .i64 b, .int .u64 h, .int .u64 l, .int .i64 e, .bool x, .bool y] : List Value).drop 0).take (Try.prog.cellsOf 3)) = some (.lit (.int .i64 a), []) := by rw [cellsI]; exact ti k0
    have a1 : DataW.trod enc Try.prog w base sp held 2 3 ((([.int .i64 a, .int .i64 b, .int .u64 h, .int .u64 l, .int .i64 e, .bool x, .bool y] : List Value).drop 1).take (Try.prog.cellsOf 3)) = some (.lit (.int .i64 b), []) := by rw [cellsI]; exact ti k1
    have a2 : DataW.trod enc Try.prog w base sp held 2 39 ((([.int .i64 a, .int .i64 b, .int .u64 h, .int .u64 l, .int .i64 e, .bool x, .bool y] : List Value).drop 2).take (Try.prog.cellsOf 39)) = some (.agg [.lit (.int .u64 h), .lit (.int .u64 l)], []) := by rw [cellsWd]; exact e6
    have a3 : DataW.trod enc Try.prog w base sp held 2 3 ((([.int .i64 a, .int .i64 b, .int .u64 h, .int .u64 l, .int .i64 e, .bool x, .bool y] : List Value).drop 4).take (Try.prog.cellsOf 3)) = some (.lit (.int .i64 e), []) := by rw [cellsI]; exact ti k3
    have a4 : DataW.trod enc Try.prog w base sp held 2 4 ((([.int .i64 a, .int .i64 b, .int .u64 h, .int .u64 l, .int .i64 e, .bool x, .bool y] : List Value).drop 5).take (Try.prog.cellsOf 4)) = some (.lit (.bool x), []) := by rw [cellsB]; exact tb
    have a5 : DataW.trod enc Try.prog w base sp held 2 4 ((([.int .i64 a, .int .i64 b, .int .u64 h, .int .u64 l, .int .i64 e, .bool x, .bool y] : List Value).drop 6).take (Try.prog.cellsOf 4)) = some (.lit (.bool y), []) := by rw [cellsB]; exact tb
    rw [a0, a1, a2, a3, a4, a5]
    rfl)
end Go.Proofs.Ytlfpjlfmjojimaa
end
