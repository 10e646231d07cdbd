import Derived.Test.YtgknelgplmohoaaDoorRows
import Derived.ProofKit
import Derived.LaidMore
import Derived.OpenShut
import Derived.ChangeVars
import Derived.ChangeSame
import Derived.ChangeArms
import Derived.Stop.Joined
import Derived.Test.YtgknelgplmohoaaDoorQFnShortesto
section
namespace Go.Proofs.YtgknelgplmohoaaDoor
open Go.Proofs.YtgknelgplmohoaaDoor.G Go.ChangeShapes Go.WideShapes Go.ChangeAt Go.WideMaps Go.WideElems Go.RowKit
set_option linter.unusedVariables false
set_option linter.unusedSimpArgs false
theorem own : ownKnob Tryd.prog.godebug = none := by kernel_rfl
theorem gForm : Tryd.prog.globalNamed "loop.example/s01493/impl.formats" = some 0 := by kernel_rfl
theorem tForm : (Tryd.prog.globals[0]?).map (·.type) = some 131 := by kernel_rfl
theorem cellsInt : Tryd.prog.cellsOf 3 = 1 := by kernel_rfl
theorem cellsBool : Tryd.prog.cellsOf 4 = 1 := by kernel_rfl
theorem cellsDesc : Tryd.prog.cellsOf 85 = 6 := by kernel_rfl
theorem cellsTab : Tryd.prog.cellsOf 131 = 24 := by kernel_rfl
set_option maxRecDepth 100000 in
theorem desc_cells {H : Type} {enc : TypeId × Value → H} {w : World} {base : Nat} {sp : Nat → Bool} {held : Bool} {fuel : Nat} {cs : List Value} {a b c d e : Int} {x : Bool} {q : List MemPlace}
    (h : DataW.trod enc Tryd.prog w base sp held fuel 85 cs = some (.agg [.lit (.int .i64 a), .lit (.int .i64 b), .lit (.int .i64 c), .lit (.int .i64 d), .lit (.int .i64 e), .lit (.bool x)], q)) :
    cs = [.int .i64 a, .int .i64 b, .int .i64 c, .int .i64 d, .int .i64 e, .bool x] := by
  obtain ⟨xs, n, _, hx, hl, hlen, hf⟩ := DataW.trod_struct Tryd.underlying85 h
  rw [cellsDesc] at hl
  have h0 : DataW.trod enc Tryd.prog w base sp held n 3 ((cs.drop 0).take (Tryd.prog.cellsOf 3)) = xs[0]? := hf 0 _ rfl
  rw [cellsInt] at h0
  have h1 : DataW.trod enc Tryd.prog w base sp held n 3 ((cs.drop 1).take (Tryd.prog.cellsOf 3)) = xs[1]? := hf 1 _ rfl
  rw [cellsInt] at h1
  have h2 : DataW.trod enc Tryd.prog w base sp held n 3 ((cs.drop 2).take (Tryd.prog.cellsOf 3)) = xs[2]? := hf 2 _ rfl
  rw [cellsInt] at h2
  have h3 : DataW.trod enc Tryd.prog w base sp held n 3 ((cs.drop 3).take (Tryd.prog.cellsOf 3)) = xs[3]? := hf 3 _ rfl
  rw [cellsInt] at h3
  have h4 : DataW.trod enc Tryd.prog w base sp held n 3 ((cs.drop 4).take (Tryd.prog.cellsOf 3)) = xs[4]? := hf 4 _ rfl
  rw [cellsInt] at h4
  have h5 : DataW.trod enc Tryd.prog w base sp held n 4 ((cs.drop 5).take (Tryd.prog.cellsOf 4)) = xs[5]? := hf 5 _ rfl
  rw [cellsBool] at h5
  match cs, hl with
  | [v0, v1, v2, v3, v4, v5], _ =>
    match xs, hlen with
    | [x0, x1, x2, x3, x4, x5], _ =>
      obtain ⟨n0, e0, rfl, _⟩ := DataW.trod_int Tryd.underlying3 h0
      obtain ⟨n1, e1, rfl, _⟩ := DataW.trod_int Tryd.underlying3 h1
      obtain ⟨n2, e2, rfl, _⟩ := DataW.trod_int Tryd.underlying3 h2
      obtain ⟨n3, e3, rfl, _⟩ := DataW.trod_int Tryd.underlying3 h3
      obtain ⟨n4, e4, rfl, _⟩ := DataW.trod_int Tryd.underlying3 h4
      obtain ⟨n5, e5, rfl⟩ := DataW.trod_bool Tryd.underlying4 h5
      simp at e0 e1 e2 e3 e4 e5
      simp at hx
      obtain ⟨⟨rfl, rfl, rfl, rfl, rfl, rfl⟩, _⟩ := hx
      rw [e0, e1, e2, e3, e4, e5]
theorem take_drop_all (l : List Value) (h : l.length = 24) : l = (l.drop 0).take 6 ++ ((l.drop 6).take 6 ++ ((l.drop 12).take 6 ++ (l.drop 18).take 6)) := by
  match l, h with
  | [a0, a1, a2, a3, a4, a5, a6, a7, a8, a9, a10, a11, a12, a13, a14, a15, a16, a17, a18, a19, a20, a21, a22, a23], _ => rfl
set_option maxRecDepth 100000 in
theorem cells_of_laid {W : World} (h : laidMetH Tryd.prog [("loop.example/s01493/impl.formats", Rows.laid_loop_example_s01493_impl_formats)] W) : W.var? Tryd.prog "loop.example/s01493/impl.formats" = some table24 := by
  rw [MakeChecks.laidMetH_plain _ _ _ (by kernel_rfl)] at h
  obtain ⟨ps, ⟨g, t, cs, fuel, p, q, hg, ht, hvar, hd, _, _⟩, _⟩ := h
  obtain rfl := Option.some.inj (gForm.symm.trans hg)
  obtain rfl := Option.some.inj (tForm.symm.trans ht)
  rw [hvar]
  congr 1
  obtain ⟨l⟩ := cs
  obtain ⟨xs, m, rfl, hx, hl, hlen, hf⟩ := DataW.trod_array Tryd.underlying131 hd
  rw [cellsTab] at hl
  simp only [cellsDesc] at hf
  have h0 := hf 0 (by decide)
  have h1 := hf 1 (by decide)
  have h2 := hf 2 (by decide)
  have h3 := hf 3 (by decide)
  match xs, hlen with
  | [x0, x1, x2, x3], _ =>
    obtain ⟨x0, q0⟩ := x0
    obtain ⟨x1, q1⟩ := x1
    obtain ⟨x2, q2⟩ := x2
    obtain ⟨x3, q3⟩ := x3
    simp [Rows.laid_loop_example_s01493_impl_formats] at hx
    obtain ⟨⟨rfl, rfl, rfl, rfl⟩, _⟩ := hx
    have k0 := desc_cells h0
    have k1 := desc_cells h1
    have k2 := desc_cells h2
    have k3 := desc_cells h3
    have hl' : l.length = 24 := hl
    have e := take_drop_all l hl'
    simp only [Nat.zero_mul, Nat.one_mul, Nat.reduceMul] at k0 k1 k2 k3
    rw [k0, k1, k2, k3] at e
    rw [e]
    rfl
end Go.Proofs.YtgknelgplmohoaaDoor
end
