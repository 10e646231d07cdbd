import Derived.Lib.SmallJoins
import Derived.Test.YtgknelgplmohoaaDoorQFnExactShortestp
section
namespace Go.Proofs.YtgknelgplmohoaaDoor
open Go.Proofs.YtgknelgplmohoaaDoor.G Go.ChangeShapes Go.WideShapes Go.ChangeAt Go.WideMaps Go.WideElems Go.RowKit Go.Joins Go.Proofs.YtgknelgplmohoaaDoor.X Go.Proofs.YtgknelgplmohoaaDoorV.PrintWords Go.Proofs.YtgknelgplmohoaaDoorV.PrintLast
set_option linter.unusedVariables false
set_option linter.unusedSimpArgs false
theorem tabled_foot {W : World} (h : Tabled W) : Foot Tabled W (fun k => k ∉ ([] : List Nat)) := by
  intro W' hW
  have h0 := hW 0 (by simp) h.1
  have h1 : 0 < W'.heap.size := by
    rcases Nat.eq_zero_or_pos W'.heap.size with h2 | h2
    · rw [Array.getElem?_eq_none (by omega), Array.getElem?_eq_getElem h.1] at h0
      cases h0
    · exact h2
  refine ⟨h1, fun i hi => ?_⟩
  rw [← h.2 i hi]
  simp only [World.cell?, h0]
theorem tab_size {W : World} (hcell : ∀ i : Nat, W.cell? ⟨0, i, none⟩ = table24[i]?) : 0 < W.heap.size := by
  rcases Nat.eq_zero_or_pos W.heap.size with h | h
  · have h2 := hcell 0
    have h3 : W.heap[0]? = none := Array.getElem?_eq_none (by omega)
    simp [World.cell?, h3, table24] at h2
  · exact h
theorem ctV_all {P : Program} {f : FuncId} {args : List Value} {v : Value} {pre : List Fact} (h : CtV P f args pre v) {W : World} (hp : ∀ F ∈ pre, Foot F W (fun k => k ∉ ([] : List Nat))) : Calls P f args.toArray W fun e w' => e = .returned v ∧ Below W.heap.size W w' :=
  (h [] W (fun k hk => by cases hk) hp).mono (fun e w' ⟨_, h1, _, h2⟩ => ⟨h1, h2⟩)
theorem feet_nil {W : World} : ∀ F ∈ ([] : List Fact), Foot F W (fun k => k ∉ ([] : List Nat)) := fun F hF => by cases hF
theorem feet_cons {W : World} {G : Fact} {l : List Fact} (h : Foot G W (fun k => k ∉ ([] : List Nat))) (hl : ∀ F ∈ l, Foot F W (fun k => k ∉ ([] : List Nat))) : ∀ F ∈ G :: l, Foot F W (fun k => k ∉ ([] : List Nat)) := fun F hF => (List.mem_cons.1 hF).elim (fun e => e ▸ h) (hl F)
end Go.Proofs.YtgknelgplmohoaaDoor
end
