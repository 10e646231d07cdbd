import Derived.Lib.SmallJoins
import Derived.Test.YtgknelgplmohoaaDoorQFnShortestq
section
namespace Go.Proofs.YtgknelgplmohoaaDoor
open Go.Proofs.YtgknelgplmohoaaDoor.G Go.ChangeShapes Go.WideShapes Go.ChangeAt Go.WideMaps Go.WideElems Go.RowKit Go.Joins Go.Proofs.YtgknelgplmohoaaDoor.X Go.Proofs.YtgknelgplmohoaaDoorV.PrintWords Go.Proofs.YtgknelgplmohoaaDoorV.PrintLast
set_option linter.unusedVariables false
set_option linter.unusedSimpArgs false
theorem tabled_foot {W : World} (h : Tabled W) : Foot Tabled W (fun k => k ∉ ([] : List Nat)) := by
  intro W' hW
  have h0 := hW 0 (by simp) h.1
  have h1 : 0 < W'.heap.size := by
    rcases Nat.eq_zero_or_pos W'.heap.size with h2 | h2
    · rw [Array.getElem?_eq_none (by omega), Array.getElem?_eq_getElem h.1] at h0
      cases h0
    · exact h2
  refine ⟨h1, fun i hi => ?_⟩
  rw [← h.2 i hi]
  simp only [World.cell?, h0]
theorem tab_size {W : World} (hcell : ∀ i : Nat, W.cell? ⟨0, i, none⟩ = table24[i]?) : 0 < W.heap.size := by
  rcases Nat.eq_zero_or_pos W.heap.size with h | h
  · have h2 := hcell 0
    have h3 : W.heap[0]? = none := Array.getElem?_eq_none (by omega)
    simp [World.cell?, h3, table24] at h2
  · exact h
def IsRow (k : IntKind) (w : World) (a : Option Addr) (len cap : Nat) (zs : List Int) : Prop :=
  (a = none ∧ len = 0 ∧ cap = 0 ∧ zs = []) ∨
  ∃ x, a = some x ∧ len ≤ cap ∧ cap ≤ maxLen ∧ zs.length = cap ∧ (∀ i, i < zs.length → w.cell? (x.add i) = some (.int k (zs.getD i 0))) ∧ ∀ n ∈ zs, (Lit.int k n).wf = true
theorem isRow_row {k : IntKind} {w : World} {a : Option Addr} {len cap : Nat} {zs : List Int} (h : IsRow k w a len cap zs) : ∃ xs : List Int, xs.length = len ∧ Row k a cap xs w ∧ ∀ n ∈ xs, (Lit.int k n).wf = true := by
  rcases h with ⟨rfl, rfl, rfl, rfl⟩ | ⟨x, rfl, h1, h2, h3, h4, h5⟩
  · exact ⟨[], rfl, Row_nil k 0 w, fun n hn => by cases hn⟩
  · have hl : (zs.take len).length = len := by rw [List.length_take]; omega
    refine ⟨zs.take len, hl, ⟨⟨rfl, by rw [hl]; exact Nat.le_trans h1 h2, fun hp => ⟨x, rfl, fun i u hi => ⟨[.int k u], rfl, rfl, fun m v hu => ?_⟩⟩⟩, by rw [hl]; exact h1⟩, fun n hn => h5 n (List.mem_of_mem_take hn)⟩
    match m, hu with
    | 0, hu =>
      cases hu
      have hi2 := (List.getElem?_eq_some_iff.1 hi).1
      rw [hl] at hi2
      rw [Nat.add_zero]
      show w.cell? (x.add (i * 1)) = _
      rw [Nat.mul_one, h4 i (by omega)]
      rw [List.getElem?_take, if_pos hi2] at hi
      rw [List.getD_eq_getElem?_getD, hi]
      rfl
    | m + 1, hu => simp at hu
theorem all_foot {F : Fact} {W : World} (hF : F W) (hb : ∀ W' : World, Below W.heap.size W W' → F W') (hh : ∀ W1 W2 : World, W1.heap = W2.heap → F W1 → F W2) : Foot F W (fun k => k ∉ ([] : List Nat)) := by
  intro W' hW
  have hsz : W.heap.size ≤ W'.heap.size := by
    rcases Nat.eq_zero_or_pos W.heap.size with h | h
    · omega
    · have h1 := hW (W.heap.size - 1) (by simp) (by omega)
      rcases Nat.lt_or_ge (W.heap.size - 1) W'.heap.size with h2 | h2
      · omega
      · rw [Array.getElem?_eq_none h2, Array.getElem?_eq_getElem (by omega)] at h1
        cases h1
  exact hh { W with heap := W'.heap } W' rfl (hb { W with heap := W'.heap } ⟨rfl, rfl, rfl, hsz, fun k hk => hW k (by simp) hk⟩)
theorem row_foot {k : IntKind} {A : Option Addr} {c : Nat} {xs : List Int} {W : World} (h : Row k A c xs W) : Foot (Row k A c xs) W (fun k => k ∉ ([] : List Nat)) :=
  all_foot h (fun W' hb => ⟨Kd.C_below h.1 hb, h.2⟩) (fun W1 W2 he hr => by
    obtain ⟨⟨h1, h2, h3⟩, h4⟩ := hr
    refine ⟨⟨h1, h2, fun hp => ?_⟩, h4⟩
    obtain ⟨ad, e, h5⟩ := h3 hp
    refine ⟨ad, e, fun i x hi => ?_⟩
    obtain ⟨cs, h6, h7, h8⟩ := h5 i x hi
    refine ⟨cs, h6, h7, fun m u hu => ?_⟩
    have := h8 m u hu
    simp only [World.cell?] at this ⊢
    rw [← he]
    exact this)
theorem ctV_all {P : Program} {f : FuncId} {args : List Value} {v : Value} {pre : List Fact} (h : CtV P f args pre v) {W : World} (hp : ∀ F ∈ pre, Foot F W (fun k => k ∉ ([] : List Nat))) : Calls P f args.toArray W fun e w' => e = .returned v ∧ Below W.heap.size W w' :=
  (h [] W (fun k hk => by cases hk) hp).mono (fun e w' ⟨_, h1, _, h2⟩ => ⟨h1, h2⟩)
theorem feet_nil {W : World} : ∀ F ∈ ([] : List Fact), Foot F W (fun k => k ∉ ([] : List Nat)) := fun F hF => by cases hF
theorem feet_cons {W : World} {G : Fact} {l : List Fact} (h : Foot G W (fun k => k ∉ ([] : List Nat))) (hl : ∀ F ∈ l, Foot F W (fun k => k ∉ ([] : List Nat))) : ∀ F ∈ G :: l, Foot F W (fun k => k ∉ ([] : List Nat)) := fun F hF => (List.mem_cons.1 hF).elim (fun e => e ▸ h) (hl F)
end Go.Proofs.YtgknelgplmohoaaDoor
end
section
namespace Go.Proofs.YtgknelgplmohoaaDoor
open Go.Proofs.YtgknelgplmohoaaDoor.G Go.Proofs.YtgknelgplmohoaaDoor.M Go.RowKit Go.Proofs.YtgknelgplmohoaaDoor.X Go.Proofs.YtgknelgplmohoaaDoorV.PrintWords Go.Proofs.YtgknelgplmohoaaDoorV.PrintLast
set_option linter.unusedVariables false
set_option linter.unusedSimpArgs false
theorem dig_u8 {xs : List Int} (h : ∀ n ∈ xs, (Lit.int .u8 n).wf = true) : Dig 256 xs := fun n hn => by
  have := h n hn
  simp [Lit.wf, IntKind.min, IntKind.max, IntKind.signed, IntKind.bits] at this
  omega
end Go.Proofs.YtgknelgplmohoaaDoor
end
