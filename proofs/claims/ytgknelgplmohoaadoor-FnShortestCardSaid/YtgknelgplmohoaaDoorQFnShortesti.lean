import Derived.Outline
import Derived.Test.YtgknelgplmohoaaDoorQFnShortesth
section
namespace Go.Proofs.YtgknelgplmohoaaDoor.G
open Go.RowKit Go.Proofs.YtgknelgplmohoaaDoorV.PrintWords Go.Proofs.YtgknelgplmohoaaDoorV.PrintLast
set_option linter.unusedVariables false
set_option linter.unusedSimpArgs false
def trimL (l : List Int) : List Int := (l.reverse.dropWhile (· == 0)).reverse
theorem trimL_snoc_zero (l : List Int) : trimL (l ++ [0]) = trimL l := by simp [trimL]
theorem trimL_snoc_ne (l : List Int) (x : Int) (h : x ≠ 0) : trimL (l ++ [x]) = l ++ [x] := by simp [trimL, h]
theorem trimL_take (l : List Int) : ∃ k, k ≤ l.length ∧ trimL l = l.take k := by
  have h : (l.reverse.dropWhile (· == 0)) <:+ l.reverse := List.dropWhile_suffix _
  unfold trimL
  generalize l.reverse.dropWhile (· == 0) = d at h ⊢
  obtain ⟨t, ht⟩ := h
  have h2 := congrArg List.reverse ht
  rw [List.reverse_append, List.reverse_reverse] at h2
  refine ⟨d.length, ?_, ?_⟩
  · have := congrArg List.length h2
    simp at this
    omega
  · rw [← h2]
    simp
theorem trimL_length (l : List Int) : (trimL l).length ≤ l.length := by
  obtain ⟨k, hk, h⟩ := trimL_take l
  rw [h, List.length_take]
  omega
theorem trimL_eq_take (l : List Int) : trimL l = l.take (trimL l).length := by
  obtain ⟨k, hk, h⟩ := trimL_take l
  rw [h, List.length_take, Nat.min_eq_left hk]
theorem take_snoc_rd (l : List Int) (k : Nat) (h : k < l.length) : l.take (k + 1) = l.take k ++ [rd l k] := by
  rw [List.take_succ_eq_append_getElem h]
  simp [rd, h]
theorem trimL_idem (l : List Int) : trimL (trimL l) = trimL l := by
  unfold trimL
  rw [List.reverse_reverse]
  congr 1
  generalize l.reverse = m
  induction m with
  | nil => rfl
  | cons a m ih =>
    by_cases h : (a == 0) = true
    · simp [List.dropWhile_cons, h, ih]
    · simp [List.dropWhile_cons, h]
end Go.Proofs.YtgknelgplmohoaaDoor.G
end
