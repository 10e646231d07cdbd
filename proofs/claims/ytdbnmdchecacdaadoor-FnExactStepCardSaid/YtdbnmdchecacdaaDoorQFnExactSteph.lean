import Derived.Outline
import Derived.Test.YtdbnmdchecacdaaDoorQFnExactStepg
section
namespace Go.Proofs.YtdbnmdchecacdaaDoor.G
open Go.RowKit Go.Proofs.YtdbnmdchecacdaaDoorV.PrintWords Go.Proofs.YtdbnmdchecacdaaDoorV.PrintLast Go.Proofs.YtdbnmdchecacdaaDoorV.PrintMore
set_option linter.unusedVariables false
set_option linter.unusedSimpArgs false
def trimL (l : List Int) : List Int := (l.reverse.dropWhile (· == 0)).reverse
theorem trimL_snoc_zero (l : List Int) : trimL (l ++ [0]) = trimL l := by simp [trimL]
theorem trimL_snoc_ne (l : List Int) (x : Int) (h : x ≠ 0) : trimL (l ++ [x]) = l ++ [x] := by simp [trimL, h]
theorem trimL_take (l : List Int) : ∃ k, k ≤ l.length ∧ trimL l = l.take k := by
  have h : (l.reverse.dropWhile (· == 0)) <:+ l.reverse := List.dropWhile_suffix _
  unfold trimL
  generalize l.reverse.dropWhile (· == 0) = d at h ⊢
  obtain ⟨t, ht⟩ := h
  have h2 := congrArg List.reverse ht
  rw [List.reverse_append, List.reverse_reverse] at h2
  refine ⟨d.length, ?_, ?_⟩
  · have := congrArg List.length h2
    simp at this
    omega
  · rw [← h2]
    simp
theorem trimL_length (l : List Int) : (trimL l).length ≤ l.length := by
  obtain ⟨k, hk, h⟩ := trimL_take l
  rw [h, List.length_take]
  omega
theorem trimL_eq_take (l : List Int) : trimL l = l.take (trimL l).length := by
  obtain ⟨k, hk, h⟩ := trimL_take l
  rw [h, List.length_take, Nat.min_eq_left hk]
theorem take_snoc_rd (l : List Int) (k : Nat) (h : k < l.length) : l.take (k + 1) = l.take k ++ [rd l k] := by
  rw [List.take_succ_eq_append_getElem h]
  simp [rd, h]
theorem trimL_step_zero (l : List Int) (k : Nat) (h : k < l.length) (h0 : rd l k = 0) : trimL (l.take (k + 1)) = trimL (l.take k) := by
  rw [take_snoc_rd l k h, h0, trimL_snoc_zero]
theorem trimL_step_ne (l : List Int) (k : Nat) (h : k < l.length) (h0 : rd l k ≠ 0) : trimL (l.take (k + 1)) = l.take (k + 1) := by
  rw [take_snoc_rd l k h, trimL_snoc_ne _ _ h0]
theorem trimL_idem (l : List Int) : trimL (trimL l) = trimL l := by
  unfold trimL
  rw [List.reverse_reverse]
  congr 1
  generalize l.reverse = m
  induction m with
  | nil => rfl
  | cons a m ih =>
    by_cases h : (a == 0) = true
    · simp [List.dropWhile_cons, h, ih]
    · simp [List.dropWhile_cons, h]
set_option maxHeartbeats 800000 in
theorem trimmed_calls (A : Option Addr) (n c : Nat) (l y : List Int) (w : World) (hn : n = l.length) (hy : y = trimL l) (hr : Kd.C (Kd.int .u64) w A l.length l) (hc : n ≤ c) :
    Calls Tryd.prog 103 #[.slice A n c] w fun e w' => e = .returned (.slice A y.length y.length) ∧ w = w' := by
  subst hn
  subst hy
  have hm : l.length ≤ 9223372036854775807 := hr.2.1
  have HR := Aside0.mk hr
  clear hr
  go_enter Tryd.func103, Tryd.ntmps103
  go_wp2
  go_loop [3] (fun v => ∃ k : Nat, v = .int .i64 k ∧ k ≤ l.length ∧ Aside0 (trimL (l.take k) = trimL l)) (fun v => (intOf v).toNat)
  case atStart => exact ⟨l.length, rfl, Nat.le_refl _, ⟨by rw [List.take_length]⟩⟩
  case round =>
    obtain ⟨k, rfl, hk, hT⟩ := hrel
    rcases Nat.eq_zero_or_pos k with h0 | h0
    · subst h0
      have hL : Aside0 (([] : List Int).length = (trimL l).length) := ⟨by rw [← hT.out]; rfl⟩
      go_wp2
      go_ret
      exact ⟨by rw [← hL.out]; rfl, rfl⟩
    · obtain ⟨j, rfl⟩ : ∃ j, k = j + 1 := ⟨k - 1, by omega⟩
      obtain ⟨ad, e, hx⟩ := Kd.at_int HR.out (j : Int) (by omega) (by omega)
      cases e
      simp only [Int.toNat_natCast] at hx
      by_cases h1 : rd l j = 0
      · have hs := trimL_step_zero l j (by omega) h1
        rw [hs] at hT
        have hb : (rd l j == 0) = true := by simp [h1]
        clear hs h1
        go_wp2
        go_round
        case rel => exact ⟨j, rfl, by omega, hT⟩
        case measure => simp [intOf]
      · have hs := trimL_step_ne l j (by omega) h1
        have hb : (rd l j == 0) = false := by simp [h1]
        have hL : Aside0 (j + 1 = (trimL l).length) := ⟨by rw [← hT.out, hs, List.length_take]; omega⟩
        clear hs h1
        go_wp2
        go_ret
        exact ⟨by rw [← hL.out]; rfl, rfl⟩
theorem R_cutn {e : Nat} {w : World} {base : Nat} {ok : Nat → Prop} {A : Option Addr} {n c m : Nat} {l : List Int} (h : (Kd.int .u64).R e w base ok (.slice A n c) l) (hm : m ≤ l.length) : (Kd.int .u64).R e w base ok (.slice A m m) (l.take m) := by
  obtain ⟨h0, inner, ho, hr⟩ := h
  have hml : (l.take m).length = m := by rw [List.length_take]; omega
  have hok : (Value.slice A m m).ownBlock = (Value.slice A n c).ownBlock := by cases A <;> rfl
  refine ⟨fun k hk => h0 k (by rw [← hok]; exact hk), inner.take (m * 1), ?_, ?_⟩
  · obtain ⟨h1, h2⟩ := ho
    refine ⟨by rw [List.length_take, h1, hml]; exact Nat.min_eq_left (Nat.mul_le_mul_right _ hm), ?_⟩
    rcases h2 with ⟨hv, hl⟩ | ⟨g, cap, cur, hv, hb, hg, hnc, hcm, hcs, ht⟩
    · injection hv with ha _ _
      left
      exact ⟨by rw [ha, show m = 0 by omega], by omega⟩
    · injection hv with ha hn hc
      subst ha; subst hc
      right
      refine ⟨g, m, cur, by rw [hml], hb, hg, by omega, by omega, Nat.le_trans (Nat.mul_le_mul_right _ (by omega)) hcs, ?_⟩
      rw [← ht, List.take_take, hml]
      congr 1
      exact (Nat.min_eq_left (Nat.mul_le_mul_right _ hm)).symm
  · have hr2 := Kd.reps_take (m := m) hr hm
    exact hr2.imp_ (fun _ _ hp => by rw [hok]; exact hp)
theorem R_trim {e : Nat} {w : World} {base : Nat} {ok : Nat → Prop} {A : Option Addr} {n c : Nat} {l : List Int} (h : (Kd.int .u64).R e w base ok (.slice A n c) l) : (Kd.int .u64).R e w base ok (.slice A (trimL l).length (trimL l).length) (trimL l) := by
  have h2 := R_cutn (m := (trimL l).length) h (trimL_length l)
  rwa [← trimL_eq_take] at h2
theorem info_u64 : (Tryd.prog.info? 22).map (fun i => (i.zero, i.size, i.bytes)) = some (some (.int .u64 0), 1, 8) := by kernel_rfl
theorem C_takeN {w : World} {A : Option Addr} {m : Nat} {l : List Int} (h : Kd.C (Kd.int .u64) w A l.length l) (hm : m ≤ l.length) : Kd.C (Kd.int .u64) w A m (l.take m) := by
  have := Kd.C_take h hm
  rwa [List.length_take, Nat.min_eq_left hm] at this
theorem copy_all (l : List Int) (n : Nat) (k : Int) (hk : k = n) (hn : n ≤ l.length) :
    (l.take n).take (min n (List.replicate k.toNat (0 : Int)).length) ++ (List.replicate k.toNat (0 : Int)).drop (min n (List.replicate k.toNat (0 : Int)).length) = l.take n := by
  subst hk
  simp [List.take_take]
def spec_l1Trim.f (l0 : List Int) : Option (List Int) := if l0.length ≤ 35184372088832 then some (trimL l0) else none
set_option maxHeartbeats 1600000 in
theorem spec_l1Trim.calls (A0 : Option Addr) (c0 : Nat) (l0 : List Int) (r : List Int) (w : World) (hr0 : Kd.C (Kd.int .u64) w A0 l0.length l0) (hc0 : l0.length ≤ c0) (h : spec_l1Trim.f l0 = some r) :
    Calls Tryd.prog 123 #[.slice A0 l0.length c0] w fun e w' => ∃ v0_ : Value, e = .returned (v0_) ∧ Kd.R (Kd.int .u64) 22 w' w.heap.size (fun _ => True) v0_ r ∧ Below w.heap.size w w' := by
  unfold spec_l1Trim.f at h
  by_cases hmax : l0.length ≤ 35184372088832
  case neg => rw [if_neg hmax] at h; cases h
  rw [if_pos hmax] at h
  obtain rfl := Option.some.inj h
  clear h
  have HR := Aside0.mk hr0
  clear hr0
  have tail : ∀ m : Nat, m = (trimL l0).length → m ≤ l0.length := fun m h => by rw [h]; exact trimL_length l0
  go_enter Tryd.func123, Tryd.ntmps123
  go_wp2
  go_loop [3] (fun v => ∃ k : Nat, v = .int .i64 k ∧ k ≤ l0.length ∧ Aside0 (trimL (l0.take k) = trimL l0)) (fun v => (intOf v).toNat)
  case atStart => exact ⟨l0.length, rfl, Nat.le_refl _, ⟨by rw [List.take_length]⟩⟩
  case round =>
    obtain ⟨k, rfl, hk, hT⟩ := hrel
    rcases Nat.eq_zero_or_pos k with h0 | h0
    · subst h0
      have hL : Aside0 (trimL l0 = l0.take 0) := ⟨by rw [← hT.out]; rfl⟩
      go_wp2_with (first | ((with_reducible refine gate_dst (N := 20) rfl ?_); refine Kd.R_make (Kd.int .u64) _ 22 rfl (N := 20) rfl 41 _ _ rfl (((0 : Nat) : Int)) rfl rfl Tryd.underlying41 (.int .u64 0) 8 info_u64 rfl (by decide) (by omega) 0 (ok := fun _ => True) (okp := fun _ => True) rfl (fun _ hk => hk) trivial (by omega) (by omega) (Below.refl _ _) (Nat.le_refl _) ?_; intro v w1 ho hb hg_ hnew_; have HO := Aside0.mk ho; have HB := Aside0.mk hb; clear ho hb hg_ hnew_) | ((with_reducible refine gate_dst (N := 25) rfl ?_); refine Kd.R_copy (0 : Int) _ rfl _ _ 41 41 22 rfl Tryd.underlying41 (by kernel_rfl) v _ _ _ _ _ _ rfl rfl HO.out (Kd.C_below (C_takeN (m := 0) HR.out (by omega)) HB.out) HB.out HB.out.size ?_; intro w2 ho hb hg_; have HO2 := Aside0.mk ho; have HB2 := Aside0.mk hb; clear ho hb hg_))
      go_ret
      exact ⟨v, rfl, by have h := HO2.out; rw [copy_all l0 0 _ rfl (by omega)] at h; rw [hL.out]; exact h, HB2.out⟩
    · obtain ⟨j, rfl⟩ : ∃ j, k = j + 1 := ⟨k - 1, by omega⟩
      obtain ⟨ad, e, hx⟩ := Kd.at_int HR.out (j : Int) (by omega) (by omega)
      cases e
      simp only [Int.toNat_natCast] at hx
      by_cases h1 : rd l0 j = 0
      · have hs := trimL_step_zero l0 j (by omega) h1
        rw [hs] at hT
        have hb : (rd l0 j == 0) = true := by simp [h1]
        clear hs h1
        go_wp2
        go_round
        case rel => exact ⟨j, rfl, by omega, hT⟩
        case measure => simp [intOf]
      · have hs := trimL_step_ne l0 j (by omega) h1
        have hb : (rd l0 j == 0) = false := by simp [h1]
        have hL : Aside0 (trimL l0 = l0.take (j + 1)) := ⟨by rw [← hT.out, hs]⟩
        clear hs h1
        go_wp2_with (first | ((with_reducible refine gate_dst (N := 20) rfl ?_); refine Kd.R_make (Kd.int .u64) _ 22 rfl (N := 20) rfl 41 _ _ rfl (((j + 1 : Nat) : Int)) rfl rfl Tryd.underlying41 (.int .u64 0) 8 info_u64 rfl (by decide) (by omega) 0 (ok := fun _ => True) (okp := fun _ => True) rfl (fun _ hk => hk) trivial (by omega) (by omega) (Below.refl _ _) (Nat.le_refl _) ?_; intro v w1 ho hb hg_ hnew_; have HO := Aside0.mk ho; have HB := Aside0.mk hb; clear ho hb hg_ hnew_) | ((with_reducible refine gate_dst (N := 25) rfl ?_); refine Kd.R_copy (0 : Int) _ rfl _ _ 41 41 22 rfl Tryd.underlying41 (by kernel_rfl) v _ _ _ _ _ _ rfl rfl HO.out (Kd.C_below (C_takeN (m := (j + 1)) HR.out (by omega)) HB.out) HB.out HB.out.size ?_; intro w2 ho hb hg_; have HO2 := Aside0.mk ho; have HB2 := Aside0.mk hb; clear ho hb hg_))
        go_ret
        exact ⟨v, rfl, by have h := HO2.out; rw [copy_all l0 (j + 1) _ rfl (by omega)] at h; rw [hL.out]; exact h, HB2.out⟩
end Go.Proofs.YtdbnmdchecacdaaDoor.G
end
