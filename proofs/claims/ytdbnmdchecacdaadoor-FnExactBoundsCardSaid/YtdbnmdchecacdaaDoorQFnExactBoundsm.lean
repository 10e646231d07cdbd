import Derived.Test.YtdbnmdchecacdaaDoorQFnExactBoundsl
section
namespace Go.Proofs.YtdbnmdchecacdaaDoor.M
open Go.RowKit Go.Proofs.YtdbnmdchecacdaaDoor.G Go.Proofs.YtdbnmdchecacdaaDoorV.PrintWords Go.Proofs.YtdbnmdchecacdaaDoorV.PrintLast Go.Proofs.YtdbnmdchecacdaaDoorV.PrintMore Go.Proofs.YtdbnmdchecacdaaDoor.PB
set_option linter.unusedVariables false
set_option linter.unusedSimpArgs false
def badI : Itv := ([], [], [], false, false)
theorem even_same (S : Nat) : (Int.tmod (loI S) 2 == 0) = (Go.bits .and .u64 (loI S) 1 == 0) := by
  have h := lo_lt S
  unfold loI
  rw [and1 _ h]
  rfl
section
variable {f : Int} {w : Nat}
theorem sb_bad {p : Prt} (hS : Ev (fun k => spec_Unpack.f k f (hiI w) (loI w)) p) (h2 : p.1 ≠ 2) (h3 : p.1 ≠ 3) : Ev (fun k => spec_Bounds.f k f (hiI w) (loI w)) badI := by
  have hb : (p.1 != 3) = true := bne_iff_ne.2 h3
  unfold spec_Bounds.f
  refine Ev.bind hS ?_
  simp only [if_neg h2]
  rw [hb]
  refine Ev.step (f := fun _ => some badI) (fun k => ?_) (Ev.now _)
  simp only [spec_Bounds.j0]
  rw [if_pos trivial]
  rfl
theorem ib_bad {p : Prt} {L : Int × Int × Int × Int × Int × Bool × Bool} (hL : impl_layoutOf.f f = some L) (hI : Ev (fun k => impl_Unpack.f k f (hiI w) (loI w)) p) (h2 : p.1 ≠ 2) (h3 : p.1 ≠ 3) : Ev (fun k => impl_Bounds.f k f (hiI w) (loI w)) badI := by
  have hb : (p.1 != 3) = true := bne_iff_ne.2 h3
  unfold impl_Bounds.f
  refine ev_bindc hL (Ev.bind hI ?_)
  simp only [if_neg h2]
  rw [hb]
  refine Ev.step (f := fun _ => some badI) (fun k => ?_) (Ev.now _)
  simp only [impl_Bounds.j0]
  rw [if_pos trivial]
  rfl
end
theorem bounds_fmt {P : Nat} {emin emax : Int} {W E : Nat} {ex : Bool} (h : Fmt P emin emax W E ex) (f : Int) (hS : spec_Describe.f f = some ((P : Int), emin, emax, (W : Int), (E : Int), ex)) (hI : impl_layoutOf.f f = some ((P : Int), emin, emax, (W : Int), (E : Int), ex, true)) (w : Nat) (hw : w < B128) :
    ∃ T : Itv, T.1.length ≤ 3000000 ∧ T.2.1.length ≤ 3000000 ∧ T.2.2.1.length ≤ 3000000 ∧ Ev (fun k => spec_Bounds.f k f (hiI w) (loI w)) T ∧ Ev (fun k => impl_Bounds.f k f (hiI w) (loI w)) T := by
  have s1 := unpS_ev h f hS w hw
  have i1 := unpI_ev h f hI w hw
  rcases unpN_fin h w with ⟨a, b⟩ | ⟨c, n2, S, q, hp, hc, g0, g1, g2, g3⟩
  · exact ⟨badI, by decide, by decide, by decide, sb_bad s1 a b, ib_bad hI i1 a b⟩
  rw [hp] at s1 i1
  obtain ⟨r, hr, D1, D2, D3⟩ := sspan_ev h f hS c n2 S q g0 g1 g2 g3
  obtain ⟨r', hr', N1, N2, N3⟩ := ib_j0 h c n2 S q g0 g1 g2 g3
  have e1 : outL r.1 = r'.1 := (IsNat.out D1.dig D1.norm D1.val).uniq N1
  have e2 : outL r.2.1 = r'.2.1 := (IsNat.out D2.dig D2.norm D2.val).uniq N2
  have e3 : outL r.2.2 = r'.2.2 := (IsNat.out D3.dig D3.norm D3.val).uniq N3
  have l1 := outL_length r.1
  have l2 := outL_length r.2.1
  have l3 := outL_length r.2.2
  have o1 := out_ev r.1 D1.dig (Nat.le_trans D1.len (by decide))
  have o2 := out_ev r.2.1 D2.dig (Nat.le_trans D2.len (by decide))
  have o3 := out_ev r.2.2 D3.dig (Nat.le_trans D3.len (by decide))
  rw [e1] at o1 l1
  rw [e2] at o2 l2
  rw [e3] at o3 l3
  refine ⟨(r'.1, r'.2.1, r'.2.2, (Go.bits .and .u64 (loI S) 1 == 0), true), Nat.le_trans l1 D1.len, Nat.le_trans l2 D2.len, Nat.le_trans l3 D3.len, ?_, ?_⟩
  · have hj : Ev (fun k => spec_Bounds.j0 k f false c n2 (hiI S) (loI S) q) ((r'.1, r'.2.1, r'.2.2, (Go.bits .and .u64 (loI S) 1 == 0), true) : Itv) := by
      refine Ev.step (f := fun k => ((spec_l2Span.f k f c n2 (hiI S) (loI S) q).bind fun bt296 => ((spec_l1Out.f k bt296.1).bind fun t305 => ((spec_l1Out.f k bt296.2.1).bind fun t308 => ((spec_l1Out.f k bt296.2.2).bind fun t311 => (some (t305, t308, t311, ((Int.tmod (loI S) 2) == 0), true))))))) (fun k => ?_) (Ev.bind hr (Ev.bind o1 (Ev.bind o2 (Ev.bind o3 (ev_const ?_)))))
      · simp only [spec_Bounds.j0]
        rw [if_neg (by decide)]
      · rw [even_same]
    unfold spec_Bounds.f
    refine Ev.bind s1 ?_
    rcases hc with rfl | rfl
    · exact Ev.congr (fun k => rfl) hj
    · exact Ev.congr (fun k => rfl) hj
  · unfold impl_Bounds.f
    refine ev_bindc hI (Ev.bind i1 ?_)
    rcases hc with rfl | rfl
    · exact Ev.congr (fun k => rfl) hr'
    · exact Ev.congr (fun k => rfl) hr'
theorem bounds_same (f : Int) (w : Nat) (hw : w < B128) : ∃ T : Itv, T.1.length ≤ 3000000 ∧ T.2.1.length ≤ 3000000 ∧ T.2.2.1.length ≤ 3000000 ∧ Ev (fun k => spec_Bounds.f k f (hiI w) (loI w)) T ∧ Ev (fun k => impl_Bounds.f k f (hiI w) (loI w)) T := by
  by_cases h0 : f = 0
  · subst h0; exact bounds_fmt fmt0 0 rfl rfl w hw
  by_cases h1 : f = 1
  · subst h1; exact bounds_fmt fmt1 1 rfl rfl w hw
  by_cases h2 : f = 2
  · subst h2; exact bounds_fmt fmt2 2 rfl rfl w hw
  by_cases h3 : f = 3
  · subst h3; exact bounds_fmt fmt3 3 rfl rfl w hw
  obtain ⟨s1, i1⟩ := unpack_none f w h0 h1 h2 h3
  have hI : impl_layoutOf.f f = some (0, 0, 0, 0, 0, false, false) := by
    unfold impl_layoutOf.f
    rw [if_neg h0, if_neg h1, if_neg h2, if_neg h3]
  exact ⟨badI, by decide, by decide, by decide, sb_bad s1 (show (0 : Int) ≠ 2 by decide) (show (0 : Int) ≠ 3 by decide), ib_bad hI i1 (show (0 : Int) ≠ 2 by decide) (show (0 : Int) ≠ 3 by decide)⟩
theorem eqI_same (T : Itv) (h1 : T.1.length ≤ 3000000) (h2 : T.2.1.length ≤ 3000000) (h3 : T.2.2.1.length ≤ 3000000) : Ev (fun k => laws_eqInterval.f k T.1 T.2.1 T.2.2.1 T.2.2.2.1 T.2.2.2.2 T.1 T.2.1 T.2.2.1 T.2.2.2.1 T.2.2.2.2) true := by
  unfold laws_eqInterval.f
  refine Ev.bind (eqU_same T.1 (by omega)) ?_
  simp only [if_true]
  refine Ev.bind (eqU_same T.2.1 (by omega)) ?_
  simp only [if_true]
  refine Ev.bind (eqU_same T.2.2.1 (by omega)) ?_
  simp only [if_true, bne_self_eq_false, Bool.false_eq_true, if_false]
  exact Ev.now _
theorem markI_ev (a b d : List Int) (x y : Bool) (h1 : a.length ≤ 3000000) (h2 : b.length ≤ 3000000) (h3 : d.length ≤ 3000000) : Ev (fun k => laws_markInterval.f k a b d x y 1) (1 + (a.length : Int) + b.length + d.length, marks 1 a.length, marks (1 + a.length) b.length, marks (1 + a.length + b.length) d.length) := by
  unfold laws_markInterval.f
  exact Ev.bind (mark_ev a 1 (by omega) (by omega)) (Ev.bind (mark_ev b _ (by omega) (by omega)) (Ev.bind (mark_ev d _ (by omega) (by omega)) (Ev.now _)))
theorem heldI_ev (a b d : Nat) (x y : Bool) (h1 : a ≤ 3000000) (h2 : b ≤ 3000000) (h3 : d ≤ 3000000) : Ev (fun k => laws_heldInterval.f k (marks 1 a) (marks (1 + a) b) (marks (1 + a + b) d) x y 1) (1 + (a : Int) + b + d) := by
  unfold laws_heldInterval.f
  refine Ev.bind (held_ev 1 a (by omega) (by omega)) ?_
  simp only [if_neg (show ¬ ((1 : Int) + a < 0) by omega)]
  refine Ev.bind (held_ev (1 + a) b (by omega) (by omega)) ?_
  simp only [if_neg (show ¬ ((1 : Int) + a + b < 0) by omega)]
  refine Ev.bind (held_ev (1 + a + b) d (by omega) (by omega)) ?_
  simp only [if_neg (show ¬ ((1 : Int) + a + b + d < 0) by omega)]
  exact Ev.now _
theorem bounds_law (f : Int) (w : Nat) (hw : w < B128) : Ev (fun k => laws_FnExactBounds.f k f (hiI w) (loI w)) true := by
  obtain ⟨T, h1, h2, h3, hs, hi⟩ := bounds_same f w hw
  have he := eqI_same T h1 h2 h3
  have hm := markI_ev T.1 T.2.1 T.2.2.1 T.2.2.2.1 T.2.2.2.2 h1 h2 h3
  have hh := heldI_ev T.1.length T.2.1.length T.2.2.1.length T.2.2.2.1 T.2.2.2.2 h1 h2 h3
  have j3 : Ev (fun k => laws_FnExactBounds.j3 k (1 + (T.1.length : Int) + T.2.1.length + T.2.2.1.length) false (marks 1 T.1.length) (marks (1 + T.1.length) T.2.1.length) (marks (1 + T.1.length + T.2.1.length) T.2.2.1.length) T.2.2.2.1 T.2.2.2.2) true := by
    refine Ev.step (fun k => by simp only [laws_FnExactBounds.j3]; exact if_neg (by decide)) (Ev.bind hh ?_)
    simp only [if_neg (show ¬ ((1 : Int) + T.1.length + T.2.1.length + T.2.2.1.length < 0) by omega), if_true]
    exact Ev.now _
  have j2 : Ev (fun k => laws_FnExactBounds.j2 k f (1 + (T.1.length : Int) + T.2.1.length + T.2.2.1.length) (1 + (T.1.length : Int) + T.2.1.length + T.2.2.1.length) (hiI w) (loI w) T.1 T.2.1 T.2.2.1 T.2.2.2.1 T.2.2.2.2 (marks 1 T.1.length) (marks (1 + T.1.length) T.2.1.length) (marks (1 + T.1.length + T.2.1.length) T.2.2.1.length) T.2.2.2.1 T.2.2.2.2) true := by
    refine Ev.step (f := fun k => (impl_Bounds.f k f (hiI w) (loI w)).bind fun bt535 => ((laws_eqInterval.f k bt535.1 bt535.2.1 bt535.2.2.1 bt535.2.2.2.1 bt535.2.2.2.2 T.1 T.2.1 T.2.2.1 T.2.2.2.1 T.2.2.2.2).bind fun t547 => (laws_FnExactBounds.j3 k (1 + (T.1.length : Int) + T.2.1.length + T.2.2.1.length) (!t547) (marks 1 T.1.length) (marks (1 + T.1.length) T.2.1.length) (marks (1 + T.1.length + T.2.1.length) T.2.2.1.length) T.2.2.2.1 T.2.2.2.2))) (fun k => ?_) (Ev.bind hi (Ev.bind he j3))
    simp only [laws_FnExactBounds.j2]
    rw [if_neg (show ¬ ((1 : Int) + T.1.length + T.2.1.length + T.2.2.1.length < 0) by omega), if_pos trivial]
    rfl
  have j1 : Ev (fun k => laws_FnExactBounds.j1 k f (1 + (T.1.length : Int) + T.2.1.length + T.2.2.1.length) (hiI w) (loI w) T.1 T.2.1 T.2.2.1 T.2.2.2.1 T.2.2.2.2 (marks 1 T.1.length) (marks (1 + T.1.length) T.2.1.length) (marks (1 + T.1.length + T.2.1.length) T.2.2.1.length) T.2.2.2.1 T.2.2.2.2) true :=
    Ev.step (fun k => by simp only [laws_FnExactBounds.j1]; exact rfl) (Ev.bind hh j2)
  have j0 : Ev (fun k => laws_FnExactBounds.j0 k f false (hiI w) (loI w) T.1 T.2.1 T.2.2.1 T.2.2.2.1 T.2.2.2.2 T.1 T.2.1 T.2.2.1 T.2.2.2.1 T.2.2.2.2) true :=
    Ev.step (fun k => by simp only [laws_FnExactBounds.j0]; exact if_neg (by decide)) (Ev.bind hm j1)
  exact Ev.congr (f := fun k => (spec_Bounds.f k f (hiI w) (loI w)).bind fun a => (impl_Bounds.f k f (hiI w) (loI w)).bind fun b => (laws_eqInterval.f k b.1 b.2.1 b.2.2.1 b.2.2.2.1 b.2.2.2.2 a.1 a.2.1 a.2.2.1 a.2.2.2.1 a.2.2.2.2).bind fun t => laws_FnExactBounds.j0 k f (!t) (hiI w) (loI w) a.1 a.2.1 a.2.2.1 a.2.2.2.1 a.2.2.2.2 b.1 b.2.1 b.2.2.1 b.2.2.2.1 b.2.2.2.2) (fun k => rfl) (Ev.bind hs (Ev.bind hi (Ev.bind he j0)))
end Go.Proofs.YtdbnmdchecacdaaDoor.M
end
