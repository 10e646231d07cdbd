/- For every int and all parts (a class, a sign, a significand of 128 bits and an exponent, each any value of its type) the program's Pack returns what the reference's Pack returns: the word and whether there is one. Conditions: the table of formats reads as its text lays it, as the row says. -/
import Derived.Test.YtdbnmdchecacdaaDoorTie
import Derived.Test.YtdbnmdchecacdaaDoorCards
import Derived.Test.YtdbnmdchecacdaaDoorQFnExactPackp
section
namespace Go.Proofs.YtdbnmdchecacdaaDoor
open Go.Proofs.YtdbnmdchecacdaaDoor.G Go.Proofs.YtdbnmdchecacdaaDoor.M Go.Proofs.YtdbnmdchecacdaaDoor.PL Go.ChangeShapes Go.WideShapes Go.ChangeAt Go.WideMaps Go.WideElems Go.RowKit Go.Joins Go.Proofs.YtdbnmdchecacdaaDoor.X
set_option linter.unusedVariables false
set_option linter.unusedSimpArgs false
theorem cellsWord : Tryd.prog.cellsOf 24 = 2 := by kernel_rfl
theorem cellsParts : Tryd.prog.cellsOf 35 = 5 := by kernel_rfl
theorem cellsU : Tryd.prog.cellsOf 22 = 1 := by kernel_rfl
set_option maxRecDepth 100000 in
theorem open_parts {H : Type} {enc : TypeId × Value → H} {w : World} {base b0 : Nat} {sp : Nat → Bool} {held : Bool} {r : Reach} {v : Value} {d : DataW H} {p : List MemPlace} (hv : Value.okWide Tryd.prog w r b0 35 v) (h : DataW.Trod enc Tryd.prog w base sp held 35 v d p) :
    ∃ (c : Int) (n : Bool) (a b q : Int), v = .agg #[.int .i64 c, .bool n, .int .u64 a, .int .u64 b, .int .i64 q] ∧ d = .agg [.lit (.int .i64 c), .lit (.bool n), .agg [.lit (.int .u64 a), .lit (.int .u64 b)], .lit (.int .i64 q)] ∧ p = [] ∧
      (Lit.int .i64 c).wf = true ∧ (Lit.int .u64 a).wf = true ∧ (Lit.int .u64 b).wf = true ∧ (Lit.int .i64 q).wf = true := by
  obtain ⟨cs, rfl, hsz⟩ := okWide_struct Tryd.underlying35 hv
  obtain ⟨l⟩ := cs
  obtain ⟨fuel, hf⟩ := h
  obtain ⟨xs, m, _, hx, hl, hlen, hg⟩ := DataW.trod_struct Tryd.underlying35 hf
  have h0 : DataW.trod enc Tryd.prog w base sp held m 3 ((l.drop 0).take (Tryd.prog.cellsOf 3)) = xs[0]? := hg 0 _ rfl
  rw [cellsInt] at h0
  have h1 : DataW.trod enc Tryd.prog w base sp held m 4 ((l.drop 1).take (Tryd.prog.cellsOf 4)) = xs[1]? := hg 1 _ rfl
  rw [cellsBool] at h1
  have h2 : DataW.trod enc Tryd.prog w base sp held m 24 ((l.drop 2).take (Tryd.prog.cellsOf 24)) = xs[2]? := hg 2 _ rfl
  rw [cellsWord] at h2
  have h3 : DataW.trod enc Tryd.prog w base sp held m 3 ((l.drop 4).take (Tryd.prog.cellsOf 3)) = xs[3]? := hg 3 _ rfl
  rw [cellsInt] at h3
  match l, (show l.length = 5 from hsz.trans cellsParts) with
  | [v0, v1, v2, v3, v4], _ =>
    match xs, hlen with
    | [x0, x1, x2, x3], _ =>
      obtain ⟨n0, e0, rfl, k0⟩ := DataW.trod_int Tryd.underlying3 h0
      obtain ⟨n1, e1, rfl⟩ := DataW.trod_bool Tryd.underlying4 h1
      obtain ⟨n3, e3, rfl, k3⟩ := DataW.trod_int Tryd.underlying3 h3
      have h2' : DataW.trod enc Tryd.prog w base sp held m 24 [v2, v3] = some x2 := h2
      obtain ⟨ys, m2, _, hy, hyl, hylen, hyg⟩ := DataW.trod_struct Tryd.underlying24 h2'
      have g0 : DataW.trod enc Tryd.prog w base sp held m2 22 (([v2, v3].drop 0).take (Tryd.prog.cellsOf 22)) = ys[0]? := hyg 0 _ rfl
      rw [cellsU] at g0
      have g1 : DataW.trod enc Tryd.prog w base sp held m2 22 (([v2, v3].drop 1).take (Tryd.prog.cellsOf 22)) = ys[1]? := hyg 1 _ rfl
      rw [cellsU] at g1
      match ys, hylen with
      | [y0, y1], _ =>
        obtain ⟨a0, f0, rfl, j0⟩ := DataW.trod_int Tryd.underlying22 g0
        obtain ⟨a1, f1, rfl, j1⟩ := DataW.trod_int Tryd.underlying22 g1
        simp at e0 e1 e3 f0 f1
        subst e0 e1 e3 f0 f1
        subst hy
        simp at hx
        obtain ⟨rfl, rfl⟩ := hx
        exact ⟨n0, n1, a0, a1, n3, rfl, rfl, rfl, k0, j0, j1, k3⟩
set_option maxRecDepth 100000 in
theorem shut_parts {H : Type} (enc : TypeId × Value → H) (w : World) (base : Nat) (sp : Nat → Bool) (held : Bool) {c : Int} {n : Bool} {a b q : Int} (k0 : (Lit.int .i64 c).wf = true) (j0 : (Lit.int .u64 a).wf = true) (j1 : (Lit.int .u64 b).wf = true) (k3 : (Lit.int .i64 q).wf = true) :
    DataW.Trod enc Tryd.prog w base sp held 35 (.agg #[.int .i64 c, .bool n, .int .u64 a, .int .u64 b, .int .i64 q]) (.agg [.lit (.int .i64 c), .lit (.bool n), .agg [.lit (.int .u64 a), .lit (.int .u64 b)], .lit (.int .i64 q)]) [] := by
  have e1 : DataW.trod enc Tryd.prog w base sp held 1 3 [.int .i64 c] = some (.lit (.int .i64 c), []) := by simp [DataW.trod, Tryd.underlying3, k0]
  have e2 : DataW.trod enc Tryd.prog w base sp held 1 3 [.int .i64 q] = some (.lit (.int .i64 q), []) := by simp [DataW.trod, Tryd.underlying3, k3]
  have e3 : DataW.trod enc Tryd.prog w base sp held 1 4 [.bool n] = some (.lit (.bool n), []) := by simp [DataW.trod, Tryd.underlying4]
  have e4 : DataW.trod enc Tryd.prog w base sp held 1 22 [.int .u64 a] = some (.lit (.int .u64 a), []) := by simp [DataW.trod, Tryd.underlying22, j0]
  have e5 : DataW.trod enc Tryd.prog w base sp held 1 22 [.int .u64 b] = some (.lit (.int .u64 b), []) := by simp [DataW.trod, Tryd.underlying22, j1]
  have e6 : DataW.trod enc Tryd.prog w base sp held 2 24 [.int .u64 a, .int .u64 b] = some (.agg [.lit (.int .u64 a), .lit (.int .u64 b)], []) :=
    trod_struct2_mk (y0 := (.lit (.int .u64 a), [])) (y1 := (.lit (.int .u64 b), [])) Tryd.underlying24 cellsWord.symm e4 e5
  have up : ∀ {t : TypeId} {cs : List Value} {x : DataW H × List MemPlace}, DataW.trod enc Tryd.prog w base sp held 1 t cs = some x → DataW.trod enc Tryd.prog w base sp held 2 t cs = some x := fun h => DataW.trod_le (by decide) h
  refine ⟨3, ?_⟩
  exact trod_struct_mk (xs := [(.lit (.int .i64 c), []), (.lit (.bool n), []), (.agg [.lit (.int .u64 a), .lit (.int .u64 b)], []), (.lit (.int .i64 q), [])]) Tryd.underlying35 cellsParts.symm (by
    show List.mapM _ [_, _, _, _] = _
    have hL : (Value.agg #[.int .i64 c, .bool n, .int .u64 a, .int .u64 b, .int .i64 q]).cells.toList = ([.int .i64 c, .bool n, .int .u64 a, .int .u64 b, .int .i64 q] : List Value) := rfl
    simp only [List.mapM_cons, List.mapM_nil, hL]
    have a1 : DataW.trod enc Tryd.prog w base sp held 2 3 ((([.int .i64 c, .bool n, .int .u64 a, .int .u64 b, .int .i64 q] : List Value).drop 0).take (Tryd.prog.cellsOf 3)) = some (.lit (.int .i64 c), []) := by rw [cellsInt]; exact up e1
    have a2 : DataW.trod enc Tryd.prog w base sp held 2 4 ((([.int .i64 c, .bool n, .int .u64 a, .int .u64 b, .int .i64 q] : List Value).drop 1).take (Tryd.prog.cellsOf 4)) = some (.lit (.bool n), []) := by rw [cellsBool]; exact up e3
    have a3 : DataW.trod enc Tryd.prog w base sp held 2 24 ((([.int .i64 c, .bool n, .int .u64 a, .int .u64 b, .int .i64 q] : List Value).drop 2).take (Tryd.prog.cellsOf 24)) = some (.agg [.lit (.int .u64 a), .lit (.int .u64 b)], []) := by rw [cellsWord]; exact e6
    have a4 : DataW.trod enc Tryd.prog w base sp held 2 3 ((([.int .i64 c, .bool n, .int .u64 a, .int .u64 b, .int .i64 q] : List Value).drop 4).take (Tryd.prog.cellsOf 3)) = some (.lit (.int .i64 q), []) := by rw [cellsInt]; exact up e2
    rw [a1, a2, a3, a4]
    rfl)
theorem wf_i64 {x : Int} (h : (Lit.int .i64 x).wf = true) : -9223372036854775808 ≤ x ∧ x ≤ 9223372036854775807 := by
  simp [Lit.wf, IntKind.min, IntKind.max, IntKind.signed, IntKind.bits] at h
  omega
set_option maxRecDepth 100000 in
theorem lifted (os : Os) (started : os.Started) (H : Type) (enc : TypeId × Value → H) :
    ReturnsInHanded {} Tryd.checked os 5 .any (fun w args => (Rows.fnExactPackSpec.pre enc Tryd.prog Tryd.f5 [] false w args ∧ laidMetH Tryd.prog lst w) ∧ sizedMet enc Tryd.prog Tryd.f5 (OpenSpec.ofChange Rows.fnExactPackSpec) false w args)
      (Rows.fnExactPackSpec.post enc Tryd.prog Tryd.f5 false true false false) := by
  refine returnsInHanded_of_change_and (C := Tryd.checked) (X := fun w _ => laidMetH Tryd.prog lst w) (fun _ _ _ hh h => h.of_heap hh) own started (by kernel_rfl) Tryd.func5
    (ChangeSpec.witness_shaped (enc := enc) (C := Tryd.checked) (os := os) (X := fun w _ => laidMetH Tryd.prog lst w) false (World.doorLaid Tryd.prog 400 os) #[.int .i64 0, .agg #[.int .i64 0, .bool false, .int .u64 0, .int .u64 0, .int .i64 0]] 8 rfl (World.shaped_of_RefB (by kernel_rfl) (by kernel_rfl)) (by kernel_rfl) (by kernel_rfl) (by kernel_rfl) (door_met os _)) ?_
  intro W base args ds gs before hval0 hW _ _ hL _
  have hval : ∀ (j : Nat) t v, Tryd.f5.params[j]? = some t → args[j]? = some v → Value.okWide Tryd.prog W .any base t v := hval0
  have hW' := hW
  obtain ⟨p, q, hA0, hV0, rfl, hfz, hnd⟩ := hW
  have hA : DataW.TrodAll enc Tryd.prog W 0 (fun _ => true) true Tryd.f5.params.toList args.toList ds p := hA0
  have hV : DataW.TrodVars enc Tryd.prog W (fun _ => true) ["loop.example/s01493/impl.formats"] gs q := hV0
  rw [Tryd.params5] at hA hval
  obtain ⟨v0, v1, d0, d1, p0, p1, rfl, rfl, rfl, h0, h1⟩ := trodAll_two hA
  obtain ⟨f, rfl, rfl, rfl, wf⟩ := open_int Tryd.underlying3 (hval 0 3 v0 rfl rfl) h0
  obtain ⟨c, neg, a, b, qq, rfl, rfl, rfl, wc, wa, wb, wq⟩ := open_parts (hval 1 35 v1 rfl rfl) h1
  obtain ⟨g, t, cs, fuel, d, p', rfl, hg, ht, hvar, hd, rfl⟩ := trodVars_one hV
  obtain rfl := Option.some.inj (gForm.symm.trans hg)
  obtain rfl := Option.some.inj (tForm.symm.trans ht)
  obtain rfl : cs = table24 := Option.some.inj (hvar.symm.trans (cells_of_laid hL))
  obtain ⟨rfl, rfl⟩ := DataW.Trod.unique (v := .agg table24) ⟨fuel, hd⟩ ⟨4, reads_table enc W _⟩
  clear hA0 hV0 hval0
  simp only [List.append_nil, List.nil_append] at hW'
  have hcell : ∀ i : Nat, W.cell? ⟨0, i, none⟩ = table24[i]? := fun i => World.var?_cell hg hvar i
  have hs : 0 < W.heap.size := tab_size hcell
  have hT : Tabled W := ⟨hs, fun i _ => hcell i⟩
  obtain ⟨n, hn, rfl, rfl⟩ := word_split wa wb
  refine (ctV_tab (ct_laws_FnExactPack f c neg n hn qq (wf_i64 wq)) hT).mono fun e W' ⟨he, bel⟩ => ?_
  subst he
  have hvar' : W'.var? Tryd.prog "loop.example/s01493/impl.formats" = some table24 := by
    have hb := bel.block 0 hs
    rw [← hvar]
    simp only [World.var?, hg, Option.bind_some, hb]
  exact ⟨_, rfl, _, _, _, [], _, _, hW', trodAll_mk1 (shut_bool Tryd.underlying4 _), trodAll_mk2 (shut_int Tryd.underlying3 wf) (shut_parts enc W' 0 _ true wc wa wb wq), ⟨0, 144, table24, 4, [], [], hg, ht, hvar', reads_table enc W' _, rfl, rfl⟩, bel.frame _, fun h => by cases h⟩
theorem row_holds : Rows.FnExactPackSaid :=
  OpenClaim.holds_of_wide 5 Tryd.f5 rfl rfl rfl rfl rfl rfl rfl ⟨rfl, rfl, rfl, rfl, rfl⟩ rfl rfl rfl rfl rfl (by kernel_rfl) Tryd.func5 (by kernel_rfl)
    (of_decide_eq_true (by kernel_rfl)) (by unfold Func.isWrapper; first | (rw [if_pos (by decide +kernel)]; kernel_rfl) | (rw [if_neg (by decide +kernel)]; exact ⟨rfl, rfl⟩))
    (fun os started H enc _ => lifted os started H enc)
theorem fnExactPack_holds : Rows.FnExactPackCardSaid :=
  Claim7.holds_tied_plain_at .later [] [.data] true (true, "1ce686cdb28934bb7b29088d5f764df3ddb99739d645c5d1bb8ff072b579d396") true
    row_holds (fun _ h => by cases h) (by kernel_rfl) (fun _ h => by cases h) fnExactPack_row_tie rfl ⟨rfl, rfl⟩ (by kernel_rfl) rfl
    (fun f fn hf hfn => by
      obtain rfl : f = 5 := Option.some.inj ((show Tryd.prog.funcNamed "loop.example/s01493/laws.FnExactPack" = some 5 by kernel_rfl).symm.trans hf) |>.symm
      obtain rfl : fn = Tryd.f5 := (Option.some.inj (Tryd.func5.symm.trans hfn)).symm
      exact ⟨by kernel_rfl, fun j t ht => by
        rw [Tryd.params5] at ht
        have hm : t ∈ [3, 35] := by simpa using Array.mem_of_getElem? ht
        have hall : ([3, 35].all fun u => !Tryd.prog.wantsStandIn u) = true := by kernel_rfl
        exact (show Tryd.prog.wantsStandIn t = false by simpa using List.all_eq_true.1 hall t hm)⟩)
    (by kernel_rfl)
end Go.Proofs.YtdbnmdchecacdaaDoor
end
