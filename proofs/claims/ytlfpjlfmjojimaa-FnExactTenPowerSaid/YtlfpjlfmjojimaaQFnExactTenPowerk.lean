import Derived.Conc.MuLone
import Derived.Test.YtlfpjlfmjojimaaQFnExactTenPowerj
section
namespace Go.Proofs.Ytlfpjlfmjojimaa.X
open Go.RowKit Go.Proofs.YtlfpjlfmjojimaaV.PrintWords Go.Proofs.YtlfpjlfmjojimaaV.PrintLast Go.Conc.Locks
set_option linter.unusedVariables false
set_option linter.unusedSimpArgs false
abbrev muL : MuLink := { lock := 61, unlock := 62, ilock := 70, iunlock := 71, lockSlow := 80, unlockSlow := 83, disable := 76, enable := 78, acquire := 79, relMerge := 81, cas32 := 77, add32 := 82, tMutex := 89, tIMutex := 87, tPMutex := 100, tPIMutex := 104, tPI32 := 106, tUP := 108, tNoCopy := 84, tU32 := 85 }
theorem muLib : MuLib Try.prog muL := by
  constructor <;> first | kernel_rfl | (intro w; kernel_rfl) | rfl
theorem cell0 {g : Nat} {v : Value} {r : List Value} {ty : TypeId} {w : World} (h : w.heap[g]? = some (.cells (v :: r).toArray ty (0, 0))) : w.cell? ⟨g, 0, none⟩ = some v ∧ w.frozen? ⟨g, 0, none⟩ = false := by
  simp [World.cell?, World.frozen?, h]
theorem set0 {X : Cx} {e : List (Nat × Value)} {g : Nat} {v u : Value} {r : List Value} {ty : TypeId} {fs : List Fact} {w : World} (h : Holds X ⟨e, [⟨g, v :: r, ty⟩], fs⟩ w) : Holds X ⟨e, [⟨g, u :: r, ty⟩], fs⟩ (w.setCell ⟨g, 0, none⟩ u) := by
  have hx := setB_ext (bs := [⟨g, v :: r, (ty : Ty)⟩]) (h := 0) (a := ⟨g, 0, none⟩) (v := u) (u := v) (t := ty) rfl rfl rfl rfl rfl h.box h.nodup
  exact h.ext hx e
theorem lock_ct (g : Nat) (q : Value) (r : List Value) (ty : TypeId) :
    CtM Try.prog 61 [.pointer (some ⟨g, 0, none⟩)] [⟨g, .int .i32 0 :: q :: r, ty⟩] [] (γ := Unit) (fun _ => .tuple #[]) (fun _ => [⟨g, .int .i32 1 :: q :: r, ty⟩]) (fun _ => []) := by
  intro B w hB hbs hnd hp
  obtain ⟨h1, h2⟩ := cell0 (hbs _ (List.mem_singleton.2 rfl))
  refine (Go.MuLone.lock_free muLib ⟨g, 0, none⟩ w h1 h2).mono ?_
  rintro e w' ⟨rfl, rfl⟩
  refine ⟨(), rfl, ?_⟩
  have h0 : Holds ⟨Try.prog, 0, B, ⟨w, [g], []⟩, none⟩ ⟨[], [⟨g, .int .i32 0 :: q :: r, ty⟩], []⟩ w :=
    ⟨Kept.of (Below.refl _ _), hbs, fun b hb => .inr (by rw [List.mem_singleton.1 hb]; exact List.mem_singleton.2 rfl), hnd, (fun F hF => by cases hF), hB⟩
  exact set0 h0
abbrev unlockD (g : Nat) : Deferred := ⟨.fn (.func 62) #[], #[.pointer (some ⟨g, 0, none⟩)]⟩
theorem leave_unlock {n : Nat} {B M : List Nat} {w0 : World} {fn : Func} {γ : Type} {val : γ → Value} {bs' : γ → List Box} {post : γ → List Fact} {env : List (Nat × Value)} {bs : List Box} {fs : List Fact} (h g : Nat) (q : Value) (r : List Value) (ty : TypeId) (g0 : γ) (m : List Bool) (hs : List Nat) (v : Value)
    (hv : v = val g0) (hm : bs' g0 = pick (setB bs h 0 (.int .i32 0)) m) (hsub : Sub (post g0) fs) (hb : bs[h]? = some ⟨g, .int .i32 1 :: q :: r, ty⟩ := by rfl)
    (ho : outN Try.prog fn ⟨env, setB bs h 0 (.int .i32 0), fs⟩ hs = some (v, fsts (psO (outN Try.prog fn ⟨env, setB bs h 0 (.int .i32 0), fs⟩ hs))) := by kernel_rfl) :
    RetL (Cx.push ⟨Try.prog, n, B, ⟨w0, M, []⟩, none⟩ (unlockD g)) fn (LeftM Try.prog B ⟨w0, M, []⟩ val bs' post) .ret ⟨env, bs, fs⟩ := by
  intro a w ha hw
  have hd : a.defers = [unlockD g] := ha.defers
  rw [hd]
  have hbw : w.heap[g]? = some (.cells (.int .i32 1 :: q :: r).toArray ty (0, 0)) := hw.box _ (List.mem_of_getElem? hb)
  obtain ⟨h1, h2⟩ := cell0 hbw
  refine leaves_cons (by intro h; cases h) (by kernel_rfl : _ = Result.ok (Next.enter 62 #[.pointer (some ⟨g, 0, none⟩)]) w) ((Go.MuLone.unlock_deferred muLib ⟨g, 0, none⟩ .returning w h1 h2).mono ?_)
  rintro e u' w' ⟨rfl, rfl, rfl⟩
  have hx : Holds ⟨Try.prog, n, B, ⟨w0, M, []⟩, none⟩ ⟨env, setB bs h 0 (.int .i32 0), fs⟩ (w.setCell ⟨g, 0, none⟩ (.int .i32 0)) := by
    have h3 := hw.ext (setB_ext (a := ⟨g, 0, none⟩) (v := .int .i32 0) (u := .int .i32 1) (t := ty) hb rfl rfl rfl rfl hw.box hw.nodup) env
    exact ⟨⟨h3.below.os, h3.below.tape, h3.below.output, h3.below.size, h3.below.block⟩, h3.box, h3.new, h3.nodup, h3.fact, h3.old⟩
  have ha2 : Agree (n, []) ⟨env, setB bs h 0 (.int .i32 0), fs⟩ ⟨a.tmps, []⟩ := ⟨ha.size, rfl, ha.env⟩
  exact left_end (P := Try.prog) ha2 hx g0 m hs _ (by rw [← fsts_dup, ← hv]; exact ho) hm hsub
end Go.Proofs.Ytlfpjlfmjojimaa.X
end
section
namespace Go.Proofs.Ytlfpjlfmjojimaa.M
open Go.RowKit Go.Proofs.Ytlfpjlfmjojimaa.G Go.Proofs.YtlfpjlfmjojimaaV.PrintWords Go.Proofs.YtlfpjlfmjojimaaV.PrintLast Go.Proofs.Ytlfpjlfmjojimaa.X
set_option linter.unusedVariables false
set_option linter.unusedSimpArgs false
theorem ct_sync_Mutex_Lock (g : Nat) (q : Value) (r : List Value) (ty : TypeId) :
  CtM Try.prog 61 [.pointer (some ⟨g, 0, none⟩)] [⟨g, .int .i32 0 :: q :: r, ty⟩] [] (γ := Unit) (fun _ => .tuple #[]) (fun _ => [⟨g, .int .i32 1 :: q :: r, ty⟩]) (fun _ => []) := lock_ct g q r ty
theorem ct_impl_newTens : CtM Try.prog 29 [] [] [] (γ := Nat × Nat) (fun g => .pointer (some ⟨g.1, 0, none⟩)) (fun g => [⟨g.2, [], .ob (.map #[] 0)⟩, ⟨g.1, [.int .i32 0, .int .u32 0, .map (some g.2)], 91⟩]) (fun _ => []) := by
 refine cm_of Try.func29 rfl (by kernel_rfl) (fun B w0 => ?_)
 refine xr [] [(0, .pointer none)] ?_
 refine xg ?_
 refine xbo 1 (fun g0 => Value.map (some g0)) (fun g0 => ⟨g0, [], Ty.ob (Obj.map #[] 0)⟩) (fun g0 => ?_)
 refine xn 2 [] [(2, .agg #[.int .i32 0, .int .u32 0, Value.map (some g0)])] ?_
 refine xb 3 [.int .i32 0, .int .u32 0, Value.map (some g0)] 91 (fun g1 => ?_)
 refine xz [] [(0, .pointer (some ⟨g1, 0, none⟩))] ?_
 refine SW_ret ?_
 refine xmeg (.pointer (some ⟨g1, 0, none⟩)) [] ?_
 exact ⟨(g1, g0), [true, true], rfl, rfl, zs0⟩
theorem ct_impl_tens_power (g gm : Nat) (k w : Int) (a b : Int) (c d : Int) (e : Int) (f h : Bool) (ct : CtV Try.prog 63 [.int .i64 k, .int .i64 w] [] (.agg #[.int .i64 a, .int .i64 b, .int .u64 c, .int .u64 d, .int .i64 e, .bool f, .bool h])) :
  CtM Try.prog 30 [.pointer (some ⟨g, 0, none⟩), .int .i64 k, .int .i64 w] [⟨gm, [], .ob (.map #[] 0)⟩, ⟨g, [.int .i32 0, .int .u32 0, .map (some gm)], 91⟩] [] (γ := Unit) (fun _ => .agg #[.int .i64 a, .int .i64 b, .int .u64 c, .int .u64 d, .int .i64 e, .bool f, .bool h])
   (fun _ => [⟨gm, [], .ob (.map #[⟨.agg #[.int .i64 k, .int .i64 w], .agg #[.int .i64 a, .int .i64 b, .int .u64 c, .int .u64 d, .int .i64 e, .bool f, .bool h], 0⟩] 1)⟩, ⟨g, [.int .i32 0, .int .u32 0, .map (some gm)], 91⟩]) (fun _ => []) := by
 refine cm_ofD Try.func30 rfl (by kernel_rfl) (fun B w0 M => ?_)
 refine SQ_cut (K := fun _ _ => False) (fun s => ∃ g0, Weak s ⟨[(0, .pointer (some ⟨g, 0, none⟩)), (1, .int .i64 k), (2, .int .i64 w), (6, .pointer (some ⟨g0, 0, none⟩))], [⟨gm, [], .ob (.map #[] 0)⟩, ⟨g, [.int .i32 0, .int .u32 0, .map (some gm)], 91⟩, ⟨g0, [.int .i64 0, .int .i64 0, .int .u64 0, .int .u64 0, .int .i64 0, .bool false, .bool false], 26⟩], []⟩) ?_ (fun _ _ _ _ _ _ z => z.elim) (fun s hw => ?_)
 ·refine SW_region ?_
  refine xb 6 [.int .i64 0, .int .i64 0, .int .u64 0, .int .u64 0, .int .i64 0, .bool false, .bool false] 26 (fun g0 => ?_)
  refine xz [] [] ?_
  refine ⟨(g0), xw zs0⟩
 obtain ⟨g0, hw⟩ := hw
 refine SQ_weak hw ?_
 clear hw
 refine SQ_cut (K := fun _ _ => False) (fun s => Weak s ⟨[(0, .pointer (some ⟨g, 0, none⟩)), (1, .int .i64 k), (2, .int .i64 w), (6, .pointer (some ⟨g0, 0, none⟩))], [⟨gm, [], .ob (.map #[] 0)⟩, ⟨g, [.int .i32 1, .int .u32 0, .map (some gm)], 91⟩, ⟨g0, [.int .i64 0, .int .i64 0, .int .u64 0, .int .u64 0, .int .i64 0, .bool false, .bool false], 26⟩], []⟩) ?_ (fun _ _ _ _ _ _ z => z.elim) (fun s hw => ?_)
 ·refine SW_region ?_
  refine xn 3 [] [(12, .pointer (some ⟨g, 0, none⟩)), (11, .pointer (some ⟨g, 0, none⟩)), (10, .pointer (some ⟨g, 0, none⟩))] ?_
  refine xcm 13 [false, true] (ct_sync_Mutex_Lock (g) (.int .u32 0) ([Value.map (some gm)]) (91)) zs0 (fun z0 => ?_)
  refine xz [] [] ?_
  exact xw zs0
 refine SQ_weak hw ?_
 clear hw
 refine SQ_seq (SQ_region (NQ_v 14 (.pointer (some ⟨g, 0, none⟩)) (NQ_v 15 (.pointer (some ⟨g, 0, none⟩)) (NQ_v 16 (.pointer (some ⟨g, 0, none⟩)) (NQ_defer (unlockD g) (NQ_end rfl (SQ_of (K := RetL _ Try.f30 _) ?_ RetL.post)))))))
 refine xg ?_
 refine xn 3 [] [(19, .agg #[.int .i64 k, .int .i64 w])] ?_
 refine xb 7 [.int .i64 0, .int .i64 0] 92 (fun g1 => ?_)
 refine xy [(4, [3])] [] [(3, [.int .i64 k, .int .i64 w])] ?_
 refine xd (fun hB => ?_)
 refine xdk [(0, []), (1, []), (2, []), (3, [1]), (4, [3]), (5, [0]), (6, []), (7, []), (8, [])] [(28, .bool false), (27, .agg #[.int .i64 0, .int .i64 0, .int .u64 0, .int .u64 0, .int .i64 0, .bool false, .bool false])] hB ?_
 refine xdb 9 8 [.int .i64 0, .int .i64 0, .int .u64 0, .int .u64 0, .int .i64 0, .bool false, .bool false] 26 (fun g2 => ?_)
 refine xds 10 [4] [] ?_
 refine xdk [(11, [])] [(9, .bool false)] hB ?_
 refine xdz ?_
 refine SW_seq ?_
 refine xr [] [(30, .bool true)] ?_
 refine xs1 ?_
 refine xg ?_
 refine xn 2 [] [(32, .int .i64 w), (31, .int .i64 k)] ?_
 refine xcv 33 ct zs0 ?_
 refine xy [(3, [4])] [] [(4, [.int .i64 a, .int .i64 b, .int .u64 c, .int .u64 d, .int .i64 e, .bool f, .bool h])] ?_
 refine xdl (fun hB => ?_)
 refine xdk [(0, []), (1, []), (2, []), (3, [1]), (4, [3]), (5, [4])] [(39, .agg #[.int .i64 a, .int .i64 b, .int .u64 c, .int .u64 d, .int .i64 e, .bool f, .bool h]), (38, .agg #[.int .i64 k, .int .i64 w]), (37, Value.map (some gm))] hB ?_
 refine xdo 6 [0] [⟨gm, [], .ob (.map #[⟨.agg #[.int .i64 k, .int .i64 w], .agg #[.int .i64 a, .int .i64 b, .int .u64 c, .int .u64 d, .int .i64 e, .bool f, .bool h], 0⟩] 1)⟩, ⟨g, [.int .i32 1, .int .u32 0, .map (some gm)], 91⟩, ⟨g0, [.int .i64 0, .int .i64 0, .int .u64 0, .int .u64 0, .int .i64 0, .bool false, .bool false], 26⟩, ⟨g1, [.int .i64 k, .int .i64 w], 92⟩, ⟨g2, [.int .i64 a, .int .i64 b, .int .u64 c, .int .u64 d, .int .i64 e, .bool f, .bool h], 26⟩] ?_
 refine xdz ?_
 refine xq [(0, [4]), (1, [2])] [] [(2, [.int .i64 a, .int .i64 b, .int .u64 c, .int .u64 d, .int .i64 e, .bool f, .bool h])] ?_
 refine SW_ret ?_
 exact leave_unlock 1 g (.int .u32 0) [.map (some gm)] 91 () [true, true] [2, 2, 2, 2, 2, 2, 2] _ rfl rfl zs0
theorem ct_impl_TenPower_of (k w : Int) (a b : Int) (c d : Int) (e : Int) (f h : Bool) (ct : CtV Try.prog 63 [.int .i64 k, .int .i64 w] [] (.agg #[.int .i64 a, .int .i64 b, .int .u64 c, .int .u64 d, .int .i64 e, .bool f, .bool h])) :
  CtV Try.prog 7 [.int .i64 k, .int .i64 w] [] (.agg #[.int .i64 a, .int .i64 b, .int .u64 c, .int .u64 d, .int .i64 e, .bool f, .bool h]) := by
 have cp := fun g gm => ct_impl_tens_power g gm k w a b c d e f h ct
 refine ct_of Try.func7 rfl (by kernel_rfl) (fun B w0 => ?_)
 refine xg ?_
 refine xb 4 [.int .i64 0, .int .i64 0, .int .u64 0, .int .u64 0, .int .i64 0, .bool false, .bool false] 26 (fun g0 => ?_)
 refine xz [] [] ?_
 refine xg ?_
 (refine xcm 5 [false] (ct_impl_newTens) zs0 (fun zz => ?_); obtain ⟨z0, z1⟩ := zz)
 refine xn 3 [] [(7, .int .i64 w), (6, .int .i64 k)] ?_
 refine xcm 8 [false, true, true] (cp (z0) (z1)) zs0 (fun z2 => ?_)
 refine xy [(4, [0])] [] [(0, [.int .i64 a, .int .i64 b, .int .u64 c, .int .u64 d, .int .i64 e, .bool f, .bool h])] ?_
 refine SW_ret ?_
 refine xe () (.agg #[.int .i64 a, .int .i64 b, .int .u64 c, .int .u64 d, .int .i64 e, .bool f, .bool h]) [0] ?_ trivial
 rfl
end Go.Proofs.Ytlfpjlfmjojimaa.M
end
section
namespace Go.Proofs.Ytlfpjlfmjojimaa.M
open Go.RowKit Go.Proofs.Ytlfpjlfmjojimaa.G Go.Proofs.YtlfpjlfmjojimaaV.PrintWords Go.Proofs.YtlfpjlfmjojimaaV.PrintLast Go.Proofs.Ytlfpjlfmjojimaa.X
set_option linter.unusedVariables false
set_option linter.unusedSimpArgs false
theorem powV_eq (k : Int) (w : Nat) (p : Nat × Int × Bool) : powV k w p = .agg #[.int .i64 k, .int .i64 (w : Int), .int .u64 (hiI p.1), .int .u64 (loI p.1), .int .i64 p.2.1, .bool p.2.2, .bool true] := rfl
theorem ct_laws_eqPower (a b : Int) (c d : Int) (e : Int) (f h : Bool) : CtV Try.prog 8 [.agg #[.int .i64 a, .int .i64 b, .int .u64 c, .int .u64 d, .int .i64 e, .bool f, .bool h], .agg #[.int .i64 a, .int .i64 b, .int .u64 c, .int .u64 d, .int .i64 e, .bool f, .bool h]] [] (.bool true) := by
 have ce := ct_laws_eqWord c d c d
 rw [decide_eq_true (⟨rfl, rfl⟩ : c = c ∧ d = d)] at ce
 have z1 : (a != a) = false := by simp
 have z2 : (b != b) = false := by simp
 have z3 : (e != e) = false := by simp
 have z4 : (!(f == f)) = false := by simp
 have z5 : (!(h == h)) = false := by simp
 refine ct_of Try.func8 rfl (by kernel_rfl) (fun B w0 => ?_)
 refine xg ?_
 refine xb 2 [.int .i64 a, .int .i64 b, .int .u64 c, .int .u64 d, .int .i64 e, .bool f, .bool h] 26 (fun g0 => ?_)
 refine xb 3 [.int .i64 a, .int .i64 b, .int .u64 c, .int .u64 d, .int .i64 e, .bool f, .bool h] 26 (fun g1 => ?_)
 refine xz [] [(4, .bool false)] ?_
 refine SW_seq ?_
 refine xr [(1, [0]), (3, [1])] [(9, .bool (a != a))] ?_
 refine xsf z1 ?_
 refine SW_skip ?_
 refine SW_seq ?_
 refine xr [(1, [0]), (3, [1])] [(14, .bool (b != b))] ?_
 refine xsf z2 ?_
 refine SW_skip ?_
 refine SW_seq ?_
 refine xg ?_
 refine xn 4 [(1, [0]), (3, [1])] [(18, .agg #[.int .u64 c, .int .u64 d]), (16, .agg #[.int .u64 c, .int .u64 d])] ?_
 refine xcv 19 ce zs0 ?_
 refine xz [] [(20, .bool false)] ?_
 refine xs0 ?_
 refine SW_skip ?_
 refine SW_seq ?_
 refine xr [(1, [0]), (3, [1])] [(25, .bool (e != e))] ?_
 refine xsf z3 ?_
 refine SW_skip ?_
 refine SW_seq ?_
 refine xr [(1, [0]), (3, [1])] [(30, .bool !f == f)] ?_
 refine xsf z4 ?_
 refine SW_skip ?_
 refine SW_seq ?_
 refine xr [(1, [0]), (3, [1])] [(35, .bool !h == h)] ?_
 refine xsf z5 ?_
 refine SW_skip ?_
 refine xr [] [(4, .bool true)] ?_
 refine SW_ret ?_
 refine xe () (.bool true) [] ?_ trivial
 rfl
theorem isBits_ex (v : Nat) : ∃ n, IsBits v n := by
 by_cases h : v = 0
 ·exact ⟨0, h ▸ IsBits.zero⟩
 ·exact ⟨Nat.log2 v + 1, Nat.lt_log2_self, .inr (Nat.log2_self_le h)⟩
theorem tenPower_both (k w : Int) : ∃ (a b c d e : Int) (f h : Bool), CtV Try.prog 6 [.int .i64 k, .int .i64 w] [] (.agg #[.int .i64 a, .int .i64 b, .int .u64 c, .int .u64 d, .int .i64 e, .bool f, .bool h]) ∧ CtV Try.prog 7 [.int .i64 k, .int .i64 w] [] (.agg #[.int .i64 a, .int .i64 b, .int .u64 c, .int .u64 d, .int .i64 e, .bool f, .bool h]) := by
 by_cases ho : -5200 ≤ k ∧ k ≤ 5200 ∧ 1 ≤ w ∧ w ≤ 128
 ·obtain ⟨h1, h2, h3, h4⟩ := ho
  obtain ⟨w', rfl⟩ : ∃ w' : Nat, w = (w' : Int) := ⟨w.toNat, by omega⟩
  by_cases h0 : 0 ≤ k
  ·obtain ⟨e, rfl⟩ : ∃ e : Nat, k = (e : Int) := ⟨k.toNat, by omega⟩
   obtain ⟨m, hm⟩ := isBits_ex (10 ^ e)
   have cs := ct_spec_TenPower_pos e m w' (by omega) hm (by omega) (by omega) _ rfl
   have ci := ct_impl_tenPower_pos e m w' (by omega) hm (by omega) (by omega) _ rfl
   rw [powV_eq] at cs ci
   exact ⟨_, _, _, _, _, _, _, cs, ct_impl_TenPower_of _ _ _ _ _ _ _ _ _ ci⟩
  ·obtain ⟨e, he⟩ : ∃ e : Nat, k = -(e : Int) := ⟨(-k).toNat, by omega⟩
   obtain ⟨m, hm⟩ := isBits_ex (10 ^ e)
   have cs := ct_spec_TenPower_neg k e m w' he (by omega) (by omega) hm (by omega) (by omega) _ rfl
   have ci := ct_impl_tenPower_neg k e m w' he (by omega) (by omega) hm (by omega) (by omega) _ rfl
   rw [powV_eq] at cs ci
   exact ⟨_, _, _, _, _, _, _, cs, ct_impl_TenPower_of _ _ _ _ _ _ _ _ _ ci⟩
 ·exact ⟨_, _, _, _, _, _, _, ct_spec_TenPower_out k w ho, ct_impl_TenPower_of _ _ _ _ _ _ _ _ _ (ct_impl_tenPower_out k w ho)⟩
theorem ct_laws_FnExactTenPower (k w : Int) : CtV Try.prog 3 [.int .i64 k, .int .i64 w] [] (.bool true) := by
 obtain ⟨a, b, c, d, e, f, h, cs, ci⟩ := tenPower_both k w
 refine ct_of Try.func3 rfl (by kernel_rfl) (fun B w0 => ?_)
 refine xr [] [(4, .bool false)] ?_
 refine xg ?_
 refine xn 2 [] [(8, .int .i64 w), (7, .int .i64 k)] ?_
 refine xcv 9 cs zs0 ?_
 refine xb 5 [.int .i64 0, .int .i64 0, .int .u64 0, .int .u64 0, .int .i64 0, .bool false, .bool false] 26 (fun g0 => ?_)
 refine xy [(4, [0])] [] [(0, [.int .i64 a, .int .i64 b, .int .u64 c, .int .u64 d, .int .i64 e, .bool f, .bool h])] ?_
 refine xg ?_
 refine xn 2 [] [(11, .int .i64 w), (10, .int .i64 k)] ?_
 refine xcv 12 ci zs0 ?_
 refine xb 6 [.int .i64 0, .int .i64 0, .int .u64 0, .int .u64 0, .int .i64 0, .bool false, .bool false] 26 (fun g1 => ?_)
 refine xy [(4, [1])] [] [(1, [.int .i64 a, .int .i64 b, .int .u64 c, .int .u64 d, .int .i64 e, .bool f, .bool h])] ?_
 refine SW_seq ?_
 refine xg ?_
 refine xn 2 [(0, [1]), (1, [0])] [(14, .agg #[.int .i64 a, .int .i64 b, .int .u64 c, .int .u64 d, .int .i64 e, .bool f, .bool h]), (13, .agg #[.int .i64 a, .int .i64 b, .int .u64 c, .int .u64 d, .int .i64 e, .bool f, .bool h])] ?_
 refine xcv 15 (ct_laws_eqPower (a) (b) (c) (d) (e) (f) (h)) zs0 ?_
 refine xz [] [(16, .bool false)] ?_
 refine xs0 ?_
 refine SW_skip ?_
 refine xr [] [(4, .bool true)] ?_
 refine SW_ret ?_
 refine xe () (.bool true) [] ?_ trivial
 rfl
end Go.Proofs.Ytlfpjlfmjojimaa.M
end
