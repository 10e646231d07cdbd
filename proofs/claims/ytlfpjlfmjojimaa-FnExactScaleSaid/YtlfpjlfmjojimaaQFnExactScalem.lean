import Derived.Conc.MuLone
import Derived.Test.YtlfpjlfmjojimaaQFnExactScalel
section
namespace Go.Proofs.Ytlfpjlfmjojimaa.X
open Go.RowKit Go.Proofs.YtlfpjlfmjojimaaV.PrintWords Go.Proofs.YtlfpjlfmjojimaaV.PrintLast Go.Conc.Locks
set_option linter.unusedVariables false
set_option linter.unusedSimpArgs false
abbrev muL : MuLink := { lock := 61, unlock := 62, ilock := 70, iunlock := 71, lockSlow := 80, unlockSlow := 83, disable := 76, enable := 78, acquire := 79, relMerge := 81, cas32 := 77, add32 := 82, tMutex := 89, tIMutex := 87, tPMutex := 100, tPIMutex := 104, tPI32 := 106, tUP := 108, tNoCopy := 84, tU32 := 85 }
theorem muLib : MuLib Try.prog muL := by
  constructor <;> first | kernel_rfl | (intro w; kernel_rfl) | rfl
theorem cell0 {g : Nat} {v : Value} {r : List Value} {ty : TypeId} {w : World} (h : w.heap[g]? = some (.cells (v :: r).toArray ty (0, 0))) : w.cell? ⟨g, 0, none⟩ = some v ∧ w.frozen? ⟨g, 0, none⟩ = false := by
  simp [World.cell?, World.frozen?, h]
theorem set0 {X : Cx} {e : List (Nat × Value)} {g : Nat} {v u : Value} {r : List Value} {ty : TypeId} {fs : List Fact} {w : World} (h : Holds X ⟨e, [⟨g, v :: r, ty⟩], fs⟩ w) : Holds X ⟨e, [⟨g, u :: r, ty⟩], fs⟩ (w.setCell ⟨g, 0, none⟩ u) := by
  have hx := setB_ext (bs := [⟨g, v :: r, (ty : Ty)⟩]) (h := 0) (a := ⟨g, 0, none⟩) (v := u) (u := v) (t := ty) rfl rfl rfl rfl rfl h.box h.nodup
  exact h.ext hx e
theorem lock_ct (g : Nat) (q : Value) (r : List Value) (ty : TypeId) :
    CtM Try.prog 61 [.pointer (some ⟨g, 0, none⟩)] [⟨g, .int .i32 0 :: q :: r, ty⟩] [] (γ := Unit) (fun _ => .tuple #[]) (fun _ => [⟨g, .int .i32 1 :: q :: r, ty⟩]) (fun _ => []) := by
  intro B w hB hbs hnd hp
  obtain ⟨h1, h2⟩ := cell0 (hbs _ (List.mem_singleton.2 rfl))
  refine (Go.MuLone.lock_free muLib ⟨g, 0, none⟩ w h1 h2).mono ?_
  rintro e w' ⟨rfl, rfl⟩
  refine ⟨(), rfl, ?_⟩
  have h0 : Holds ⟨Try.prog, 0, B, ⟨w, [g], []⟩, none⟩ ⟨[], [⟨g, .int .i32 0 :: q :: r, ty⟩], []⟩ w :=
    ⟨Kept.of (Below.refl _ _), hbs, fun b hb => .inr (by rw [List.mem_singleton.1 hb]; exact List.mem_singleton.2 rfl), hnd, (fun F hF => by cases hF), hB⟩
  exact set0 h0
abbrev unlockD (g : Nat) : Deferred := ⟨.fn (.func 62) #[], #[.pointer (some ⟨g, 0, none⟩)]⟩
theorem leave_unlock {n : Nat} {B M : List Nat} {w0 : World} {fn : Func} {γ : Type} {val : γ → Value} {bs' : γ → List Box} {post : γ → List Fact} {env : List (Nat × Value)} {bs : List Box} {fs : List Fact} (h g : Nat) (q : Value) (r : List Value) (ty : TypeId) (g0 : γ) (m : List Bool) (hs : List Nat) (v : Value)
    (hv : v = val g0) (hm : bs' g0 = pick (setB bs h 0 (.int .i32 0)) m) (hsub : Sub (post g0) fs) (hb : bs[h]? = some ⟨g, .int .i32 1 :: q :: r, ty⟩ := by rfl)
    (ho : outN Try.prog fn ⟨env, setB bs h 0 (.int .i32 0), fs⟩ hs = some (v, fsts (psO (outN Try.prog fn ⟨env, setB bs h 0 (.int .i32 0), fs⟩ hs))) := by kernel_rfl) :
    RetL (Cx.push ⟨Try.prog, n, B, ⟨w0, M, []⟩, none⟩ (unlockD g)) fn (LeftM Try.prog B ⟨w0, M, []⟩ val bs' post) .ret ⟨env, bs, fs⟩ := by
  intro a w ha hw
  have hd : a.defers = [unlockD g] := ha.defers
  rw [hd]
  have hbw : w.heap[g]? = some (.cells (.int .i32 1 :: q :: r).toArray ty (0, 0)) := hw.box _ (List.mem_of_getElem? hb)
  obtain ⟨h1, h2⟩ := cell0 hbw
  refine leaves_cons (by intro h; cases h) (by kernel_rfl : _ = Result.ok (Next.enter 62 #[.pointer (some ⟨g, 0, none⟩)]) w) ((Go.MuLone.unlock_deferred muLib ⟨g, 0, none⟩ .returning w h1 h2).mono ?_)
  rintro e u' w' ⟨rfl, rfl, rfl⟩
  have hx : Holds ⟨Try.prog, n, B, ⟨w0, M, []⟩, none⟩ ⟨env, setB bs h 0 (.int .i32 0), fs⟩ (w.setCell ⟨g, 0, none⟩ (.int .i32 0)) := by
    have h3 := hw.ext (setB_ext (a := ⟨g, 0, none⟩) (v := .int .i32 0) (u := .int .i32 1) (t := ty) hb rfl rfl rfl rfl hw.box hw.nodup) env
    exact ⟨⟨h3.below.os, h3.below.tape, h3.below.output, h3.below.size, h3.below.block⟩, h3.box, h3.new, h3.nodup, h3.fact, h3.old⟩
  have ha2 : Agree (n, []) ⟨env, setB bs h 0 (.int .i32 0), fs⟩ ⟨a.tmps, []⟩ := ⟨ha.size, rfl, ha.env⟩
  exact left_end (P := Try.prog) ha2 hx g0 m hs _ (by rw [← fsts_dup, ← hv]; exact ho) hm hsub
end Go.Proofs.Ytlfpjlfmjojimaa.X
end
section
namespace Go.Proofs.Ytlfpjlfmjojimaa.M
open Go.RowKit Go.Proofs.Ytlfpjlfmjojimaa.G Go.Proofs.YtlfpjlfmjojimaaV.PrintWords Go.Proofs.YtlfpjlfmjojimaaV.PrintLast Go.Proofs.Ytlfpjlfmjojimaa.X
set_option linter.unusedVariables false
set_option linter.unusedSimpArgs false
theorem ct_sync_Mutex_Lock (g : Nat) (q : Value) (r : List Value) (ty : TypeId) :
  CtM Try.prog 61 [.pointer (some ⟨g, 0, none⟩)] [⟨g, .int .i32 0 :: q :: r, ty⟩] [] (γ := Unit) (fun _ => .tuple #[]) (fun _ => [⟨g, .int .i32 1 :: q :: r, ty⟩]) (fun _ => []) := lock_ct g q r ty
theorem ct_impl_newTens : CtM Try.prog 29 [] [] [] (γ := Nat × Nat) (fun g => .pointer (some ⟨g.1, 0, none⟩)) (fun g => [⟨g.2, [], .ob (.map #[] 0)⟩, ⟨g.1, [.int .i32 0, .int .u32 0, .map (some g.2)], 91⟩]) (fun _ => []) := by
 refine cm_of Try.func29 rfl (by kernel_rfl) (fun B w0 => ?_)
 refine xr [] [(0, .pointer none)] ?_
 refine xg ?_
 refine xbo 1 (fun g0 => Value.map (some g0)) (fun g0 => ⟨g0, [], Ty.ob (Obj.map #[] 0)⟩) (fun g0 => ?_)
 refine xn 2 [] [(2, .agg #[.int .i32 0, .int .u32 0, Value.map (some g0)])] ?_
 refine xb 3 [.int .i32 0, .int .u32 0, Value.map (some g0)] 91 (fun g1 => ?_)
 refine xz [] [(0, .pointer (some ⟨g1, 0, none⟩))] ?_
 refine SW_ret ?_
 refine xmeg (.pointer (some ⟨g1, 0, none⟩)) [] ?_
 exact ⟨(g1, g0), [true, true], rfl, rfl, zs0⟩
theorem ct_impl_tens_power (g gm : Nat) (k w : Int) (a b : Int) (c d : Int) (e : Int) (f h : Bool) (ct : CtV Try.prog 63 [.int .i64 k, .int .i64 w] [] (.agg #[.int .i64 a, .int .i64 b, .int .u64 c, .int .u64 d, .int .i64 e, .bool f, .bool h])) :
  CtM Try.prog 30 [.pointer (some ⟨g, 0, none⟩), .int .i64 k, .int .i64 w] [⟨gm, [], .ob (.map #[] 0)⟩, ⟨g, [.int .i32 0, .int .u32 0, .map (some gm)], 91⟩] [] (γ := Unit) (fun _ => .agg #[.int .i64 a, .int .i64 b, .int .u64 c, .int .u64 d, .int .i64 e, .bool f, .bool h])
   (fun _ => [⟨gm, [], .ob (.map #[⟨.agg #[.int .i64 k, .int .i64 w], .agg #[.int .i64 a, .int .i64 b, .int .u64 c, .int .u64 d, .int .i64 e, .bool f, .bool h], 0⟩] 1)⟩, ⟨g, [.int .i32 0, .int .u32 0, .map (some gm)], 91⟩]) (fun _ => []) := by
 refine cm_ofD Try.func30 rfl (by kernel_rfl) (fun B w0 M => ?_)
 refine SQ_cut (K := fun _ _ => False) (fun s => ∃ g0, Weak s ⟨[(0, .pointer (some ⟨g, 0, none⟩)), (1, .int .i64 k), (2, .int .i64 w), (6, .pointer (some ⟨g0, 0, none⟩))], [⟨gm, [], .ob (.map #[] 0)⟩, ⟨g, [.int .i32 0, .int .u32 0, .map (some gm)], 91⟩, ⟨g0, [.int .i64 0, .int .i64 0, .int .u64 0, .int .u64 0, .int .i64 0, .bool false, .bool false], 26⟩], []⟩) ?_ (fun _ _ _ _ _ _ z => z.elim) (fun s hw => ?_)
 ·refine SW_region ?_
  refine xb 6 [.int .i64 0, .int .i64 0, .int .u64 0, .int .u64 0, .int .i64 0, .bool false, .bool false] 26 (fun g0 => ?_)
  refine xz [] [] ?_
  refine ⟨(g0), xw zs0⟩
 obtain ⟨g0, hw⟩ := hw
 refine SQ_weak hw ?_
 clear hw
 refine SQ_cut (K := fun _ _ => False) (fun s => Weak s ⟨[(0, .pointer (some ⟨g, 0, none⟩)), (1, .int .i64 k), (2, .int .i64 w), (6, .pointer (some ⟨g0, 0, none⟩))], [⟨gm, [], .ob (.map #[] 0)⟩, ⟨g, [.int .i32 1, .int .u32 0, .map (some gm)], 91⟩, ⟨g0, [.int .i64 0, .int .i64 0, .int .u64 0, .int .u64 0, .int .i64 0, .bool false, .bool false], 26⟩], []⟩) ?_ (fun _ _ _ _ _ _ z => z.elim) (fun s hw => ?_)
 ·refine SW_region ?_
  refine xn 3 [] [(12, .pointer (some ⟨g, 0, none⟩)), (11, .pointer (some ⟨g, 0, none⟩)), (10, .pointer (some ⟨g, 0, none⟩))] ?_
  refine xcm 13 [false, true] (ct_sync_Mutex_Lock (g) (.int .u32 0) ([Value.map (some gm)]) (91)) zs0 (fun z0 => ?_)
  refine xz [] [] ?_
  exact xw zs0
 refine SQ_weak hw ?_
 clear hw
 refine SQ_seq (SQ_region (NQ_v 14 (.pointer (some ⟨g, 0, none⟩)) (NQ_v 15 (.pointer (some ⟨g, 0, none⟩)) (NQ_v 16 (.pointer (some ⟨g, 0, none⟩)) (NQ_defer (unlockD g) (NQ_end rfl (SQ_of (K := RetL _ Try.f30 _) ?_ RetL.post)))))))
 refine xg ?_
 refine xn 3 [] [(19, .agg #[.int .i64 k, .int .i64 w])] ?_
 refine xb 7 [.int .i64 0, .int .i64 0] 92 (fun g1 => ?_)
 refine xy [(4, [3])] [] [(3, [.int .i64 k, .int .i64 w])] ?_
 refine xd (fun hB => ?_)
 refine xdk [(0, []), (1, []), (2, []), (3, [1]), (4, [3]), (5, [0]), (6, []), (7, []), (8, [])] [(28, .bool false), (27, .agg #[.int .i64 0, .int .i64 0, .int .u64 0, .int .u64 0, .int .i64 0, .bool false, .bool false])] hB ?_
 refine xdb 9 8 [.int .i64 0, .int .i64 0, .int .u64 0, .int .u64 0, .int .i64 0, .bool false, .bool false] 26 (fun g2 => ?_)
 refine xds 10 [4] [] ?_
 refine xdk [(11, [])] [(9, .bool false)] hB ?_
 refine xdz ?_
 refine SW_seq ?_
 refine xr [] [(30, .bool true)] ?_
 refine xs1 ?_
 refine xg ?_
 refine xn 2 [] [(32, .int .i64 w), (31, .int .i64 k)] ?_
 refine xcv 33 ct zs0 ?_
 refine xy [(3, [4])] [] [(4, [.int .i64 a, .int .i64 b, .int .u64 c, .int .u64 d, .int .i64 e, .bool f, .bool h])] ?_
 refine xdl (fun hB => ?_)
 refine xdk [(0, []), (1, []), (2, []), (3, [1]), (4, [3]), (5, [4])] [(39, .agg #[.int .i64 a, .int .i64 b, .int .u64 c, .int .u64 d, .int .i64 e, .bool f, .bool h]), (38, .agg #[.int .i64 k, .int .i64 w]), (37, Value.map (some gm))] hB ?_
 refine xdo 6 [0] [⟨gm, [], .ob (.map #[⟨.agg #[.int .i64 k, .int .i64 w], .agg #[.int .i64 a, .int .i64 b, .int .u64 c, .int .u64 d, .int .i64 e, .bool f, .bool h], 0⟩] 1)⟩, ⟨g, [.int .i32 1, .int .u32 0, .map (some gm)], 91⟩, ⟨g0, [.int .i64 0, .int .i64 0, .int .u64 0, .int .u64 0, .int .i64 0, .bool false, .bool false], 26⟩, ⟨g1, [.int .i64 k, .int .i64 w], 92⟩, ⟨g2, [.int .i64 a, .int .i64 b, .int .u64 c, .int .u64 d, .int .i64 e, .bool f, .bool h], 26⟩] ?_
 refine xdz ?_
 refine xq [(0, [4]), (1, [2])] [] [(2, [.int .i64 a, .int .i64 b, .int .u64 c, .int .u64 d, .int .i64 e, .bool f, .bool h])] ?_
 refine SW_ret ?_
 exact leave_unlock 1 g (.int .u32 0) [.map (some gm)] 91 () [true, true] [2, 2, 2, 2, 2, 2, 2] _ rfl rfl zs0
theorem ct_impl_TenPower_of (k w : Int) (a b : Int) (c d : Int) (e : Int) (f h : Bool) (ct : CtV Try.prog 63 [.int .i64 k, .int .i64 w] [] (.agg #[.int .i64 a, .int .i64 b, .int .u64 c, .int .u64 d, .int .i64 e, .bool f, .bool h])) :
  CtV Try.prog 7 [.int .i64 k, .int .i64 w] [] (.agg #[.int .i64 a, .int .i64 b, .int .u64 c, .int .u64 d, .int .i64 e, .bool f, .bool h]) := by
 have cp := fun g gm => ct_impl_tens_power g gm k w a b c d e f h ct
 refine ct_of Try.func7 rfl (by kernel_rfl) (fun B w0 => ?_)
 refine xg ?_
 refine xb 4 [.int .i64 0, .int .i64 0, .int .u64 0, .int .u64 0, .int .i64 0, .bool false, .bool false] 26 (fun g0 => ?_)
 refine xz [] [] ?_
 refine xg ?_
 (refine xcm 5 [false] (ct_impl_newTens) zs0 (fun zz => ?_); obtain ⟨z0, z1⟩ := zz)
 refine xn 3 [] [(7, .int .i64 w), (6, .int .i64 k)] ?_
 refine xcm 8 [false, true, true] (cp (z0) (z1)) zs0 (fun z2 => ?_)
 refine xy [(4, [0])] [] [(0, [.int .i64 a, .int .i64 b, .int .u64 c, .int .u64 d, .int .i64 e, .bool f, .bool h])] ?_
 refine SW_ret ?_
 refine xe () (.agg #[.int .i64 a, .int .i64 b, .int .u64 c, .int .u64 d, .int .i64 e, .bool f, .bool h]) [0] ?_ trivial
 rfl
end Go.Proofs.Ytlfpjlfmjojimaa.M
end
section
namespace Go.Proofs.Ytlfpjlfmjojimaa.M
open Go.RowKit Go.Proofs.Ytlfpjlfmjojimaa.G Go.Proofs.YtlfpjlfmjojimaaV.PrintWords Go.Proofs.YtlfpjlfmjojimaaV.PrintLast Go.Proofs.Ytlfpjlfmjojimaa.X
set_option linter.unusedVariables false
set_option linter.unusedSimpArgs false
theorem powV_eq (k : Int) (w : Nat) (p : Nat × Int × Bool) : powV k w p = .agg #[.int .i64 k, .int .i64 (w : Int), .int .u64 (hiI p.1), .int .u64 (loI p.1), .int .i64 p.2.1, .bool p.2.2, .bool true] := rfl
theorem tenPower_both (k w : Int) : ∃ (a b c d e : Int) (f h : Bool), CtV Try.prog 6 [.int .i64 k, .int .i64 w] [] (.agg #[.int .i64 a, .int .i64 b, .int .u64 c, .int .u64 d, .int .i64 e, .bool f, .bool h]) ∧ CtV Try.prog 7 [.int .i64 k, .int .i64 w] [] (.agg #[.int .i64 a, .int .i64 b, .int .u64 c, .int .u64 d, .int .i64 e, .bool f, .bool h]) := by
 by_cases ho : -5200 ≤ k ∧ k ≤ 5200 ∧ 1 ≤ w ∧ w ≤ 128
 ·obtain ⟨h1, h2, h3, h4⟩ := ho
  obtain ⟨w', rfl⟩ : ∃ w' : Nat, w = (w' : Int) := ⟨w.toNat, by omega⟩
  by_cases h0 : 0 ≤ k
  ·obtain ⟨e, rfl⟩ : ∃ e : Nat, k = (e : Int) := ⟨k.toNat, by omega⟩
   obtain ⟨m, hm⟩ := isBits_ex (10 ^ e)
   have cs := ct_spec_TenPower_pos e m w' (by omega) hm (by omega) (by omega) _ rfl
   have ci := ct_impl_tenPower_pos e m w' (by omega) hm (by omega) (by omega) _ rfl
   rw [powV_eq] at cs ci
   exact ⟨_, _, _, _, _, _, _, cs, ct_impl_TenPower_of _ _ _ _ _ _ _ _ _ ci⟩
  ·obtain ⟨e, he⟩ : ∃ e : Nat, k = -(e : Int) := ⟨(-k).toNat, by omega⟩
   obtain ⟨m, hm⟩ := isBits_ex (10 ^ e)
   have cs := ct_spec_TenPower_neg k e m w' he (by omega) (by omega) hm (by omega) (by omega) _ rfl
   have ci := ct_impl_tenPower_neg k e m w' he (by omega) (by omega) hm (by omega) (by omega) _ rfl
   rw [powV_eq] at cs ci
   exact ⟨_, _, _, _, _, _, _, cs, ct_impl_TenPower_of _ _ _ _ _ _ _ _ _ ci⟩
 ·exact ⟨_, _, _, _, _, _, _, ct_spec_TenPower_out k w ho, ct_impl_TenPower_of _ _ _ _ _ _ _ _ _ (ct_impl_tenPower_out k w ho)⟩
end Go.Proofs.Ytlfpjlfmjojimaa.M
end
section
namespace Go.Proofs.Ytlfpjlfmjojimaa.M
open Go.RowKit Go.Proofs.Ytlfpjlfmjojimaa.G Go.Proofs.YtlfpjlfmjojimaaV.PrintWords Go.Proofs.YtlfpjlfmjojimaaV.PrintLast Go.Proofs.Ytlfpjlfmjojimaa.X
set_option linter.unusedVariables false
set_option linter.unusedSimpArgs false
theorem eq_power (u : Nat) (a b h l e a' b' h' l' e' : Int) (x y x' y' : Bool) (w : World) : (Op.equalIn (u + 1 + 1 + 1) 26 (.agg #[.int .i64 a, .int .i64 b, .int .u64 h, .int .u64 l, .int .i64 e, .bool x, .bool y]) (.agg #[.int .i64 a', .int .i64 b', .int .u64 h', .int .u64 l', .int .i64 e', .bool x', .bool y'])).run Try.prog w = .ok ((a == a') && ((b == b') && (((h == h') && (l == l')) && ((e == e') && ((x == x') && (y == y')))))) w :=
 eqA_of Try.underlying26 (by kernel_rfl) (eqf_cons (by kernel_rfl) (a := .int .i64 a) (b := .int .i64 a') (by kernel_rfl) (by kernel_rfl) (by kernel_rfl)
  (eqf_cons (by kernel_rfl) (a := .int .i64 b) (b := .int .i64 b') (by kernel_rfl) (by kernel_rfl) (by kernel_rfl)
   (eqf_cons (by kernel_rfl) (a := .agg #[.int .u64 h, .int .u64 l]) (b := .agg #[.int .u64 h', .int .u64 l']) (by kernel_rfl) (by kernel_rfl) (eq_word u h l h' l' w)
    (eqf_cons (by kernel_rfl) (a := .int .i64 e) (b := .int .i64 e') (by kernel_rfl) (by kernel_rfl) (by kernel_rfl)
     (eqf_cons (by kernel_rfl) (a := .bool x) (b := .bool x') (by kernel_rfl) (by kernel_rfl) (by kernel_rfl)
      (eqf_last (by kernel_rfl) (a := .bool y) (b := .bool y') (by kernel_rfl) (by kernel_rfl) (by kernel_rfl)))))))
theorem mul_own (x y : Nat) (A A' : Option Addr) (c c' : Nat) (hx : Sm x) (hy : Sm y) : CtO Try.prog 45 [.slice A (ofN B64 x).length c, .slice A' (ofN B64 y).length c'] [Row .u64 A c (ofN B64 x), Row .u64 A' c' (ofN B64 y)] 22 .u64 (ofN B64 (x * y)) := by
 obtain ⟨d, n, v⟩ := ofN_spec B64_2 x
 obtain ⟨d', n', v'⟩ := ofN_spec B64_2 y
 obtain ⟨d2, n2, v2⟩ := ofN_spec B64_2 (x * y)
 have h1 := hx.len64
 have h2 := hy.len64
 exact ct_impl_nat_mul_own _ _ A A' c c' d d' (by omega) (by omega) _ d2 n2 (by rw [v2, v, v'])
theorem ct_impl_Power_scale (a b : Int) (T : Nat) (hT : T < B128) (e : Int) (ex ok : Bool) (d : Nat) (hd : d < 18446744073709551616) :
  CtM Try.prog 52 [.agg #[.int .i64 a, .int .i64 b, .int .u64 (hiI T), .int .u64 (loI T), .int .i64 e, .bool ex, .bool ok], .int .u64 (d : Int)] [] [] (γ := (Nat × List Value) × Nat × List Value)
   (fun p => .agg #[.slice (some ⟨p.1.1, 0, none⟩) (ofN B64 (d * T)).length (ofN B64 (d * T)).length, .slice (some ⟨p.2.1, 0, none⟩) (ofN B64 (d * (if ex then T else T + 1))).length (ofN B64 (d * (if ex then T else T + 1))).length, .int .i64 e, .bool true])
   (fun p => [⟨p.1.1, cl .u64 (ofN B64 (d * T)) p.1.2, 22⟩, ⟨p.2.1, cl .u64 (ofN B64 (d * (if ex then T else T + 1))) p.2.2, 22⟩]) (fun _ => []) := by
 have s1 : Sm d := Sm.of (k := 64) hd (by decide)
 have s2 : Sm T := Sm.of (k := 128) hT (by decide)
 have s3 : Sm (T + 1) := Sm.of (k := 129) (by have : (B128 : Nat) = 2 ^ 128 := rfl; omega) (by decide)
 have nd : Nn (d : Int) d := ⟨rfl⟩
 have s0 : Sm 1 := Sm.of (k := 1) (by decide) (by decide)
 have cm := fun A A' c c' => mul_own d T A A' c c' s1 s2
 have cm2 := fun A A' c c' => mul_own d (T + 1) A A' c c' s1 s3
 unfold CtO at cm cm2
 refine cm_of Try.func52 rfl (by kernel_rfl) (fun B w0 => ?_)
 cases ex with
 | true =>
  rw [if_pos rfl]
  refine xg ?_
  refine xb 2 [.int .i64 a, .int .i64 b, .int .u64 (hiI T), .int .u64 (loI T), .int .i64 e, .bool true, .bool ok] 26 (fun g0 => ?_)
  refine xb 4 [.slice none 0 0, .slice none 0 0, .int .i64 0, .bool false] 43 (fun g1 => ?_)
  refine xz [] [] ?_
  refine xg ?_
  refine xn 3 [(1, [0])] [(8, .agg #[.slice none 0 0, .slice none 0 0, .int .i64 e, .bool true])] ?_
  refine xb 5 [.slice none 0 0, .slice none 0 0, .int .i64 0, .bool false] 43 (fun g2 => ?_)
  refine xy [(4, [2])] [] [(2, [.slice none 0 0, .slice none 0 0, .int .i64 e, .bool true])] ?_
  refine xd (fun hB => ?_)
  refine xdk [(0, []), (2, []), (3, [0])] [(12, .agg #[.int .u64 (hiI T), .int .u64 (loI T)]), (9, .int .u64 (d : Int))] hB ?_
  refine xdr 1 10 (ct_impl_word ((d : Int)) (d) nd hd) zs0 (fun A0 k0 => ?_)
  refine xdr 4 13 (ct_impl_Word_nat (T) hT) zs0 (fun A1 k1 => ?_)
  (refine xdcm 5 14 [false] [true, true, true] (cm (A0) (A1) (k0) (k1)) (zsS (ziS zi0) (zsS zi0 zs0)) zs0 (fun zz => ?_); obtain ⟨z0, z1⟩ := zz)
  refine xdk [(6, [])] [(15, .pointer (some ⟨g2, 0, none⟩))] hB ?_
  refine xds 7 [2] [(2, [.slice (some ⟨z0, 0, none⟩) (List.length (ofN B64 (d * T))) (List.length (ofN B64 (d * T))), .slice none 0 0, .int .i64 e, .bool true])] ?_
  refine xdz ?_
  refine SW_seq ?_
  refine xr [(1, [0])] [(17, .bool true)] ?_
  refine xs1 ?_
  refine xdl (fun hB => ?_)
  refine xdk [(0, []), (2, []), (3, [0])] [(21, .agg #[.int .u64 (hiI T), .int .u64 (loI T)]), (18, .int .u64 (d : Int))] hB ?_
  refine xdr 1 19 (ct_impl_word ((d : Int)) (d) nd hd) zs0 (fun A2 k2 => ?_)
  refine xdr 4 22 (ct_impl_Word_nat (T) hT) zs0 (fun A3 k3 => ?_)
  (refine xdcm 5 23 [false] [true, true, true, true] (cm (A2) (A3) (k2) (k3)) (zsS (ziS zi0) (zsS zi0 zs0)) (zsS (ziS (ziS zi0)) (zsS (ziS (ziS (ziS zi0))) zs0)) (fun zz => ?_); obtain ⟨z2, z3⟩ := zz)
  refine xdk [(6, [])] [(24, .pointer (some ⟨g2, 1, none⟩))] hB ?_
  refine xds 7 [2] [(2, [.slice (some ⟨z0, 0, none⟩) (List.length (ofN B64 (d * T))) (List.length (ofN B64 (d * T))), .slice (some ⟨z2, 0, none⟩) (List.length (ofN B64 (d * T))) (List.length (ofN B64 (d * T))), .int .i64 e, .bool true])] ?_
  refine xdz ?_
  refine xq [(0, [2]), (1, [1])] [] [(1, [.slice (some ⟨z0, 0, none⟩) (List.length (ofN B64 (d * T))) (List.length (ofN B64 (d * T))), .slice (some ⟨z2, 0, none⟩) (List.length (ofN B64 (d * T))) (List.length (ofN B64 (d * T))), .int .i64 e, .bool true])] ?_
  refine SW_ret ?_
  refine xmeg (.agg #[.slice (some ⟨z0, 0, none⟩) (List.length (ofN B64 (d * T))) (List.length (ofN B64 (d * T))), .slice (some ⟨z2, 0, none⟩) (List.length (ofN B64 (d * T))) (List.length (ofN B64 (d * T))), .int .i64 e, .bool true]) [1] ?_
  exact ⟨((z0, z1), (z2, z3)), [false, false, false, true, true], rfl, rfl, zs0⟩
 | false =>
  rw [if_neg (by decide)]
  refine xg ?_
  refine xb 2 [.int .i64 a, .int .i64 b, .int .u64 (hiI T), .int .u64 (loI T), .int .i64 e, .bool false, .bool ok] 26 (fun g0 => ?_)
  refine xb 4 [.slice none 0 0, .slice none 0 0, .int .i64 0, .bool false] 43 (fun g1 => ?_)
  refine xz [] [] ?_
  refine xg ?_
  refine xn 3 [(1, [0])] [(8, .agg #[.slice none 0 0, .slice none 0 0, .int .i64 e, .bool true])] ?_
  refine xb 5 [.slice none 0 0, .slice none 0 0, .int .i64 0, .bool false] 43 (fun g2 => ?_)
  refine xy [(4, [2])] [] [(2, [.slice none 0 0, .slice none 0 0, .int .i64 e, .bool true])] ?_
  refine xd (fun hB => ?_)
  refine xdk [(0, []), (2, []), (3, [0])] [(12, .agg #[.int .u64 (hiI T), .int .u64 (loI T)]), (9, .int .u64 (d : Int))] hB ?_
  refine xdr 1 10 (ct_impl_word ((d : Int)) (d) nd hd) zs0 (fun A0 k0 => ?_)
  refine xdr 4 13 (ct_impl_Word_nat (T) hT) zs0 (fun A1 k1 => ?_)
  (refine xdcm 5 14 [false] [true, true, true] (cm (A0) (A1) (k0) (k1)) (zsS (ziS zi0) (zsS zi0 zs0)) zs0 (fun zz => ?_); obtain ⟨z0, z1⟩ := zz)
  refine xdk [(6, [])] [(15, .pointer (some ⟨g2, 0, none⟩))] hB ?_
  refine xds 7 [2] [(2, [.slice (some ⟨z0, 0, none⟩) (List.length (ofN B64 (d * T))) (List.length (ofN B64 (d * T))), .slice none 0 0, .int .i64 e, .bool true])] ?_
  refine xdz ?_
  refine SW_seq ?_
  refine xr [(1, [0])] [(17, .bool false)] ?_
  refine xs0 ?_
  refine xdl (fun hB => ?_)
  refine xdk [(0, []), (2, []), (3, [0])] [(28, .agg #[.int .u64 (hiI T), .int .u64 (loI T)]), (25, .int .u64 (d : Int))] hB ?_
  refine xdr 1 26 (ct_impl_word ((d : Int)) (d) nd hd) zs0 (fun A2 k2 => ?_)
  refine xdr 4 29 (ct_impl_Word_nat (T) hT) zs0 (fun A3 k3 => ?_)
  refine xdr 5 30 (ct_impl_word (1) (1) ⟨rfl⟩ (by omega)) zs0 (fun A4 k4 => ?_)
  refine xdr 6 31 (ct_impl_nat_add (T) (1) (A3) (A4) (k3) (k4) s2 s0) (zsS (ziS zi0) (zsS zi0 zs0)) (fun A5 k5 => ?_)
  (refine xdcm 7 32 [false] [true, true, true, true] (cm2 (A2) (A5) (k2) (k5)) (zsS (ziS (ziS (ziS zi0))) (zsS zi0 zs0)) (zsS (ziS (ziS (ziS (ziS zi0)))) (zsS (ziS (ziS (ziS (ziS (ziS zi0))))) zs0)) (fun zz => ?_); obtain ⟨z2, z3⟩ := zz)
  refine xdk [(8, [])] [(33, .pointer (some ⟨g2, 1, none⟩))] hB ?_
  refine xds 9 [2] [(2, [.slice (some ⟨z0, 0, none⟩) (List.length (ofN B64 (d * T))) (List.length (ofN B64 (d * T))), .slice (some ⟨z2, 0, none⟩) (List.length (ofN B64 (d * (T + 1)))) (List.length (ofN B64 (d * (T + 1)))), .int .i64 e, .bool true])] ?_
  refine xdz ?_
  refine xq [(0, [2]), (1, [1])] [] [(1, [.slice (some ⟨z0, 0, none⟩) (List.length (ofN B64 (d * T))) (List.length (ofN B64 (d * T))), .slice (some ⟨z2, 0, none⟩) (List.length (ofN B64 (d * (T + 1)))) (List.length (ofN B64 (d * (T + 1)))), .int .i64 e, .bool true])] ?_
  refine SW_ret ?_
  refine xmeg (.agg #[.slice (some ⟨z0, 0, none⟩) (List.length (ofN B64 (d * T))) (List.length (ofN B64 (d * T))), .slice (some ⟨z2, 0, none⟩) (List.length (ofN B64 (d * (T + 1)))) (List.length (ofN B64 (d * (T + 1)))), .int .i64 e, .bool true]) [1] ?_
  exact ⟨((z0, z1), (z2, z3)), [false, false, false, true, true], rfl, rfl, zs0⟩
abbrev powr (a b : Int) (T : Nat) (e : Int) (x y : Bool) : Value := .agg #[.int .i64 a, .int .i64 b, .int .u64 (hiI T), .int .u64 (loI T), .int .i64 e, .bool x, .bool y]
abbrev spanZ : Value := .agg #[.slice none 0 0, .slice none 0 0, .int .i64 0, .bool false]
theorem ct_spec_Scale_in (a b : Int) (T : Nat) (hT : T < B128) (e : Int) (ex : Bool) (d : Nat) (hd : d < 18446744073709551616) (cs : CtV Try.prog 6 [.int .i64 a, .int .i64 b] [] (powr a b T e ex true)) :
  Ct Try.prog 17 [.int .u64 (d : Int), powr a b T e ex true] [] (γ := (Option Addr × Nat) × (Option Addr × Nat)) (fun p => .agg #[.slice p.1.1 (ofN B64 (d * T)).length p.1.2, .slice p.2.1 (ofN B64 (d * (if ex then T else T + 1))).length p.2.2, .int .i64 e, .bool true]) (fun p => [Row .u64 p.1.1 p.1.2 (ofN B64 (d * T)), Row .u64 p.2.1 p.2.2 (ofN B64 (d * (if ex then T else T + 1)))]) := by
 have s1 : Sm d := Sm.of (k := 64) hd (by decide)
 have s2 : Sm T := Sm.of (k := 128) hT (by decide)
 have s3 : Sm (T + 1) := Sm.of (k := 129) (by have : (B128 : Nat) = 2 ^ 128 := rfl; omega) (by decide)
 have s4 : Sm (d * T) := Sm.of (k := 64 + 128) (by rw [Nat.pow_add]; exact Nat.mul_lt_mul'' hd hT) (by decide)
 have s5 : Sm (d * (T + 1)) := Sm.of (k := 64 + 129) (by rw [Nat.pow_add]; exact Nat.mul_lt_mul'' hd (by have : (B128 : Nat) = 2 ^ 128 := rfl; omega)) (by decide)
 have nd : Nn (d : Int) d := ⟨rfl⟩
 have s0 : Sm 1 := Sm.of (k := 1) (by decide) (by decide)
 have zq : (!((a == a) && ((b == b) && (((hiI T == hiI T) && (loI T == loI T)) && ((e == e) && ((ex == ex) && (true == true))))))) = false := by simp
 refine ct_of Try.func17 rfl (by kernel_rfl) (fun B w0 => ?_)
 cases ex with
 | true =>
  rw [if_pos rfl]
  refine xg ?_
  refine xb 3 [.int .i64 a, .int .i64 b, .int .u64 (hiI T), .int .u64 (loI T), .int .i64 e, .bool true, .bool true] 26 (fun g0 => ?_)
  refine xb 4 [.slice none 0 0, .slice none 0 0, .int .i64 0, .bool false] 43 (fun g1 => ?_)
  refine xz [] [] ?_
  refine SW_seq ?_
  refine xd (fun hB => ?_)
  refine xdk [(0, []), (1, [0]), (2, []), (3, []), (4, []), (5, [0]), (6, []), (7, [0]), (9, [0])] [(16, .agg #[.int .i64 a, .int .i64 b, .int .u64 (hiI T), .int .u64 (loI T), .int .i64 e, .bool true, .bool true]), (14, .int .i64 b), (12, .int .i64 a), (10, .bool false)] hB ?_
  refine xdv 8 15 cs zs0 ?_
  refine xdw 10 17 (.bool (!((a == a) && ((b == b) && (((hiI T == hiI T) && (loI T == loI T)) && ((e == e) && ((true == true) && (true == true)))))))) hB (fun w _ _ => run_neq rfl (by kernel_rfl) (by kernel_rfl) (by kernel_rfl) w (eq_power _ _ _ _ _ _ _ _ _ _ _ _ _ _ _ w)) ?_
  refine xdk [(11, [])] [(18, .bool !(a == a && (b == b && (hiI T == hiI T && loI T == loI T && (e == e && (true == true && true == true))))))] hB ?_
  refine xdz ?_
  refine xsf zq ?_
  refine SW_skip ?_
  refine xd (fun hB => ?_)
  refine xdk [(0, []), (2, []), (3, [0])] [(23, .agg #[.int .u64 (hiI T), .int .u64 (loI T)]), (20, .int .u64 (d : Int))] hB ?_
  refine xdr 1 21 (ct_spec_l1Of ((d : Int)) (d) nd hd) zs0 (fun A0 k0 => ?_)
  refine xdr 4 24 (ct_spec_l2Of (T) hT) zs0 (fun A1 k1 => ?_)
  refine xdr 5 25 (ct_spec_l1Mul (d) (T) (A0) (A1) (k0) (k1) s1 s2) (zsS (ziS zi0) (zsS zi0 zs0)) (fun A2 k2 => ?_)
  refine xdk [(6, [])] [(5, .slice A2 (List.length (ofN B32 (d * T))) k2)] hB ?_
  refine xdz ?_
  refine xr [] [(6, .slice A2 (List.length (ofN B32 (d * T))) k2)] ?_
  refine SW_seq ?_
  refine xr [(1, [0])] [(29, .bool false)] ?_
  refine xs0 ?_
  refine SW_skip ?_
  refine xd (fun hB => ?_)
  refine xdk [(0, []), (2, []), (4, []), (5, [0])] [(43, .int .i64 e), (40, .slice A2 (List.length (ofN B32 (d * T))) k2), (38, .slice A2 (List.length (ofN B32 (d * T))) k2)] hB ?_
  refine xdr 1 39 (ct_spec_l1Out (d * T) (A2) (k2) s4) (zsS zi0 zs0) (fun A3 k3 => ?_)
  refine xdr 3 41 (ct_spec_l1Out (d * T) (A2) (k2) s4) (zsS (ziS zi0) zs0) (fun A4 k4 => ?_)
  refine xdk [(6, [])] [(44, .agg #[.slice A3 (List.length (ofN B64 (d * T))) k3, .slice A4 (List.length (ofN B64 (d * T))) k4, .int .i64 e, .bool true])] hB ?_
  refine xds 7 [1] [(1, [.slice A3 (List.length (ofN B64 (d * T))) k3, .slice A4 (List.length (ofN B64 (d * T))) k4, .int .i64 e, .bool true])] ?_
  refine xdz ?_
  refine SW_ret ?_
  refine xe ((A3, k3), A4, k4) (.agg #[.slice A3 (List.length (ofN B64 (d * T))) k3, .slice A4 (List.length (ofN B64 (d * T))) k4, .int .i64 e, .bool true]) [1] ?_ (zsS (ziS zi0) (zsS zi0 zs0))
  rfl
 | false =>
  rw [if_neg (by decide)]
  refine xg ?_
  refine xb 3 [.int .i64 a, .int .i64 b, .int .u64 (hiI T), .int .u64 (loI T), .int .i64 e, .bool false, .bool true] 26 (fun g0 => ?_)
  refine xb 4 [.slice none 0 0, .slice none 0 0, .int .i64 0, .bool false] 43 (fun g1 => ?_)
  refine xz [] [] ?_
  refine SW_seq ?_
  refine xd (fun hB => ?_)
  refine xdk [(0, []), (1, [0]), (2, []), (3, []), (4, []), (5, [0]), (6, []), (7, [0]), (9, [0])] [(16, .agg #[.int .i64 a, .int .i64 b, .int .u64 (hiI T), .int .u64 (loI T), .int .i64 e, .bool false, .bool true]), (14, .int .i64 b), (12, .int .i64 a), (10, .bool false)] hB ?_
  refine xdv 8 15 cs zs0 ?_
  refine xdw 10 17 (.bool (!((a == a) && ((b == b) && (((hiI T == hiI T) && (loI T == loI T)) && ((e == e) && ((false == false) && (true == true)))))))) hB (fun w _ _ => run_neq rfl (by kernel_rfl) (by kernel_rfl) (by kernel_rfl) w (eq_power _ _ _ _ _ _ _ _ _ _ _ _ _ _ _ w)) ?_
  refine xdk [(11, [])] [(18, .bool !(a == a && (b == b && (hiI T == hiI T && loI T == loI T && (e == e && (false == false && true == true))))))] hB ?_
  refine xdz ?_
  refine xsf zq ?_
  refine SW_skip ?_
  refine xd (fun hB => ?_)
  refine xdk [(0, []), (2, []), (3, [0])] [(23, .agg #[.int .u64 (hiI T), .int .u64 (loI T)]), (20, .int .u64 (d : Int))] hB ?_
  refine xdr 1 21 (ct_spec_l1Of ((d : Int)) (d) nd hd) zs0 (fun A0 k0 => ?_)
  refine xdr 4 24 (ct_spec_l2Of (T) hT) zs0 (fun A1 k1 => ?_)
  refine xdr 5 25 (ct_spec_l1Mul (d) (T) (A0) (A1) (k0) (k1) s1 s2) (zsS (ziS zi0) (zsS zi0 zs0)) (fun A2 k2 => ?_)
  refine xdk [(6, [])] [(5, .slice A2 (List.length (ofN B32 (d * T))) k2)] hB ?_
  refine xdz ?_
  refine xr [] [(6, .slice A2 (List.length (ofN B32 (d * T))) k2)] ?_
  refine SW_seq ?_
  refine xr [(1, [0])] [(29, .bool true)] ?_
  refine xs1 ?_
  refine xdl (fun hB => ?_)
  refine xdk [(0, []), (2, []), (3, [0])] [(33, .agg #[.int .u64 (hiI T), .int .u64 (loI T)]), (30, .int .u64 (d : Int))] hB ?_
  refine xdr 1 31 (ct_spec_l1Of ((d : Int)) (d) nd hd) zs0 (fun A3 k3 => ?_)
  refine xdr 4 34 (ct_spec_l2Of (T) hT) zs0 (fun A4 k4 => ?_)
  refine xdr 5 35 (ct_spec_l1Of (1) (1) ⟨rfl⟩ (by omega)) zs0 (fun A5 k5 => ?_)
  refine xdr 6 36 (ct_spec_l1Add (T) (1) (A4) (A5) (k4) (k5) s2 s0) (zsS (ziS zi0) (zsS zi0 zs0)) (fun A6 k6 => ?_)
  refine xdr 7 37 (ct_spec_l1Mul (d) (T + 1) (A3) (A6) (k3) (k6) s1 s3) (zsS (ziS (ziS (ziS zi0))) (zsS zi0 zs0)) (fun A7 k7 => ?_)
  refine xdk [(8, [])] [(6, .slice A7 (List.length (ofN B32 (d * (T + 1)))) k7)] hB ?_
  refine xdz ?_
  refine xd (fun hB => ?_)
  refine xdk [(0, []), (2, []), (4, []), (5, [0])] [(43, .int .i64 e), (40, .slice A7 (List.length (ofN B32 (d * (T + 1)))) k7), (38, .slice A2 (List.length (ofN B32 (d * T))) k2)] hB ?_
  refine xdr 1 39 (ct_spec_l1Out (d * T) (A2) (k2) s4) (zsS (ziS (ziS (ziS (ziS (ziS zi0))))) zs0) (fun A8 k8 => ?_)
  refine xdr 3 41 (ct_spec_l1Out (d * (T + 1)) (A7) (k7) s5) (zsS (ziS zi0) zs0) (fun A9 k9 => ?_)
  refine xdk [(6, [])] [(44, .agg #[.slice A8 (List.length (ofN B64 (d * T))) k8, .slice A9 (List.length (ofN B64 (d * (T + 1)))) k9, .int .i64 e, .bool true])] hB ?_
  refine xds 7 [1] [(1, [.slice A8 (List.length (ofN B64 (d * T))) k8, .slice A9 (List.length (ofN B64 (d * (T + 1)))) k9, .int .i64 e, .bool true])] ?_
  refine xdz ?_
  refine SW_ret ?_
  refine xe ((A8, k8), A9, k9) (.agg #[.slice A8 (List.length (ofN B64 (d * T))) k8, .slice A9 (List.length (ofN B64 (d * (T + 1)))) k9, .int .i64 e, .bool true]) [1] ?_ (zsS (ziS zi0) (zsS zi0 zs0))
  rfl
theorem ct_impl_Scale_in (a b : Int) (T : Nat) (hT : T < B128) (e : Int) (ex : Bool) (d : Nat) (hd : d < 18446744073709551616) (ci : CtV Try.prog 7 [.int .i64 a, .int .i64 b] [] (powr a b T e ex true)) :
  CtM Try.prog 19 [.int .u64 (d : Int), powr a b T e ex true] [] [] (γ := (Nat × List Value) × Nat × List Value)
   (fun p => .agg #[.slice (some ⟨p.1.1, 0, none⟩) (ofN B64 (d * T)).length (ofN B64 (d * T)).length, .slice (some ⟨p.2.1, 0, none⟩) (ofN B64 (d * (if ex then T else T + 1))).length (ofN B64 (d * (if ex then T else T + 1))).length, .int .i64 e, .bool true])
   (fun p => [⟨p.1.1, cl .u64 (ofN B64 (d * T)) p.1.2, 22⟩, ⟨p.2.1, cl .u64 (ofN B64 (d * (if ex then T else T + 1))) p.2.2, 22⟩]) (fun _ => []) := by
 have zq : (!((a == a) && ((b == b) && (((hiI T == hiI T) && (loI T == loI T)) && ((e == e) && ((ex == ex) && (true == true))))))) = false := by simp
 have cs := ct_impl_Power_scale a b T hT e ex true d hd
 refine cm_of Try.func19 rfl (by kernel_rfl) (fun B w0 => ?_)
 refine xg ?_
 refine xb 3 [.int .i64 a, .int .i64 b, .int .u64 (hiI T), .int .u64 (loI T), .int .i64 e, .bool ex, .bool true] 26 (fun g0 => ?_)
 refine xb 4 [.slice none 0 0, .slice none 0 0, .int .i64 0, .bool false] 43 (fun g1 => ?_)
 refine xz [] [] ?_
 refine SW_seq ?_
 refine xd (fun hB => ?_)
 refine xdk [(0, []), (1, [0]), (2, []), (3, []), (4, [0]), (5, []), (6, [0]), (7, []), (8, [0])] [(13, .int .i64 b), (11, .int .i64 a), (9, .agg #[.int .i64 a, .int .i64 b, .int .u64 (hiI T), .int .u64 (loI T), .int .i64 e, .bool ex, .bool true]), (8, .bool false)] hB ?_
 refine xdv 9 14 ci zs0 ?_
 refine xdw 10 15 (.bool (!((a == a) && ((b == b) && (((hiI T == hiI T) && (loI T == loI T)) && ((e == e) && ((ex == ex) && (true == true)))))))) hB (fun w _ _ => run_neq rfl (by kernel_rfl) (by kernel_rfl) (by kernel_rfl) w (eq_power _ _ _ _ _ _ _ _ _ _ _ _ _ _ _ w)) ?_
 refine xdk [(11, [])] [(16, .bool !(a == a && (b == b && (hiI T == hiI T && loI T == loI T && (e == e && (ex == ex && true == true))))))] hB ?_
 refine xdz ?_
 refine xsf zq ?_
 refine SW_skip ?_
 refine xg ?_
 refine xn 2 [(0, [0])] [(19, .int .u64 (d : Int)), (18, .agg #[.int .i64 a, .int .i64 b, .int .u64 (hiI T), .int .u64 (loI T), .int .i64 e, .bool ex, .bool true])] ?_
 (refine xcm 20 [false] cs zs0 (fun zz => ?_); obtain ⟨⟨z0, z1⟩, ⟨z2, z3⟩⟩ := zz)
 refine xy [(3, [1])] [] [(1, [.slice (some ⟨z0, 0, none⟩) (List.length (ofN B64 (d * T))) (List.length (ofN B64 (d * T))), .slice (some ⟨z2, 0, none⟩) (List.length (ofN B64 (d * if ex = true then T else T + 1))) (List.length (ofN B64 (d * if ex = true then T else T + 1))), .int .i64 e, .bool true])] ?_
 refine SW_ret ?_
 refine xmeg (.agg #[.slice (some ⟨z0, 0, none⟩) (List.length (ofN B64 (d * T))) (List.length (ofN B64 (d * T))), .slice (some ⟨z2, 0, none⟩) (List.length (ofN B64 (d * if ex = true then T else T + 1))) (List.length (ofN B64 (d * if ex = true then T else T + 1))), .int .i64 e, .bool true]) [1] ?_
 exact ⟨((z0, z1), (z2, z3)), [false, false, true, true], rfl, rfl, zs0⟩
theorem scale_out (a b : Int) (T : Nat) (e : Int) (x y : Bool) (d : Int) (cs : ∃ (a' b' c' d' e' : Int) (x' y' : Bool), CtV Try.prog 6 [.int .i64 a, .int .i64 b] [] (.agg #[.int .i64 a', .int .i64 b', .int .u64 c', .int .u64 d', .int .i64 e', .bool x', .bool y']) ∧ CtV Try.prog 7 [.int .i64 a, .int .i64 b] [] (.agg #[.int .i64 a', .int .i64 b', .int .u64 c', .int .u64 d', .int .i64 e', .bool x', .bool y']) ∧
  (y = false ∨ ¬ (a' = a ∧ b' = b ∧ c' = hiI T ∧ d' = loI T ∧ e' = e ∧ x' = x ∧ y' = y))) :
  CtV Try.prog 17 [.int .u64 d, powr a b T e x y] [] spanZ ∧ CtV Try.prog 19 [.int .u64 d, powr a b T e x y] [] spanZ := by
 obtain ⟨a', b', c', d', e', x', y', cs, ci, h⟩ := cs
 cases y with
 | false =>
  constructor
  ·refine ct_of Try.func17 rfl (by kernel_rfl) (fun B w0 => ?_)
   refine xg ?_
   refine xb 3 [.int .i64 a, .int .i64 b, .int .u64 (hiI T), .int .u64 (loI T), .int .i64 e, .bool x, .bool false] 26 (fun g0 => ?_)
   refine xb 4 [.slice none 0 0, .slice none 0 0, .int .i64 0, .bool false] 43 (fun g1 => ?_)
   refine xz [] [] ?_
   refine SW_seq ?_
   refine xd (fun hB => ?_)
   refine xdk [(0, []), (1, [0]), (2, []), (3, []), (4, []), (5, []), (6, []), (7, []), (8, []), (9, [0]), (10, []), (11, [])] [(18, .bool true)] hB ?_
   refine xdz ?_
   refine xs1 ?_
   refine xq [(1, [1])] [] [] ?_
   refine SW_ret ?_
   refine xe () (.agg #[.slice none 0 0, .slice none 0 0, .int .i64 0, .bool false]) [1] ?_ trivial
   rfl
  ·refine ct_of Try.func19 rfl (by kernel_rfl) (fun B w0 => ?_)
   refine xg ?_
   refine xb 3 [.int .i64 a, .int .i64 b, .int .u64 (hiI T), .int .u64 (loI T), .int .i64 e, .bool x, .bool false] 26 (fun g0 => ?_)
   refine xb 4 [.slice none 0 0, .slice none 0 0, .int .i64 0, .bool false] 43 (fun g1 => ?_)
   refine xz [] [] ?_
   refine SW_seq ?_
   refine xd (fun hB => ?_)
   refine xdk [(0, []), (1, [0]), (2, []), (3, []), (4, [0]), (5, []), (6, []), (7, []), (8, []), (9, []), (10, []), (11, [])] [(16, .bool true)] hB ?_
   refine xdz ?_
   refine xs1 ?_
   refine xq [(1, [1])] [] [] ?_
   refine SW_ret ?_
   refine xe () (.agg #[.slice none 0 0, .slice none 0 0, .int .i64 0, .bool false]) [1] ?_ trivial
   rfl
 | true =>
  have h := h.resolve_left (by decide)
  have q1 : (!((a' == a) && ((b' == b) && (((c' == hiI T) && (d' == loI T)) && ((e' == e) && ((x' == x) && (y' == true))))))) = true := by
   cases hh : ((a' == a) && ((b' == b) && (((c' == hiI T) && (d' == loI T)) && ((e' == e) && ((x' == x) && (y' == true)))))) with
   | false => rfl
   | true => simp only [Bool.and_eq_true, beq_iff_eq] at hh; exact absurd ⟨hh.1, hh.2.1, hh.2.2.1.1, hh.2.2.1.2, hh.2.2.2.1, hh.2.2.2.2.1, hh.2.2.2.2.2⟩ h
  have q2 : (!((a == a') && ((b == b') && (((hiI T == c') && (loI T == d')) && ((e == e') && ((x == x') && (true == y'))))))) = true := by
   cases hh : ((a == a') && ((b == b') && (((hiI T == c') && (loI T == d')) && ((e == e') && ((x == x') && (true == y')))))) with
   | false => rfl
   | true => simp only [Bool.and_eq_true, beq_iff_eq] at hh; exact absurd ⟨hh.1.symm, hh.2.1.symm, hh.2.2.1.1.symm, hh.2.2.1.2.symm, hh.2.2.2.1.symm, hh.2.2.2.2.1.symm, hh.2.2.2.2.2.symm⟩ h
  constructor
  ·refine ct_of Try.func17 rfl (by kernel_rfl) (fun B w0 => ?_)
   refine xg ?_
   refine xb 3 [.int .i64 a, .int .i64 b, .int .u64 (hiI T), .int .u64 (loI T), .int .i64 e, .bool x, .bool true] 26 (fun g0 => ?_)
   refine xb 4 [.slice none 0 0, .slice none 0 0, .int .i64 0, .bool false] 43 (fun g1 => ?_)
   refine xz [] [] ?_
   refine SW_seq ?_
   refine xd (fun hB => ?_)
   refine xdk [(0, []), (1, [0]), (2, []), (3, []), (4, []), (5, [0]), (6, []), (7, [0]), (9, [0])] [(16, .agg #[.int .i64 a, .int .i64 b, .int .u64 (hiI T), .int .u64 (loI T), .int .i64 e, .bool x, .bool true]), (14, .int .i64 b), (12, .int .i64 a), (10, .bool false)] hB ?_
   refine xdv 8 15 cs zs0 ?_
   refine xdw 10 17 (.bool (!((a' == a) && ((b' == b) && (((c' == hiI T) && (d' == loI T)) && ((e' == e) && ((x' == x) && (y' == true)))))))) hB (fun w _ _ => run_neq rfl (by kernel_rfl) (by kernel_rfl) (by kernel_rfl) w (eq_power _ _ _ _ _ _ _ _ _ _ _ _ _ _ _ w)) ?_
   refine xdk [(11, [])] [(18, .bool !(a' == a && (b' == b && (c' == hiI T && d' == loI T && (e' == e && (x' == x && y' == true))))))] hB ?_
   refine xdz ?_
   refine xst q1 ?_
   refine xq [(1, [1])] [] [] ?_
   refine SW_ret ?_
   refine xe () (.agg #[.slice none 0 0, .slice none 0 0, .int .i64 0, .bool false]) [1] ?_ trivial
   rfl
  ·refine ct_of Try.func19 rfl (by kernel_rfl) (fun B w0 => ?_)
   refine xg ?_
   refine xb 3 [.int .i64 a, .int .i64 b, .int .u64 (hiI T), .int .u64 (loI T), .int .i64 e, .bool x, .bool true] 26 (fun g0 => ?_)
   refine xb 4 [.slice none 0 0, .slice none 0 0, .int .i64 0, .bool false] 43 (fun g1 => ?_)
   refine xz [] [] ?_
   refine SW_seq ?_
   refine xd (fun hB => ?_)
   refine xdk [(0, []), (1, [0]), (2, []), (3, []), (4, [0]), (5, []), (6, [0]), (7, []), (8, [0])] [(13, .int .i64 b), (11, .int .i64 a), (9, .agg #[.int .i64 a, .int .i64 b, .int .u64 (hiI T), .int .u64 (loI T), .int .i64 e, .bool x, .bool true]), (8, .bool false)] hB ?_
   refine xdv 9 14 ci zs0 ?_
   refine xdw 10 15 (.bool (!((a == a') && ((b == b') && (((hiI T == c') && (loI T == d')) && ((e == e') && ((x == x') && (true == y')))))))) hB (fun w _ _ => run_neq rfl (by kernel_rfl) (by kernel_rfl) (by kernel_rfl) w (eq_power _ _ _ _ _ _ _ _ _ _ _ _ _ _ _ w)) ?_
   refine xdk [(11, [])] [(16, .bool !(a == a' && (b == b' && (hiI T == c' && loI T == d' && (e == e' && (x == x' && true == y'))))))] hB ?_
   refine xdz ?_
   refine xst q2 ?_
   refine xq [(1, [1])] [] [] ?_
   refine SW_ret ?_
   refine xe () (.agg #[.slice none 0 0, .slice none 0 0, .int .i64 0, .bool false]) [1] ?_ trivial
   rfl
end Go.Proofs.Ytlfpjlfmjojimaa.M
end
section
namespace Go.Proofs.Ytlfpjlfmjojimaa.M
open Go.RowKit Go.Proofs.Ytlfpjlfmjojimaa.G Go.Proofs.YtlfpjlfmjojimaaV.PrintWords Go.Proofs.YtlfpjlfmjojimaaV.PrintLast Go.Proofs.Ytlfpjlfmjojimaa.X
set_option linter.unusedVariables false
set_option linter.unusedSimpArgs false
abbrev spanO (g1 g2 n1 n2 : Nat) (e : Int) (ok : Bool) : Value := .agg #[.slice (some ⟨g1, 0, none⟩) n1 n1, .slice (some ⟨g2, 0, none⟩) n2 n2, .int .i64 e, .bool ok]
theorem ct_laws_eqSpan (g1 g2 : Nat) (r1 r2 : List Int) (q1 q2 : List Value) (A A' : Option Addr) (c c' : Nat) (e : Int) (ok : Bool) (h1 : r1.length ≤ 1000000) (h2 : r2.length ≤ 1000000) :
  CtM Try.prog 20 [spanO g1 g2 r1.length r2.length e ok, .agg #[.slice A r1.length c, .slice A' r2.length c', .int .i64 e, .bool ok]] [⟨g1, cl .u64 r1 q1, 22⟩, ⟨g2, cl .u64 r2 q2, 22⟩] [Row .u64 A c r1, Row .u64 A' c' r2] (γ := Unit) (fun _ => .bool true) (fun _ => [⟨g1, cl .u64 r1 q1, 22⟩, ⟨g2, cl .u64 r2 q2, 22⟩]) (fun _ => []) := by
 have z1 : (e != e) = false := by simp
 have z2 : (!(ok == ok)) = false := by simp
 have c1 := ct_laws_eqUint64S' g1 r1.length r1 q1 A c (by omega) (Nat.le_refl _)
 have c2 := ct_laws_eqUint64S' g2 r2.length r2 q2 A' c' (by omega) (Nat.le_refl _)
 refine cm_of Try.func20 rfl (by kernel_rfl) (fun B w0 => ?_)
 refine xg ?_
 refine xb 2 [.slice (some ⟨g1, 0, none⟩) (List.length r1) (List.length r1), .slice (some ⟨g2, 0, none⟩) (List.length r2) (List.length r2), .int .i64 e, .bool ok] 43 (fun g3 => ?_)
 refine xb 3 [.slice A (List.length r1) c, .slice A' (List.length r2) c', .int .i64 e, .bool ok] 43 (fun g4 => ?_)
 refine xz [] [(4, .bool false)] ?_
 refine SW_seq ?_
 refine xg ?_
 refine xn 4 [(1, [2]), (3, [3])] [(8, .slice A (List.length r1) c), (6, .slice (some ⟨g1, 0, none⟩) (List.length r1) (List.length r1))] ?_
 refine xcm 9 [true] c1 (zsS zi0 zs0) (fun z3 => ?_)
 refine xz [] [(10, .bool false)] ?_
 refine xs0 ?_
 refine SW_skip ?_
 refine SW_seq ?_
 refine xg ?_
 refine xn 4 [(1, [2]), (3, [3])] [(14, .slice A' (List.length r2) c'), (12, .slice (some ⟨g2, 0, none⟩) (List.length r2) (List.length r2))] ?_
 refine xcm 15 [false, true] c2 (zsS (ziS zi0) zs0) (fun z4 => ?_)
 refine xz [] [(16, .bool false)] ?_
 refine xs0 ?_
 refine SW_skip ?_
 refine SW_seq ?_
 refine xr [(1, [2]), (3, [3])] [(21, .bool (e != e))] ?_
 refine xsf z1 ?_
 refine SW_skip ?_
 refine SW_seq ?_
 refine xr [(1, [2]), (3, [3])] [(26, .bool !ok == ok)] ?_
 refine xsf z2 ?_
 refine SW_skip ?_
 refine xr [] [(4, .bool true)] ?_
 refine SW_ret ?_
 refine xmeg (.bool true) [] ?_
 exact ⟨(), [true, true], rfl, rfl, zs0⟩
theorem ct_laws_eqSpan' (e : Int) (ok : Bool) : CtV Try.prog 20 [.agg #[.slice none 0 0, .slice none 0 0, .int .i64 e, .bool ok], .agg #[.slice none 0 0, .slice none 0 0, .int .i64 e, .bool ok]] [] (.bool true) := by
 have z1 : (e != e) = false := by simp
 have z2 : (!(ok == ok)) = false := by simp
 have c1 : CtV Try.prog 53 [.slice none 0 0, .slice none 0 0] [] (.bool true) := Ct_drop (Row_nil .u64 0) (Ct_drop (Row_nil .u64 0) (ct_laws_eqUint64S [] none none 0 0 (by decide)))
 refine ct_of Try.func20 rfl (by kernel_rfl) (fun B w0 => ?_)
 refine xg ?_
 refine xb 2 [.slice none 0 0, .slice none 0 0, .int .i64 e, .bool ok] 43 (fun g0 => ?_)
 refine xb 3 [.slice none 0 0, .slice none 0 0, .int .i64 e, .bool ok] 43 (fun g1 => ?_)
 refine xz [] [(4, .bool false)] ?_
 refine SW_seq ?_
 refine xg ?_
 refine xn 4 [(1, [0]), (3, [1])] [(8, .slice none 0 0), (6, .slice none 0 0)] ?_
 refine xcv 9 c1 zs0 ?_
 refine xz [] [(10, .bool false)] ?_
 refine xs0 ?_
 refine SW_skip ?_
 refine SW_seq ?_
 refine xg ?_
 refine xn 4 [(1, [0]), (3, [1])] [(14, .slice none 0 0), (12, .slice none 0 0)] ?_
 refine xcv 15 c1 zs0 ?_
 refine xz [] [(16, .bool false)] ?_
 refine xs0 ?_
 refine SW_skip ?_
 refine SW_seq ?_
 refine xr [(1, [0]), (3, [1])] [(21, .bool (e != e))] ?_
 refine xsf z1 ?_
 refine SW_skip ?_
 refine SW_seq ?_
 refine xr [(1, [0]), (3, [1])] [(26, .bool !ok == ok)] ?_
 refine xsf z2 ?_
 refine SW_skip ?_
 refine xr [] [(4, .bool true)] ?_
 refine SW_ret ?_
 refine xe () (.bool true) [] ?_ trivial
 rfl
theorem ct_laws_markSpan (g1 g2 n1 n2 k : Nat) (r1 r2 : List Int) (q1 q2 : List Value) (e : Int) (ok : Bool) (e1 : r1.length = n1) (e2 : r2.length = n2) (h1 : n1 ≤ 1000000) (h2 : n2 ≤ 1000000) (hk : k ≤ 1000000) :
  CtM Try.prog 21 [spanO g1 g2 n1 n2 e ok, .int .i64 (k : Int)] [⟨g1, cl .u64 r1 q1, 22⟩, ⟨g2, cl .u64 r2 q2, 22⟩] [] (γ := Unit) (fun _ => .int .i64 ((k + n1 + n2 : Nat) : Int)) (fun _ => [⟨g1, cl .u64 (mkL .u64 k n1) q1, 22⟩, ⟨g2, cl .u64 (mkL .u64 (k + n1) n2) q2, 22⟩]) (fun _ => []) := by
 have c1 := ct_laws_markUint64S g1 k n1 n1 r1 q1 e1 (by omega)
 have c2 := ct_laws_markUint64S g2 (k + n1) n2 n2 r2 q2 e2 (by omega)
 refine cm_of Try.func21 rfl (by kernel_rfl) (fun B w0 => ?_)
 refine xg ?_
 refine xb 2 [.slice (some ⟨g1, 0, none⟩) n1 n1, .slice (some ⟨g2, 0, none⟩) n2 n2, .int .i64 e, .bool ok] 43 (fun g3 => ?_)
 refine xz [] [(4, .int .i64 0)] ?_
 refine xg ?_
 refine xn 3 [(1, [2])] [(7, .int .i64 (k : Int)), (6, .slice (some ⟨g1, 0, none⟩) n1 n1)] ?_
 refine xcm 8 [true] c1 zs0 (fun z0 => ?_)
 refine xz [] [(1, .int .i64 (((k + n1) : Nat) : Int))] ?_
 refine xg ?_
 refine xn 3 [(1, [2])] [(11, .int .i64 (((k + n1) : Nat) : Int)), (10, .slice (some ⟨g2, 0, none⟩) n2 n2)] ?_
 refine xcm 12 [false, true] c2 zs0 (fun z1 => ?_)
 refine xz [] [(1, .int .i64 (((k + n1 + n2) : Nat) : Int))] ?_
 refine xr [] [(4, .int .i64 (((k + n1 + n2) : Nat) : Int))] ?_
 refine SW_ret ?_
 refine xmeg (.int .i64 (((k + n1 + n2) : Nat) : Int)) [] ?_
 exact ⟨(), [true, true], rfl, rfl, zs0⟩
theorem ct_laws_heldSpan (g1 g2 n1 n2 k : Nat) (q1 q2 : List Value) (e : Int) (ok : Bool) (h1 : n1 ≤ 1000000) (h2 : n2 ≤ 1000000) (hk : k ≤ 1000000) :
  CtM Try.prog 22 [spanO g1 g2 n1 n2 e ok, .int .i64 (k : Int)] [⟨g1, cl .u64 (mkL .u64 k n1) q1, 22⟩, ⟨g2, cl .u64 (mkL .u64 (k + n1) n2) q2, 22⟩] [] (γ := Unit) (fun _ => .int .i64 ((k + n1 + n2 : Nat) : Int)) (fun _ => [⟨g1, cl .u64 (mkL .u64 k n1) q1, 22⟩, ⟨g2, cl .u64 (mkL .u64 (k + n1) n2) q2, 22⟩]) (fun _ => []) := by
 have c1 := ct_laws_heldUint64S g1 k n1 n1 q1 (by omega)
 have c2 := ct_laws_heldUint64S g2 (k + n1) n2 n2 q2 (by omega)
 have z1 : decide (((k + n1 : Nat) : Int) < 0) = false := decide_eq_false (by omega)
 have z2 : decide (((k + n1 + n2 : Nat) : Int) < 0) = false := decide_eq_false (by omega)
 refine cm_of Try.func22 rfl (by kernel_rfl) (fun B w0 => ?_)
 refine xg ?_
 refine xb 2 [.slice (some ⟨g1, 0, none⟩) n1 n1, .slice (some ⟨g2, 0, none⟩) n2 n2, .int .i64 e, .bool ok] 43 (fun g3 => ?_)
 refine xz [] [(4, .int .i64 0)] ?_
 refine xg ?_
 refine xn 3 [(1, [2])] [(7, .int .i64 (k : Int)), (6, .slice (some ⟨g1, 0, none⟩) n1 n1)] ?_
 refine xcm 8 [true] c1 zs0 (fun z3 => ?_)
 refine xz [] [(1, .int .i64 (((k + n1) : Nat) : Int))] ?_
 refine SW_seq ?_
 refine xr [] [(10, .bool (decide ((((k + n1) : Nat) : Int) < 0)))] ?_
 refine xsf z1 ?_
 refine SW_skip ?_
 refine xg ?_
 refine xn 3 [(1, [2])] [(13, .int .i64 (((k + n1) : Nat) : Int)), (12, .slice (some ⟨g2, 0, none⟩) n2 n2)] ?_
 refine xcm 14 [false, true] c2 zs0 (fun z4 => ?_)
 refine xz [] [(1, .int .i64 (((k + n1 + n2) : Nat) : Int))] ?_
 refine SW_seq ?_
 refine xr [] [(16, .bool (decide ((((k + n1 + n2) : Nat) : Int) < 0)))] ?_
 refine xsf z2 ?_
 refine SW_skip ?_
 refine xr [] [(4, .int .i64 (((k + n1 + n2) : Nat) : Int))] ?_
 refine SW_ret ?_
 refine xmeg (.int .i64 (((k + n1 + n2) : Nat) : Int)) [] ?_
 exact ⟨(), [true, true], rfl, rfl, zs0⟩
theorem ct_laws_markSpan' (e k : Int) (ok : Bool) : CtV Try.prog 21 [.agg #[.slice none 0 0, .slice none 0 0, .int .i64 e, .bool ok], .int .i64 k] [] (.int .i64 k) := by
 refine ct_of Try.func21 rfl (by kernel_rfl) (fun B w0 => ?_)
 refine xg ?_
 refine xb 2 [.slice none 0 0, .slice none 0 0, .int .i64 e, .bool ok] 43 (fun g0 => ?_)
 refine xz [] [(4, .int .i64 0)] ?_
 refine xg ?_
 refine xn 3 [(1, [0])] [(7, .int .i64 k), (6, .slice none 0 0)] ?_
 refine xcv 8 (ct_laws_markUint64S' (k) (0)) zs0 ?_
 refine xz [] [(1, .int .i64 k)] ?_
 refine xg ?_
 refine xn 3 [(1, [0])] [(11, .int .i64 k), (10, .slice none 0 0)] ?_
 refine xcv 12 (ct_laws_markUint64S' (k) (0)) zs0 ?_
 refine xz [] [(1, .int .i64 k)] ?_
 refine xr [] [(4, .int .i64 k)] ?_
 refine SW_ret ?_
 refine xe () (.int .i64 k) [] ?_ trivial
 rfl
theorem ct_laws_heldSpan' (e k : Int) (ok : Bool) (hk : 0 ≤ k) : CtV Try.prog 22 [.agg #[.slice none 0 0, .slice none 0 0, .int .i64 e, .bool ok], .int .i64 k] [] (.int .i64 k) := by
 have z1 : decide (k < 0) = false := decide_eq_false (by omega)
 refine ct_of Try.func22 rfl (by kernel_rfl) (fun B w0 => ?_)
 refine xg ?_
 refine xb 2 [.slice none 0 0, .slice none 0 0, .int .i64 e, .bool ok] 43 (fun g0 => ?_)
 refine xz [] [(4, .int .i64 0)] ?_
 refine xg ?_
 refine xn 3 [(1, [0])] [(7, .int .i64 k), (6, .slice none 0 0)] ?_
 refine xcv 8 (ct_laws_heldUint64S' (k) (0)) zs0 ?_
 refine xz [] [(1, .int .i64 k)] ?_
 refine SW_seq ?_
 refine xr [] [(10, .bool (decide (k < 0)))] ?_
 refine xsf z1 ?_
 refine SW_skip ?_
 refine xg ?_
 refine xn 3 [(1, [0])] [(13, .int .i64 k), (12, .slice none 0 0)] ?_
 refine xcv 14 (ct_laws_heldUint64S' (k) (0)) zs0 ?_
 refine xz [] [(1, .int .i64 k)] ?_
 refine SW_seq ?_
 refine xr [] [(16, .bool (decide (k < 0)))] ?_
 refine xsf z1 ?_
 refine SW_skip ?_
 refine xr [] [(4, .int .i64 k)] ?_
 refine SW_ret ?_
 refine xe () (.int .i64 k) [] ?_ trivial
 rfl
theorem ct_laws_toPower (a b h l e : Int) (x y : Bool) : CtV Try.prog 18 [.agg #[.int .i64 a, .int .i64 b, .int .u64 h, .int .u64 l, .int .i64 e, .bool x, .bool y]] [] (.agg #[.int .i64 a, .int .i64 b, .int .u64 h, .int .u64 l, .int .i64 e, .bool x, .bool y]) := by
 refine ct_of Try.func18 rfl (by kernel_rfl) (fun B w0 => ?_)
 refine xg ?_
 refine xb 1 [.int .i64 a, .int .i64 b, .int .u64 h, .int .u64 l, .int .i64 e, .bool x, .bool y] 41 (fun g0 => ?_)
 refine xb 2 [.int .i64 0, .int .i64 0, .int .u64 0, .int .u64 0, .int .i64 0, .bool false, .bool false] 26 (fun g1 => ?_)
 refine xz [] [] ?_
 refine xg ?_
 refine xb 3 [.int .i64 0, .int .i64 0, .int .u64 0, .int .u64 0, .int .i64 0, .bool false, .bool false] 26 (fun g2 => ?_)
 refine xz [] [] ?_
 refine xq [(1, [0]), (3, [2])] [] [(2, [.int .i64 a, .int .i64 0, .int .u64 0, .int .u64 0, .int .i64 0, .bool false, .bool false])] ?_
 refine xq [(1, [0]), (3, [2])] [] [(2, [.int .i64 a, .int .i64 b, .int .u64 0, .int .u64 0, .int .i64 0, .bool false, .bool false])] ?_
 refine xg ?_
 refine xn 2 [(1, [0])] [(11, .agg #[.int .u64 h, .int .u64 l])] ?_
 refine xcv 12 (ct_laws_toWord (h) (l)) zs0 ?_
 refine xy [(4, [2])] [] [(2, [.int .i64 a, .int .i64 b, .int .u64 h, .int .u64 l, .int .i64 0, .bool false, .bool false])] ?_
 refine xq [(1, [0]), (3, [2])] [] [(2, [.int .i64 a, .int .i64 b, .int .u64 h, .int .u64 l, .int .i64 e, .bool false, .bool false])] ?_
 refine xq [(1, [0]), (3, [2])] [] [(2, [.int .i64 a, .int .i64 b, .int .u64 h, .int .u64 l, .int .i64 e, .bool x, .bool false])] ?_
 refine xq [(1, [0]), (3, [2])] [] [(2, [.int .i64 a, .int .i64 b, .int .u64 h, .int .u64 l, .int .i64 e, .bool x, .bool y])] ?_
 refine xq [(0, [2]), (1, [1])] [] [(1, [.int .i64 a, .int .i64 b, .int .u64 h, .int .u64 l, .int .i64 e, .bool x, .bool y])] ?_
 refine SW_ret ?_
 refine xe () (.agg #[.int .i64 a, .int .i64 b, .int .u64 h, .int .u64 l, .int .i64 e, .bool x, .bool y]) [1] ?_ trivial
 rfl
theorem ct_laws_FnExactScale (d : Nat) (hd : d < 18446744073709551616) (a b : Int) (T : Nat) (hT : T < B128) (e : Int) (x y : Bool) : CtV Try.prog 5 [.int .u64 (d : Int), powr a b T e x y] [] (.bool true) := by
 obtain ⟨a', b', c', d', e', x', y', cs, ci⟩ := tenPower_both a b
 have tp := ct_laws_toPower a b (hiI T) (loI T) e x y
 by_cases hg : y = true ∧ a' = a ∧ b' = b ∧ c' = hiI T ∧ d' = loI T ∧ e' = e ∧ x' = x ∧ y' = y
 ·obtain ⟨rfl, rfl, rfl, rfl, rfl, rfl, rfl, rfl⟩ := hg
  have ks := ct_spec_Scale_in a' b' T hT e' x' d hd cs
  have ki := ct_impl_Scale_in a' b' T hT e' x' d hd ci
  have l1 : (ofN B64 (d * T)).length ≤ 1000000 := by
   have := (Sm.of (n := d * T) (k := 64 + 128) (by rw [Nat.pow_add]; exact Nat.mul_lt_mul'' hd hT) (by decide)).len64
   omega
  have l2 : (ofN B64 (d * (if x' then T else T + 1))).length ≤ 1000000 := by
   have h1 : (if x' then T else T + 1) < 2 ^ 129 := by have : (B128 : Nat) = 2 ^ 128 := rfl; split <;> omega
   have := (Sm.of (n := d * (if x' then T else T + 1)) (k := 64 + 129) (by rw [Nat.pow_add]; exact Nat.mul_lt_mul'' hd h1) (by decide)).len64
   omega
  obtain ⟨r1, hr1⟩ : ∃ r1, ofN B64 (d * T) = r1 := ⟨_, rfl⟩
  obtain ⟨r2, hr2⟩ : ∃ r2, ofN B64 (d * (if x' then T else T + 1)) = r2 := ⟨_, rfl⟩
  rw [hr1, hr2] at ks
  rw [hr1, hr2] at ki
  rw [hr1] at l1
  rw [hr2] at l2
  clear hr1 hr2 cs ci
  have zz : decide (((1 + r1.length + r2.length : Nat) : Int) < 0) = false := decide_eq_false (by omega)
  have zw : (((1 + r1.length + r2.length : Nat) : Int) != ((1 + r1.length + r2.length : Nat) : Int)) = false := by simp
  have cmk := fun g1 g2 q1 q2 => ct_laws_markSpan g1 g2 r1.length r2.length 1 r1 r2 q1 q2 e' true rfl rfl l1 l2 (by decide)
  have chd := fun g1 g2 q1 q2 => ct_laws_heldSpan g1 g2 r1.length r2.length 1 q1 q2 e' true l1 l2 (by decide)
  refine ct_of Try.func5 rfl (by kernel_rfl) (fun B w0 => ?_)
  refine xg ?_
  refine xb 3 [.int .i64 a', .int .i64 b', .int .u64 (hiI T), .int .u64 (loI T), .int .i64 e', .bool x', .bool true] 41 (fun g0 => ?_)
  refine xz [] [(4, .bool false)] ?_
  refine xg ?_
  refine xn 2 [(1, [0])] [(11, .agg #[.int .i64 a', .int .i64 b', .int .u64 (hiI T), .int .u64 (loI T), .int .i64 e', .bool x', .bool true]), (10, .int .u64 (d : Int))] ?_
  refine xcv 12 tp zs0 ?_
  (refine xck 13 ks zs0 (fun zz => ?_); obtain ⟨⟨z0, z1⟩, ⟨z2, z3⟩⟩ := zz)
  refine xb 5 [.slice none 0 0, .slice none 0 0, .int .i64 0, .bool false] 43 (fun g1 => ?_)
  refine xy [(5, [1])] [] [(1, [.slice z0 (List.length r1) z1, .slice z2 (List.length r2) z3, .int .i64 e', .bool true])] ?_
  refine xg ?_
  refine xn 2 [(1, [0])] [(15, .agg #[.int .i64 a', .int .i64 b', .int .u64 (hiI T), .int .u64 (loI T), .int .i64 e', .bool x', .bool true]), (14, .int .u64 (d : Int))] ?_
  refine xcv 16 tp zs0 ?_
  (refine xcm 17 [false] ki zs0 (fun zz => ?_); obtain ⟨⟨z4, z5⟩, ⟨z6, z7⟩⟩ := zz)
  refine xb 6 [.slice none 0 0, .slice none 0 0, .int .i64 0, .bool false] 43 (fun g2 => ?_)
  refine xy [(5, [4])] [] [(4, [.slice (some ⟨z4, 0, none⟩) (List.length r1) (List.length r1), .slice (some ⟨z6, 0, none⟩) (List.length r2) (List.length r2), .int .i64 e', .bool true])] ?_
  refine SW_seq ?_
  refine xg ?_
  refine xn 2 [(0, [4]), (1, [1])] [(19, .agg #[.slice z0 (List.length r1) z1, .slice z2 (List.length r2) z3, .int .i64 e', .bool true]), (18, .agg #[.slice (some ⟨z4, 0, none⟩) (List.length r1) (List.length r1), .slice (some ⟨z6, 0, none⟩) (List.length r2) (List.length r2), .int .i64 e', .bool true])] ?_
  refine xcm 20 [false, false, true, true] (ct_laws_eqSpan (z4) (z6) (r1) (r2) (z5) (z7) (z0) (z2) (z1) (z3) (e') (true) l1 l2) (zsS zi0 (zsS (ziS zi0) zs0)) (fun z8 => ?_)
  refine xz [] [(21, .bool false)] ?_
  refine xs0 ?_
  refine SW_skip ?_
  refine xr [] [(7, .int .i64 1)] ?_
  refine xg ?_
  refine xn 2 [(0, [4])] [(23, .int .i64 1), (22, .agg #[.slice (some ⟨z4, 0, none⟩) (List.length r1) (List.length r1), .slice (some ⟨z6, 0, none⟩) (List.length r2) (List.length r2), .int .i64 e', .bool true])] ?_
  refine xcm 24 [false, false, true, true] (cmk (z4) (z6) (z5) (z7)) zs0 (fun z9 => ?_)
  refine xz [] [(7, .int .i64 (((1 + List.length r1 + List.length r2) : Nat) : Int))] ?_
  refine xr [] [(8, .int .i64 1)] ?_
  refine xg ?_
  refine xn 2 [(0, [4])] [(26, .int .i64 1), (25, .agg #[.slice (some ⟨z4, 0, none⟩) (List.length r1) (List.length r1), .slice (some ⟨z6, 0, none⟩) (List.length r2) (List.length r2), .int .i64 e', .bool true])] ?_
  refine xcm 27 [false, false, true, true] (chd (z4) (z6) (z5) (z7)) zs0 (fun z10 => ?_)
  refine xz [] [(8, .int .i64 (((1 + List.length r1 + List.length r2) : Nat) : Int))] ?_
  refine SW_seq ?_
  refine xr [] [(29, .bool (decide ((((1 + List.length r1 + List.length r2) : Nat) : Int) < 0)))] ?_
  refine xsf zz ?_
  refine SW_skip ?_
  refine SW_seq ?_
  refine xr [] [(32, .bool ((((1 + List.length r1 + List.length r2) : Nat) : Int) != (((1 + List.length r1 + List.length r2) : Nat) : Int)))] ?_
  refine xsf zw ?_
  refine SW_skip ?_
  refine xg ?_
  refine xn 2 [(1, [0])] [(34, .agg #[.int .i64 a', .int .i64 b', .int .u64 (hiI T), .int .u64 (loI T), .int .i64 e', .bool x', .bool true]), (33, .int .u64 (d : Int))] ?_
  refine xcv 35 tp zs0 ?_
  (refine xcm 36 [false] ki zs0 (fun zz => ?_); obtain ⟨⟨z11, z12⟩, ⟨z13, z14⟩⟩ := zz)
  refine xb 9 [.slice none 0 0, .slice none 0 0, .int .i64 0, .bool false] 43 (fun g3 => ?_)
  refine xy [(5, [7])] [] [(7, [.slice (some ⟨z11, 0, none⟩) (List.length r1) (List.length r1), .slice (some ⟨z13, 0, none⟩) (List.length r2) (List.length r2), .int .i64 e', .bool true])] ?_
  refine SW_seq ?_
  refine xg ?_
  refine xn 2 [(0, [7]), (1, [1])] [(38, .agg #[.slice z0 (List.length r1) z1, .slice z2 (List.length r2) z3, .int .i64 e', .bool true]), (37, .agg #[.slice (some ⟨z11, 0, none⟩) (List.length r1) (List.length r1), .slice (some ⟨z13, 0, none⟩) (List.length r2) (List.length r2), .int .i64 e', .bool true])] ?_
  refine xcm 39 [false, false, false, false, false, true, true] (ct_laws_eqSpan (z11) (z13) (r1) (r2) (z12) (z14) (z0) (z2) (z1) (z3) (e') (true) l1 l2) (zsS zi0 (zsS (ziS zi0) zs0)) (fun z15 => ?_)
  refine xz [] [(40, .bool false)] ?_
  refine xs0 ?_
  refine SW_skip ?_
  refine xr [] [(8, .int .i64 1)] ?_
  refine xg ?_
  refine xn 2 [(0, [4])] [(42, .int .i64 1), (41, .agg #[.slice (some ⟨z4, 0, none⟩) (List.length r1) (List.length r1), .slice (some ⟨z6, 0, none⟩) (List.length r2) (List.length r2), .int .i64 e', .bool true])] ?_
  refine xcm 43 [false, false, true, true] (chd (z4) (z6) (z5) (z7)) zs0 (fun z16 => ?_)
  refine xz [] [(8, .int .i64 (((1 + List.length r1 + List.length r2) : Nat) : Int))] ?_
  refine SW_seq ?_
  refine xr [] [(45, .bool (decide ((((1 + List.length r1 + List.length r2) : Nat) : Int) < 0)))] ?_
  refine xsf zz ?_
  refine SW_skip ?_
  refine SW_seq ?_
  refine xr [] [(48, .bool ((((1 + List.length r1 + List.length r2) : Nat) : Int) != (((1 + List.length r1 + List.length r2) : Nat) : Int)))] ?_
  refine xsf zw ?_
  refine SW_skip ?_
  refine xr [] [(4, .bool true)] ?_
  refine SW_ret ?_
  refine xe () (.bool true) [] ?_ trivial
  rfl
 ·obtain ⟨ks, ki⟩ := scale_out a b T e x y (d : Int) ⟨a', b', c', d', e', x', y', cs, ci, by
   cases y with
   | false => exact .inl rfl
   | true => exact .inr (fun h => hg ⟨rfl, h⟩)⟩
  clear cs ci
  refine ct_of Try.func5 rfl (by kernel_rfl) (fun B w0 => ?_)
  refine xg ?_
  refine xb 3 [.int .i64 a, .int .i64 b, .int .u64 (hiI T), .int .u64 (loI T), .int .i64 e, .bool x, .bool y] 41 (fun g0 => ?_)
  refine xz [] [(4, .bool false)] ?_
  refine xg ?_
  refine xn 2 [(1, [0])] [(11, .agg #[.int .i64 a, .int .i64 b, .int .u64 (hiI T), .int .u64 (loI T), .int .i64 e, .bool x, .bool y]), (10, .int .u64 (d : Int))] ?_
  refine xcv 12 tp zs0 ?_
  refine xcv 13 ks zs0 ?_
  refine xb 5 [.slice none 0 0, .slice none 0 0, .int .i64 0, .bool false] 43 (fun g1 => ?_)
  refine xy [(5, [1])] [] [] ?_
  refine xg ?_
  refine xn 2 [(1, [0])] [(15, .agg #[.int .i64 a, .int .i64 b, .int .u64 (hiI T), .int .u64 (loI T), .int .i64 e, .bool x, .bool y]), (14, .int .u64 (d : Int))] ?_
  refine xcv 16 tp zs0 ?_
  refine xcv 17 ki zs0 ?_
  refine xb 6 [.slice none 0 0, .slice none 0 0, .int .i64 0, .bool false] 43 (fun g2 => ?_)
  refine xy [(5, [2])] [] [] ?_
  refine SW_seq ?_
  refine xg ?_
  refine xn 2 [(0, [2]), (1, [1])] [(19, .agg #[.slice none 0 0, .slice none 0 0, .int .i64 0, .bool false]), (18, .agg #[.slice none 0 0, .slice none 0 0, .int .i64 0, .bool false])] ?_
  refine xcv 20 (ct_laws_eqSpan' (0) (false)) zs0 ?_
  refine xz [] [(21, .bool false)] ?_
  refine xs0 ?_
  refine SW_skip ?_
  refine xr [] [(7, .int .i64 1)] ?_
  refine xg ?_
  refine xn 2 [(0, [2])] [(23, .int .i64 1), (22, .agg #[.slice none 0 0, .slice none 0 0, .int .i64 0, .bool false])] ?_
  refine xcv 24 (ct_laws_markSpan' (0) (1) (false)) zs0 ?_
  refine xz [] [(7, .int .i64 1)] ?_
  refine xr [] [(8, .int .i64 1)] ?_
  refine xg ?_
  refine xn 2 [(0, [2])] [(26, .int .i64 1), (25, .agg #[.slice none 0 0, .slice none 0 0, .int .i64 0, .bool false])] ?_
  refine xcv 27 (ct_laws_heldSpan' (0) (1) (false) (by omega)) zs0 ?_
  refine xz [] [(8, .int .i64 1)] ?_
  refine SW_seq ?_
  refine xr [] [(29, .bool false)] ?_
  refine xs0 ?_
  refine SW_skip ?_
  refine SW_seq ?_
  refine xr [] [(32, .bool false)] ?_
  refine xs0 ?_
  refine SW_skip ?_
  refine xg ?_
  refine xn 2 [(1, [0])] [(34, .agg #[.int .i64 a, .int .i64 b, .int .u64 (hiI T), .int .u64 (loI T), .int .i64 e, .bool x, .bool y]), (33, .int .u64 (d : Int))] ?_
  refine xcv 35 tp zs0 ?_
  refine xcv 36 ki zs0 ?_
  refine xb 9 [.slice none 0 0, .slice none 0 0, .int .i64 0, .bool false] 43 (fun g3 => ?_)
  refine xy [(5, [3])] [] [] ?_
  refine SW_seq ?_
  refine xg ?_
  refine xn 2 [(0, [3]), (1, [1])] [(38, .agg #[.slice none 0 0, .slice none 0 0, .int .i64 0, .bool false]), (37, .agg #[.slice none 0 0, .slice none 0 0, .int .i64 0, .bool false])] ?_
  refine xcv 39 (ct_laws_eqSpan' (0) (false)) zs0 ?_
  refine xz [] [(40, .bool false)] ?_
  refine xs0 ?_
  refine SW_skip ?_
  refine xr [] [(8, .int .i64 1)] ?_
  refine xg ?_
  refine xn 2 [(0, [2])] [(42, .int .i64 1), (41, .agg #[.slice none 0 0, .slice none 0 0, .int .i64 0, .bool false])] ?_
  refine xcv 43 (ct_laws_heldSpan' (0) (1) (false) (by omega)) zs0 ?_
  refine xz [] [(8, .int .i64 1)] ?_
  refine SW_seq ?_
  refine xr [] [(45, .bool false)] ?_
  refine xs0 ?_
  refine SW_skip ?_
  refine SW_seq ?_
  refine xr [] [(48, .bool false)] ?_
  refine xs0 ?_
  refine SW_skip ?_
  refine xr [] [(4, .bool true)] ?_
  refine SW_ret ?_
  refine xe () (.bool true) [] ?_ trivial
  rfl
end Go.Proofs.Ytlfpjlfmjojimaa.M
end
