import Derived.Conc.MuLone
import Derived.Test.YtlfpjlfmjojimaaQFnPowerj
section
namespace Go.Proofs.Ytlfpjlfmjojimaa.X
open Go.RowKit Go.Proofs.YtlfpjlfmjojimaaV.PrintWords Go.Proofs.YtlfpjlfmjojimaaV.PrintLast Go.Conc.Locks
set_option linter.unusedVariables false
set_option linter.unusedSimpArgs false
abbrev muL : MuLink := { lock := 61, unlock := 62, ilock := 70, iunlock := 71, lockSlow := 80, unlockSlow := 83, disable := 76, enable := 78, acquire := 79, relMerge := 81, cas32 := 77, add32 := 82, tMutex := 89, tIMutex := 87, tPMutex := 100, tPIMutex := 104, tPI32 := 106, tUP := 108, tNoCopy := 84, tU32 := 85 }
theorem muLib : MuLib Try.prog muL := by
  constructor <;> first | kernel_rfl | (intro w; kernel_rfl) | rfl
theorem cell0 {g : Nat} {v : Value} {r : List Value} {ty : TypeId} {w : World} (h : w.heap[g]? = some (.cells (v :: r).toArray ty (0, 0))) : w.cell? ⟨g, 0, none⟩ = some v ∧ w.frozen? ⟨g, 0, none⟩ = false := by
  simp [World.cell?, World.frozen?, h]
theorem set0 {X : Cx} {e : List (Nat × Value)} {g : Nat} {v u : Value} {r : List Value} {ty : TypeId} {fs : List Fact} {w : World} (h : Holds X ⟨e, [⟨g, v :: r, ty⟩], fs⟩ w) : Holds X ⟨e, [⟨g, u :: r, ty⟩], fs⟩ (w.setCell ⟨g, 0, none⟩ u) := by
  have hx := setB_ext (bs := [⟨g, v :: r, (ty : Ty)⟩]) (h := 0) (a := ⟨g, 0, none⟩) (v := u) (u := v) (t := ty) rfl rfl rfl rfl rfl h.box h.nodup
  exact h.ext hx e
theorem lock_ct (g : Nat) (q : Value) (r : List Value) (ty : TypeId) :
    CtM Try.prog 61 [.pointer (some ⟨g, 0, none⟩)] [⟨g, .int .i32 0 :: q :: r, ty⟩] [] (γ := Unit) (fun _ => .tuple #[]) (fun _ => [⟨g, .int .i32 1 :: q :: r, ty⟩]) (fun _ => []) := by
  intro B w hB hbs hnd hp
  obtain ⟨h1, h2⟩ := cell0 (hbs _ (List.mem_singleton.2 rfl))
  refine (Go.MuLone.lock_free muLib ⟨g, 0, none⟩ w h1 h2).mono ?_
  rintro e w' ⟨rfl, rfl⟩
  refine ⟨(), rfl, ?_⟩
  have h0 : Holds ⟨Try.prog, 0, B, ⟨w, [g], []⟩, none⟩ ⟨[], [⟨g, .int .i32 0 :: q :: r, ty⟩], []⟩ w :=
    ⟨Kept.of (Below.refl _ _), hbs, fun b hb => .inr (by rw [List.mem_singleton.1 hb]; exact List.mem_singleton.2 rfl), hnd, (fun F hF => by cases hF), hB⟩
  exact set0 h0
abbrev unlockD (g : Nat) : Deferred := ⟨.fn (.func 62) #[], #[.pointer (some ⟨g, 0, none⟩)]⟩
theorem leave_unlock {n : Nat} {B M : List Nat} {w0 : World} {fn : Func} {γ : Type} {val : γ → Value} {bs' : γ → List Box} {post : γ → List Fact} {env : List (Nat × Value)} {bs : List Box} {fs : List Fact} (h g : Nat) (q : Value) (r : List Value) (ty : TypeId) (g0 : γ) (m : List Bool) (hs : List Nat) (v : Value)
    (hv : v = val g0) (hm : bs' g0 = pick (setB bs h 0 (.int .i32 0)) m) (hsub : Sub (post g0) fs) (hb : bs[h]? = some ⟨g, .int .i32 1 :: q :: r, ty⟩ := by rfl)
    (ho : outN Try.prog fn ⟨env, setB bs h 0 (.int .i32 0), fs⟩ hs = some (v, fsts (psO (outN Try.prog fn ⟨env, setB bs h 0 (.int .i32 0), fs⟩ hs))) := by kernel_rfl) :
    RetL (Cx.push ⟨Try.prog, n, B, ⟨w0, M, []⟩, none⟩ (unlockD g)) fn (LeftM Try.prog B ⟨w0, M, []⟩ val bs' post) .ret ⟨env, bs, fs⟩ := by
  intro a w ha hw
  have hd : a.defers = [unlockD g] := ha.defers
  rw [hd]
  have hbw : w.heap[g]? = some (.cells (.int .i32 1 :: q :: r).toArray ty (0, 0)) := hw.box _ (List.mem_of_getElem? hb)
  obtain ⟨h1, h2⟩ := cell0 hbw
  refine leaves_cons (by intro h; cases h) (by kernel_rfl : _ = Result.ok (Next.enter 62 #[.pointer (some ⟨g, 0, none⟩)]) w) ((Go.MuLone.unlock_deferred muLib ⟨g, 0, none⟩ .returning w h1 h2).mono ?_)
  rintro e u' w' ⟨rfl, rfl, rfl⟩
  have hx : Holds ⟨Try.prog, n, B, ⟨w0, M, []⟩, none⟩ ⟨env, setB bs h 0 (.int .i32 0), fs⟩ (w.setCell ⟨g, 0, none⟩ (.int .i32 0)) := by
    have h3 := hw.ext (setB_ext (a := ⟨g, 0, none⟩) (v := .int .i32 0) (u := .int .i32 1) (t := ty) hb rfl rfl rfl rfl hw.box hw.nodup) env
    exact ⟨⟨h3.below.os, h3.below.tape, h3.below.output, h3.below.size, h3.below.block⟩, h3.box, h3.new, h3.nodup, h3.fact, h3.old⟩
  have ha2 : Agree (n, []) ⟨env, setB bs h 0 (.int .i32 0), fs⟩ ⟨a.tmps, []⟩ := ⟨ha.size, rfl, ha.env⟩
  exact left_end (P := Try.prog) ha2 hx g0 m hs _ (by rw [← fsts_dup, ← hv]; exact ho) hm hsub
end Go.Proofs.Ytlfpjlfmjojimaa.X
end
section
namespace Go.Proofs.Ytlfpjlfmjojimaa.M
open Go.RowKit Go.Proofs.Ytlfpjlfmjojimaa.G Go.Proofs.YtlfpjlfmjojimaaV.PrintWords Go.Proofs.YtlfpjlfmjojimaaV.PrintLast Go.Proofs.Ytlfpjlfmjojimaa.X
set_option linter.unusedVariables false
set_option linter.unusedSimpArgs false
theorem ct_sync_Mutex_Lock (g : Nat) (q : Value) (r : List Value) (ty : TypeId) :
  CtM Try.prog 61 [.pointer (some ⟨g, 0, none⟩)] [⟨g, .int .i32 0 :: q :: r, ty⟩] [] (γ := Unit) (fun _ => .tuple #[]) (fun _ => [⟨g, .int .i32 1 :: q :: r, ty⟩]) (fun _ => []) := lock_ct g q r ty
theorem ct_impl_newTens : CtM Try.prog 29 [] [] [] (γ := Nat × Nat) (fun g => .pointer (some ⟨g.1, 0, none⟩)) (fun g => [⟨g.2, [], .ob (.map #[] 0)⟩, ⟨g.1, [.int .i32 0, .int .u32 0, .map (some g.2)], 91⟩]) (fun _ => []) := by
 refine cm_of Try.func29 rfl (by kernel_rfl) (fun B w0 => ?_)
 refine xr [] [(0, .pointer none)] ?_
 refine xg ?_
 refine xbo 1 (fun g0 => Value.map (some g0)) (fun g0 => ⟨g0, [], Ty.ob (Obj.map #[] 0)⟩) (fun g0 => ?_)
 refine xn 2 [] [(2, .agg #[.int .i32 0, .int .u32 0, Value.map (some g0)])] ?_
 refine xb 3 [.int .i32 0, .int .u32 0, Value.map (some g0)] 91 (fun g1 => ?_)
 refine xz [] [(0, .pointer (some ⟨g1, 0, none⟩))] ?_
 refine SW_ret ?_
 refine xmeg (.pointer (some ⟨g1, 0, none⟩)) [] ?_
 exact ⟨(g1, g0), [true, true], rfl, rfl, zs0⟩
theorem ct_impl_tens_power (g gm : Nat) (k w : Int) (a b : Int) (c d : Int) (e : Int) (f h : Bool) (ct : CtV Try.prog 63 [.int .i64 k, .int .i64 w] [] (.agg #[.int .i64 a, .int .i64 b, .int .u64 c, .int .u64 d, .int .i64 e, .bool f, .bool h])) :
  CtM Try.prog 30 [.pointer (some ⟨g, 0, none⟩), .int .i64 k, .int .i64 w] [⟨gm, [], .ob (.map #[] 0)⟩, ⟨g, [.int .i32 0, .int .u32 0, .map (some gm)], 91⟩] [] (γ := Unit) (fun _ => .agg #[.int .i64 a, .int .i64 b, .int .u64 c, .int .u64 d, .int .i64 e, .bool f, .bool h])
   (fun _ => [⟨gm, [], .ob (.map #[⟨.agg #[.int .i64 k, .int .i64 w], .agg #[.int .i64 a, .int .i64 b, .int .u64 c, .int .u64 d, .int .i64 e, .bool f, .bool h], 0⟩] 1)⟩, ⟨g, [.int .i32 0, .int .u32 0, .map (some gm)], 91⟩]) (fun _ => []) := by
 refine cm_ofD Try.func30 rfl (by kernel_rfl) (fun B w0 M => ?_)
 refine SQ_cut (K := fun _ _ => False) (fun s => ∃ g0, Weak s ⟨[(0, .pointer (some ⟨g, 0, none⟩)), (1, .int .i64 k), (2, .int .i64 w), (6, .pointer (some ⟨g0, 0, none⟩))], [⟨gm, [], .ob (.map #[] 0)⟩, ⟨g, [.int .i32 0, .int .u32 0, .map (some gm)], 91⟩, ⟨g0, [.int .i64 0, .int .i64 0, .int .u64 0, .int .u64 0, .int .i64 0, .bool false, .bool false], 26⟩], []⟩) ?_ (fun _ _ _ _ _ _ z => z.elim) (fun s hw => ?_)
 ·refine SW_region ?_
  refine xb 6 [.int .i64 0, .int .i64 0, .int .u64 0, .int .u64 0, .int .i64 0, .bool false, .bool false] 26 (fun g0 => ?_)
  refine xz [] [] ?_
  refine ⟨(g0), xw zs0⟩
 obtain ⟨g0, hw⟩ := hw
 refine SQ_weak hw ?_
 clear hw
 refine SQ_cut (K := fun _ _ => False) (fun s => Weak s ⟨[(0, .pointer (some ⟨g, 0, none⟩)), (1, .int .i64 k), (2, .int .i64 w), (6, .pointer (some ⟨g0, 0, none⟩))], [⟨gm, [], .ob (.map #[] 0)⟩, ⟨g, [.int .i32 1, .int .u32 0, .map (some gm)], 91⟩, ⟨g0, [.int .i64 0, .int .i64 0, .int .u64 0, .int .u64 0, .int .i64 0, .bool false, .bool false], 26⟩], []⟩) ?_ (fun _ _ _ _ _ _ z => z.elim) (fun s hw => ?_)
 ·refine SW_region ?_
  refine xn 3 [] [(12, .pointer (some ⟨g, 0, none⟩)), (11, .pointer (some ⟨g, 0, none⟩)), (10, .pointer (some ⟨g, 0, none⟩))] ?_
  refine xcm 13 [false, true] (ct_sync_Mutex_Lock (g) (.int .u32 0) ([Value.map (some gm)]) (91)) zs0 (fun z0 => ?_)
  refine xz [] [] ?_
  exact xw zs0
 refine SQ_weak hw ?_
 clear hw
 refine SQ_seq (SQ_region (NQ_v 14 (.pointer (some ⟨g, 0, none⟩)) (NQ_v 15 (.pointer (some ⟨g, 0, none⟩)) (NQ_v 16 (.pointer (some ⟨g, 0, none⟩)) (NQ_defer (unlockD g) (NQ_end rfl (SQ_of (K := RetL _ Try.f30 _) ?_ RetL.post)))))))
 refine xg ?_
 refine xn 3 [] [(19, .agg #[.int .i64 k, .int .i64 w])] ?_
 refine xb 7 [.int .i64 0, .int .i64 0] 92 (fun g1 => ?_)
 refine xy [(4, [3])] [] [(3, [.int .i64 k, .int .i64 w])] ?_
 refine xd (fun hB => ?_)
 refine xdk [(0, []), (1, []), (2, []), (3, [1]), (4, [3]), (5, [0]), (6, []), (7, []), (8, [])] [(28, .bool false), (27, .agg #[.int .i64 0, .int .i64 0, .int .u64 0, .int .u64 0, .int .i64 0, .bool false, .bool false])] hB ?_
 refine xdb 9 8 [.int .i64 0, .int .i64 0, .int .u64 0, .int .u64 0, .int .i64 0, .bool false, .bool false] 26 (fun g2 => ?_)
 refine xds 10 [4] [] ?_
 refine xdk [(11, [])] [(9, .bool false)] hB ?_
 refine xdz ?_
 refine SW_seq ?_
 refine xr [] [(30, .bool true)] ?_
 refine xs1 ?_
 refine xg ?_
 refine xn 2 [] [(32, .int .i64 w), (31, .int .i64 k)] ?_
 refine xcv 33 ct zs0 ?_
 refine xy [(3, [4])] [] [(4, [.int .i64 a, .int .i64 b, .int .u64 c, .int .u64 d, .int .i64 e, .bool f, .bool h])] ?_
 refine xdl (fun hB => ?_)
 refine xdk [(0, []), (1, []), (2, []), (3, [1]), (4, [3]), (5, [4])] [(39, .agg #[.int .i64 a, .int .i64 b, .int .u64 c, .int .u64 d, .int .i64 e, .bool f, .bool h]), (38, .agg #[.int .i64 k, .int .i64 w]), (37, Value.map (some gm))] hB ?_
 refine xdo 6 [0] [⟨gm, [], .ob (.map #[⟨.agg #[.int .i64 k, .int .i64 w], .agg #[.int .i64 a, .int .i64 b, .int .u64 c, .int .u64 d, .int .i64 e, .bool f, .bool h], 0⟩] 1)⟩, ⟨g, [.int .i32 1, .int .u32 0, .map (some gm)], 91⟩, ⟨g0, [.int .i64 0, .int .i64 0, .int .u64 0, .int .u64 0, .int .i64 0, .bool false, .bool false], 26⟩, ⟨g1, [.int .i64 k, .int .i64 w], 92⟩, ⟨g2, [.int .i64 a, .int .i64 b, .int .u64 c, .int .u64 d, .int .i64 e, .bool f, .bool h], 26⟩] ?_
 refine xdz ?_
 refine xq [(0, [4]), (1, [2])] [] [(2, [.int .i64 a, .int .i64 b, .int .u64 c, .int .u64 d, .int .i64 e, .bool f, .bool h])] ?_
 refine SW_ret ?_
 exact leave_unlock 1 g (.int .u32 0) [.map (some gm)] 91 () [true, true] [2, 2, 2, 2, 2, 2, 2] _ rfl rfl zs0
theorem ct_impl_TenPower_of (k w : Int) (a b : Int) (c d : Int) (e : Int) (f h : Bool) (ct : CtV Try.prog 63 [.int .i64 k, .int .i64 w] [] (.agg #[.int .i64 a, .int .i64 b, .int .u64 c, .int .u64 d, .int .i64 e, .bool f, .bool h])) :
  CtV Try.prog 7 [.int .i64 k, .int .i64 w] [] (.agg #[.int .i64 a, .int .i64 b, .int .u64 c, .int .u64 d, .int .i64 e, .bool f, .bool h]) := by
 have cp := fun g gm => ct_impl_tens_power g gm k w a b c d e f h ct
 refine ct_of Try.func7 rfl (by kernel_rfl) (fun B w0 => ?_)
 refine xg ?_
 refine xb 4 [.int .i64 0, .int .i64 0, .int .u64 0, .int .u64 0, .int .i64 0, .bool false, .bool false] 26 (fun g0 => ?_)
 refine xz [] [] ?_
 refine xg ?_
 (refine xcm 5 [false] (ct_impl_newTens) zs0 (fun zz => ?_); obtain ⟨z0, z1⟩ := zz)
 refine xn 3 [] [(7, .int .i64 w), (6, .int .i64 k)] ?_
 refine xcm 8 [false, true, true] (cp (z0) (z1)) zs0 (fun z2 => ?_)
 refine xy [(4, [0])] [] [(0, [.int .i64 a, .int .i64 b, .int .u64 c, .int .u64 d, .int .i64 e, .bool f, .bool h])] ?_
 refine SW_ret ?_
 refine xe () (.agg #[.int .i64 a, .int .i64 b, .int .u64 c, .int .u64 d, .int .i64 e, .bool f, .bool h]) [0] ?_ trivial
 rfl
end Go.Proofs.Ytlfpjlfmjojimaa.M
end
section
namespace Go.Proofs.Ytlfpjlfmjojimaa.M
open Go.RowKit Go.Proofs.Ytlfpjlfmjojimaa.G Go.Proofs.YtlfpjlfmjojimaaV.PrintWords Go.Proofs.YtlfpjlfmjojimaaV.PrintLast Go.Proofs.Ytlfpjlfmjojimaa.X
set_option linter.unusedVariables false
set_option linter.unusedSimpArgs false
theorem powV_eq (k : Int) (w : Nat) (p : Nat × Int × Bool) : powV k w p = .agg #[.int .i64 k, .int .i64 (w : Int), .int .u64 (hiI p.1), .int .u64 (loI p.1), .int .i64 p.2.1, .bool p.2.2, .bool true] := rfl
end Go.Proofs.Ytlfpjlfmjojimaa.M
end
section
namespace Go.Proofs.Ytlfpjlfmjojimaa.M
open Go.RowKit Go.Proofs.Ytlfpjlfmjojimaa.G Go.Proofs.YtlfpjlfmjojimaaV.PrintWords Go.Proofs.YtlfpjlfmjojimaaV.PrintLast Go.Proofs.Ytlfpjlfmjojimaa.X
set_option linter.unusedVariables false
set_option linter.unusedSimpArgs false
theorem ct_spec_l1Reader_next (g : Nat) (A : Option Addr) (c : Nat) (bt : List Int) (a : Int) (i : Nat) (ha : Nn a i) (hi : i ≤ bt.length) (hx : bt.length ≤ 1048576) (dx : Dig 256 bt) :
  CtM Try.prog 64 [.pointer (some ⟨g, 0, none⟩)] [⟨g, [.slice A bt.length c, .int .i64 a], 60⟩] [Row .u8 A c bt] (γ := {p : Nat × Nat // p.1 ≤ bt.length ∧ p.2 < 256}) (fun p => .int .i64 (p.1.2 : Int)) (fun p => [⟨g, [.slice A bt.length c, .int .i64 (p.1.1 : Int)], 60⟩]) (fun _ => []) := by
 obtain ⟨rfl⟩ := ha
 refine cm_of Try.func64 rfl (by kernel_rfl) (fun B w0 => ?_)
 by_cases h : i < bt.length
 ·have z : decide ((i : Int) ≥ (bt.length : Int)) = false := decide_eq_false (by omega)
  refine SW_know zi0 (fun w h => row_at h (by omega)) (fun ⟨ad, e⟩ => ?_)
  subst e
  have v1 : Ve (IntKind.i64.wrap ((i : Int) + 1)) ((i + 1 : Nat) : Int) := ⟨by rw [wrap_i64 (by omega)]; rfl⟩
  have hd := dx.rd (by decide) (i : Int)
  have v2 : Ve (IntKind.i64.wrap (rd bt (i : Int))) (rd bt (i : Int)).toNat := ⟨by rw [wrap_i64 (by omega)]; omega⟩
  refine xr [] [(2, .int .i64 0)] ?_
  refine SW_seq ?_
  refine xd (fun hB => ?_)
  refine xdk [(0, []), (1, []), (2, []), (3, [0]), (4, []), (5, []), (6, []), (7, [0]), (8, []), (9, [])] [(13, .bool (decide ((i : Int) ≥ (((List.length bt) : Nat) : Int))))] hB ?_
  refine xdz ?_
  refine xsf z ?_
  refine SW_skip ?_
  refine xd (fun hB => ?_)
  refine xdk [(0, []), (1, []), (2, []), (3, [0]), (4, []), (5, []), (6, []), (7, [0])] [(21, .int .i64 (i : Int)), (17, .slice (some ad) (List.length bt) c)] hB ?_
  refine xdfi 8 hB 22 5 (ad) (List.length bt) (c) (i) IntKind.i64 ((i : Int)) ⟨rfl⟩ (by omega) ?_
  refine xdfl 9 hB 23 zi0 (i) (by omega) ?_
  refine xdk [(10, [])] [(3, .int .u8 (rd bt (i : Int)))] hB ?_
  refine xdz ?_
  refine xg ?_
  refine xn 4 [(3, [0])] [(27, .int .i64 (i : Int)), (24, .pointer (some ⟨g, 0, none⟩))] ?_
  refine xve 28 IntKind.i64 (IntKind.wrap IntKind.i64 ((i : Int) + 1)) ((((i + 1) : Nat) : Int)) v1 ?_
  refine xy [(7, [0])] [] [(0, [.slice (some ad) (List.length bt) c, .int .i64 (((i + 1) : Nat) : Int)])] ?_
  refine xg ?_
  refine xn 1 [] [(31, .int .u8 (rd bt (i : Int)))] ?_
  refine xve 32 IntKind.i64 (IntKind.wrap IntKind.i64 (rd bt (i : Int))) ((((Int.toNat (rd bt (i : Int))) : Nat) : Int)) v2 ?_
  refine xz [] [(2, .int .i64 (((Int.toNat (rd bt (i : Int))) : Nat) : Int))] ?_
  refine SW_ret ?_
  refine xmeg (.int .i64 (((Int.toNat (rd bt (i : Int))) : Nat) : Int)) [] ?_
  exact ⟨⟨(i + 1, (rd bt (i : Int)).toNat), by dsimp only; omega, by dsimp only; omega⟩, [true], rfl, rfl, zs0⟩
 ·have z : decide ((i : Int) ≥ (bt.length : Int)) = true := decide_eq_true (by omega)
  refine xr [] [(2, .int .i64 0)] ?_
  refine SW_seq ?_
  refine xd (fun hB => ?_)
  refine xdk [(0, []), (1, []), (2, []), (3, [0]), (4, []), (5, []), (6, []), (7, [0]), (8, []), (9, [])] [(13, .bool (decide ((i : Int) ≥ (((List.length bt) : Nat) : Int))))] hB ?_
  refine xdz ?_
  refine xst z ?_
  refine xr [] [(2, .int .i64 0)] ?_
  refine SW_ret ?_
  refine xmeg (.int .i64 0) [] ?_
  exact ⟨⟨(i, 0), hi, Nat.succ_pos _⟩, [true], rfl, rfl, zs0⟩
end Go.Proofs.Ytlfpjlfmjojimaa.M
end
section
namespace Go.Proofs.Ytlfpjlfmjojimaa.M
open Go.RowKit Go.Proofs.Ytlfpjlfmjojimaa.G Go.Proofs.YtlfpjlfmjojimaaV.PrintWords Go.Proofs.YtlfpjlfmjojimaaV.PrintLast Go.Proofs.Ytlfpjlfmjojimaa.X
set_option linter.unusedVariables false
set_option linter.unusedSimpArgs false
theorem ct_spec_l1Reader_power (g : Nat) (A : Option Addr) (c : Nat) (bt : List Int) (a : Int) (i : Nat) (ha : Nn a i) (hi : i ≤ bt.length) (hx : bt.length ≤ 1048576) (dx : Dig 256 bt) :
  CtM Try.prog 32 [.pointer (some ⟨g, 0, none⟩)] [⟨g, [.slice A bt.length c, .int .i64 a], 60⟩] [Row .u8 A c bt] (γ := {p : Nat × Int // p.1 ≤ bt.length ∧ -20000 ≤ p.2 ∧ p.2 ≤ 20000}) (fun p => .int .i64 p.1.2) (fun p => [⟨g, [.slice A bt.length c, .int .i64 (p.1.1 : Int)], 60⟩]) (fun _ => []) := by
 refine cm_of Try.func32 rfl (by kernel_rfl) (fun B w0 => ?_)
 have vm : ∀ n : Nat, Ve (Int.tmod (n : Int) 256) ((n % 256 : Nat) : Int) := fun n => ⟨by rw [Int.tmod_eq_emod_of_nonneg (by omega)]; omega⟩
 have vm3 : ∀ n : Nat, Ve (Int.tmod (n : Int) 3) ((n % 3 : Nat) : Int) := fun n => ⟨by rw [Int.tmod_eq_emod_of_nonneg (by omega)]; omega⟩
 refine xr [] [(2, .int .i64 0)] ?_
 refine xg ?_
 refine xn 1 [] [(5, .pointer (some ⟨g, 0, none⟩))] ?_
 (refine xcm 6 [true] (ct_spec_l1Reader_next (g) (A) (c) (bt) (a) (i) ha hi hx dx) (zsS zi0 zs0) (fun zz => ?_); obtain ⟨⟨z0, z1⟩, p2⟩ := zz)
 refine xz [] [(3, .int .i64 (z1 : Int))] ?_
 refine SW_seq ?_
 refine xr [] [(8, .int .i64 (Int.tmod (z1 : Int) 8))] ?_
 refine SW_block ?_
 refine xr [] [(9, .bool (Int.tmod (z1 : Int) 8 == 0))] ?_
 refine xs (Int.tmod (z1 : Int) 8 == 0) (fun q0 => ?_) (fun q0 => ?_)
 ·have v1 : Ve (IntKind.i64.wrap (Int.tdiv (z1 : Int) 8)) ((z1 / 8 : Nat) : Int) := ⟨by rw [Int.tdiv_eq_ediv_of_nonneg (by omega), wrap_i64 (by omega)]; omega⟩
  have v2 : Ve (IntKind.i64.wrap (((z1 / 8 : Nat) : Int) - 15)) (((z1 / 8 : Nat) : Int) - 15) := ⟨wrap_i64 (by omega)⟩
  refine xg ?_
  refine xn 1 [] [(11, .int .i64 (z1 : Int))] ?_
  refine xve 12 IntKind.i64 (IntKind.wrap IntKind.i64 (Int.tdiv (z1 : Int) 8)) ((((z1 / 8) : Nat) : Int)) v1 ?_
  refine xve 13 IntKind.i64 (IntKind.wrap IntKind.i64 ((((z1 / 8) : Nat) : Int) - 15)) ((((z1 / 8) : Nat) : Int) - 15) v2 ?_
  refine xz [] [(2, .int .i64 ((((z1 / 8) : Nat) : Int) - 15))] ?_
  refine SW_ret ?_
  refine xmeg (.int .i64 ((((z1 / 8) : Nat) : Int) - 15)) [] ?_
  exact ⟨⟨(z0, ((z1 / 8 : Nat) : Int) - 15), p2.1, by dsimp only; omega, by dsimp only; omega⟩, [true], rfl, rfl, zs0⟩
 ·refine xr [] [(14, .bool (Int.tmod (z1 : Int) 8 == 1))] ?_
  refine xs (Int.tmod (z1 : Int) 8 == 1) (fun q1 => ?_) (fun q1 => ?_)
  ·have v2 : ∀ n : Nat, n < 256 → Ve (IntKind.i64.wrap ((n : Int) - 128)) ((n : Int) - 128) := fun n h => ⟨wrap_i64 (by omega)⟩
   refine xg ?_
   refine xn 1 [] [(16, .pointer (some ⟨g, 0, none⟩))] ?_
   (refine xcm 17 [true] (ct_spec_l1Reader_next (g) (A) (c) (bt) ((z0 : Int)) (z0) ⟨rfl⟩ (by omega) hx dx) (zsS zi0 zs0) (fun zz => ?_); obtain ⟨⟨z3, z4⟩, p5⟩ := zz)
   refine xz [] [(2, .int .i64 (IntKind.wrap IntKind.i64 ((z4 : Int) - 128)))] ?_
   refine SW_ret ?_
   refine xmeg (.int .i64 (IntKind.wrap IntKind.i64 ((z4 : Int) - 128))) [] ?_
   have e : IntKind.i64.wrap ((z4 : Int) - 128) = (z4 : Int) - 128 := wrap_i64 (by omega)
   rw [e]
   exact ⟨⟨(z3, (z4 : Int) - 128), p5.1, by dsimp only; omega, by dsimp only; omega⟩, [true], rfl, rfl, zs0⟩
  ·refine xr [] [(19, .bool (Int.tmod (z1 : Int) 8 == 2))] ?_
   refine xs (Int.tmod (z1 : Int) 8 == 2) (fun q2 => ?_) (fun q2 => ?_)
   ·refine xg ?_
    refine xn 1 [] [(21, .pointer (some ⟨g, 0, none⟩))] ?_
    (refine xcm 22 [true] (ct_spec_l1Reader_next (g) (A) (c) (bt) ((z0 : Int)) (z0) ⟨rfl⟩ (by omega) hx dx) (zsS zi0 zs0) (fun zz => ?_); obtain ⟨⟨z3, z4⟩, p5⟩ := zz)
    refine xn 6 [] [(26, .pointer (some ⟨g, 0, none⟩)), (25, .int .i64 (IntKind.wrap IntKind.i64 (Int.tmod (IntKind.wrap IntKind.i64 ((z4 : Int) * 256)) 10401 - 5200)))] ?_
    (refine xcm 27 [true] (ct_spec_l1Reader_next (g) (A) (c) (bt) ((z3 : Int)) (z3) ⟨rfl⟩ (by omega) hx dx) (zsS zi0 zs0) (fun zz => ?_); obtain ⟨⟨z6, z7⟩, p8⟩ := zz)
    refine xve 28 IntKind.i64 (Int.tmod (z7 : Int) 256) ((((z7 % 256) : Nat) : Int)) (vm _) ?_
    refine xz [] [(2, .int .i64 (IntKind.wrap IntKind.i64 (IntKind.wrap IntKind.i64 (Int.tmod (IntKind.wrap IntKind.i64 ((z4 : Int) * 256)) 10401 - 5200) + (((z7 % 256) : Nat) : Int))))] ?_
    refine SW_ret ?_
    refine xmeg (.int .i64 (IntKind.wrap IntKind.i64 (IntKind.wrap IntKind.i64 (Int.tmod (IntKind.wrap IntKind.i64 ((z4 : Int) * 256)) 10401 - 5200) + (((z7 % 256) : Nat) : Int)))) [] ?_
    have e1 : IntKind.i64.wrap ((z4 : Int) * 256) = ((z4 * 256 : Nat) : Int) := by rw [wrap_i64 (by omega)]; omega
    have e2 : Int.tmod ((z4 * 256 : Nat) : Int) 10401 = ((z4 * 256 % 10401 : Nat) : Int) := by rw [Int.tmod_eq_emod_of_nonneg (by omega)]; omega
    have hm : z4 * 256 % 10401 < 10401 := Nat.mod_lt _ (by decide)
    have hm2 : z7 % 256 < 256 := Nat.mod_lt _ (by decide)
    obtain ⟨u, hu⟩ : ∃ u, z4 * 256 % 10401 = u := ⟨_, rfl⟩
    obtain ⟨v, hv⟩ : ∃ v, z7 % 256 = v := ⟨_, rfl⟩
    rw [e1, e2, hu, hv]
    rw [hu] at hm
    rw [hv] at hm2
    have e3 : IntKind.i64.wrap ((u : Int) - 5200) = (u : Int) - 5200 := wrap_i64 (by omega)
    have e4 : IntKind.i64.wrap ((u : Int) - 5200 + (v : Int)) = (u : Int) - 5200 + (v : Int) := wrap_i64 (by omega)
    rw [e3, e4]
    exact ⟨⟨(z6, (u : Int) - 5200 + (v : Int)), p8.1, by dsimp only; omega, by dsimp only; omega⟩, [true], rfl, rfl, zs0⟩
   ·refine xr [] [(30, .bool (Int.tmod (z1 : Int) 8 == 3))] ?_
    refine xs (Int.tmod (z1 : Int) 8 == 3) (fun q3 => ?_) (fun q3 => ?_)
    ·refine xg ?_
     refine xn 1 [] [(32, .pointer (some ⟨g, 0, none⟩))] ?_
     (refine xcm 33 [true] (ct_spec_l1Reader_next (g) (A) (c) (bt) ((z0 : Int)) (z0) ⟨rfl⟩ (by omega) hx dx) (zsS zi0 zs0) (fun zz => ?_); obtain ⟨⟨z3, z4⟩, p5⟩ := zz)
     refine xve 34 IntKind.i64 (Int.tmod (z4 : Int) 3) ((((z4 % 3) : Nat) : Int)) (vm3 _) ?_
     refine xz [] [(4, .int .i64 (IntKind.wrap IntKind.i64 (5199 + (((z4 % 3) : Nat) : Int))))] ?_
     refine SW_seq ?_
     refine xr [] [(37, .bool (decide ((z1 : Int) ≥ 128)))] ?_
     refine xs (decide ((z1 : Int) ≥ 128)) (fun q4 => ?_) (fun q4 => ?_)
     ·have e1 : IntKind.i64.wrap (5199 + ((z4 % 3 : Nat) : Int)) = 5199 + ((z4 % 3 : Nat) : Int) := wrap_i64 (by omega)
      have e2 : IntKind.i64.wrap (0 - (5199 + ((z4 % 3 : Nat) : Int))) = -(5199 + ((z4 % 3 : Nat) : Int)) := by rw [wrap_i64 (by omega)]; omega
      rw [e1]
      refine xrl [] [(4, .int .i64 (IntKind.wrap IntKind.i64 (0 - (5199 + (((z4 % 3) : Nat) : Int)))))] ?_
      refine xr [] [(2, .int .i64 (IntKind.wrap IntKind.i64 (0 - (5199 + (((z4 % 3) : Nat) : Int)))))] ?_
      refine SW_ret ?_
      refine xmeg (.int .i64 (IntKind.wrap IntKind.i64 (0 - (5199 + (((z4 % 3) : Nat) : Int))))) [] ?_
      rw [e2]
      exact ⟨⟨(z3, -(5199 + ((z4 % 3 : Nat) : Int))), p5.1, by dsimp only; omega, by dsimp only; omega⟩, [true], rfl, rfl, zs0⟩
     ·have e1 : IntKind.i64.wrap (5199 + ((z4 % 3 : Nat) : Int)) = 5199 + ((z4 % 3 : Nat) : Int) := wrap_i64 (by omega)
      rw [e1]
      refine SW_skip ?_
      refine xr [] [(2, .int .i64 (5199 + (((z4 % 3) : Nat) : Int)))] ?_
      refine SW_ret ?_
      refine xmeg (.int .i64 (5199 + (((z4 % 3) : Nat) : Int))) [] ?_
      exact ⟨⟨(z3, 5199 + ((z4 % 3 : Nat) : Int)), p5.1, by dsimp only; omega, by dsimp only; omega⟩, [true], rfl, rfl, zs0⟩
    ·refine SW_skip ?_
     refine xr [] [(2, .int .i64 (IntKind.wrap IntKind.i64 (IntKind.wrap IntKind.i64 (Int.tdiv (z1 : Int) 4) - 32)))] ?_
     refine SW_ret ?_
     refine xmeg (.int .i64 (IntKind.wrap IntKind.i64 (IntKind.wrap IntKind.i64 (Int.tdiv (z1 : Int) 4) - 32))) [] ?_
     have e1 : IntKind.i64.wrap (Int.tdiv (z1 : Int) 4) = ((z1 / 4 : Nat) : Int) := by rw [Int.tdiv_eq_ediv_of_nonneg (by omega), wrap_i64 (by omega)]; omega
     have e2 : IntKind.i64.wrap (((z1 / 4 : Nat) : Int) - 32) = ((z1 / 4 : Nat) : Int) - 32 := wrap_i64 (by omega)
     rw [e1, e2]
     exact ⟨⟨(z0, ((z1 / 4 : Nat) : Int) - 32), p2.1, by dsimp only; omega, by dsimp only; omega⟩, [true], rfl, rfl, zs0⟩
theorem ct_spec_l1Reader_width (g : Nat) (A : Option Addr) (c : Nat) (bt : List Int) (a : Int) (i : Nat) (ha : Nn a i) (hi : i ≤ bt.length) (hx : bt.length ≤ 1048576) (dx : Dig 256 bt) :
  CtM Try.prog 33 [.pointer (some ⟨g, 0, none⟩)] [⟨g, [.slice A bt.length c, .int .i64 a], 60⟩] [Row .u8 A c bt] (γ := {p : Nat × Int // p.1 ≤ bt.length ∧ -1000 ≤ p.2 ∧ p.2 ≤ 1000}) (fun p => .int .i64 p.1.2) (fun p => [⟨g, [.slice A bt.length c, .int .i64 (p.1.1 : Int)], 60⟩]) (fun _ => []) := by
 refine cm_of Try.func33 rfl (by kernel_rfl) (fun B w0 => ?_)
 refine xr [] [(2, .int .i64 0)] ?_
 refine xg ?_
 refine xn 1 [] [(4, .pointer (some ⟨g, 0, none⟩))] ?_
 (refine xcm 5 [true] (ct_spec_l1Reader_next (g) (A) (c) (bt) (a) (i) ha hi hx dx) (zsS zi0 zs0) (fun zz => ?_); obtain ⟨⟨z0, z1⟩, p2⟩ := zz)
 refine xz [] [(3, .int .i64 (z1 : Int))] ?_
 refine SW_seq ?_
 refine xr [] [(7, .bool (decide ((z1 : Int) ≥ 240)))] ?_
 refine xs (decide ((z1 : Int) ≥ 240)) (fun q0 => ?_) (fun q0 => ?_)
 ·have e1 : Int.tmod (z1 : Int) 8 = ((z1 % 8 : Nat) : Int) := by rw [Int.tmod_eq_emod_of_nonneg (by omega)]; omega
  have v1 : Ve (Int.tmod (z1 : Int) 8) ((z1 % 8 : Nat) : Int) := ⟨e1⟩
  refine xg ?_
  refine xbl 8 [.int .i64 0, .int .i64 (-1), .int .i64 129, .int .i64 130, .int .i64 1, .int .i64 2, .int .i64 127, .int .i64 128] 3 8 (fun g0 => ?_)
  refine xn 2 [] [(9, .int .i64 (z1 : Int))] ?_
  refine xve 10 IntKind.i64 (Int.tmod (z1 : Int) 8) ((((z1 % 8) : Nat) : Int)) v1 ?_
  refine xoi 11 3 (g0) (8) (8) (z1 % 8) IntKind.i64 ((((z1 % 8) : Nat) : Int)) ⟨rfl⟩ (by omega) ?_
  rw [show [Value.int .i64 0, .int .i64 (-1), .int .i64 129, .int .i64 130, .int .i64 1, .int .i64 2, .int .i64 127, .int .i64 128] = cl .i64 [0, -1, 129, 130, 1, 2, 127, 128] [] from rfl]
  have hb : ∀ j : Nat, j < 8 → -1000 ≤ rd [0, -1, 129, 130, 1, 2, 127, 128] (j : Int) ∧ rd [0, -1, 129, 130, 1, 2, 127, 128] (j : Int) ≤ 1000 := by decide
  have hb1 := hb (z1 % 8) (Nat.mod_lt _ (by decide))
  refine xol 12 1 (g0) (z1 % 8) IntKind.i64 ([0, -1, 129, 130, 1, 2, 127, 128]) ([]) 3 (by first | omega | (simp <;> omega)) ?_
  refine xz [] [(2, .int .i64 (rd [0, -1, 129, 130, 1, 2, 127, 128] (((z1 % 8) : Nat) : Int)))] ?_
  refine SW_ret ?_
  refine xmeg (.int .i64 (rd [0, -1, 129, 130, 1, 2, 127, 128] (((z1 % 8) : Nat) : Int))) [] ?_
  exact ⟨⟨(z0, rd [0, -1, 129, 130, 1, 2, 127, 128] ((z1 % 8 : Nat) : Int)), p2.1, hb1.1, hb1.2⟩, [true], rfl, rfl, zs0⟩
 ·refine SW_skip ?_
  refine SW_seq ?_
  refine xr [] [(15, .bool (Int.tmod (z1 : Int) 3 == 0))] ?_
  refine xs (Int.tmod (z1 : Int) 3 == 0) (fun q1 => ?_) (fun q1 => ?_)
  ·refine xr [] [(2, .int .i64 64)] ?_
   refine SW_ret ?_
   refine xmeg (.int .i64 64) [] ?_
   exact ⟨⟨(z0, 64), p2.1, by dsimp only; omega, by dsimp only; omega⟩, [true], rfl, rfl, zs0⟩
  ·have v1 : Ve (Int.tmod (z1 : Int) 128) ((z1 % 128 : Nat) : Int) := ⟨by rw [Int.tmod_eq_emod_of_nonneg (by omega)]; omega⟩
   have v2 : Ve (IntKind.i64.wrap (((z1 % 128 : Nat) : Int) + 1)) (((z1 % 128 : Nat) : Int) + 1) := ⟨wrap_i64 (by omega)⟩
   refine SW_skip ?_
   refine xg ?_
   refine xn 1 [] [(16, .int .i64 (z1 : Int))] ?_
   refine xve 17 IntKind.i64 (Int.tmod (z1 : Int) 128) ((((z1 % 128) : Nat) : Int)) v1 ?_
   refine xve 18 IntKind.i64 (IntKind.wrap IntKind.i64 ((((z1 % 128) : Nat) : Int) + 1)) ((((z1 % 128) : Nat) : Int) + 1) v2 ?_
   refine xz [] [(2, .int .i64 ((((z1 % 128) : Nat) : Int) + 1))] ?_
   refine SW_ret ?_
   refine xmeg (.int .i64 ((((z1 % 128) : Nat) : Int) + 1)) [] ?_
   exact ⟨⟨(z0, ((z1 % 128 : Nat) : Int) + 1), p2.1, by dsimp only; omega, by dsimp only; omega⟩, [true], rfl, rfl, zs0⟩
theorem ct_spec_DrawTenPower (A : Option Addr) (c : Nat) (bt : List Int) (hx : bt.length ≤ 1048576) (dx : Dig 256 bt) :
  Ct Try.prog 9 [.slice A bt.length c] [Row .u8 A c bt] (γ := {p : Int × Int // (-20000 ≤ p.1 ∧ p.1 ≤ 20000) ∧ -1000 ≤ p.2 ∧ p.2 ≤ 1000}) (fun p => .tuple #[.int .i64 p.1.1, .int .i64 p.1.2]) (fun _ => []) := by
 have n0 : Nn (0 : Int) 0 := ⟨rfl⟩
 refine ct_of Try.func9 rfl (by kernel_rfl) (fun B w0 => ?_)
 refine xr [] [(3, .int .i64 0), (2, .int .i64 0)] ?_
 refine xg ?_
 refine xn 2 [] [(7, .agg #[.slice A (List.length bt) c, .int .i64 0])] ?_
 refine xb 8 [.slice A (List.length bt) c, .int .i64 0] 60 (fun g0 => ?_)
 refine xz [] [(4, .pointer (some ⟨g0, 0, none⟩))] ?_
 refine xg ?_
 refine xn 1 [] [(9, .pointer (some ⟨g0, 0, none⟩))] ?_
 (refine xcm 10 [true] (ct_spec_l1Reader_power (g0) (A) (c) (bt) (0) (0) n0 (by omega) hx dx) (zsS zi0 zs0) (fun zz => ?_); obtain ⟨⟨z0, z1⟩, p2⟩ := zz)
 refine xz [] [(5, .int .i64 z1)] ?_
 refine xg ?_
 refine xn 2 [] [(12, .pointer (some ⟨g0, 0, none⟩)), (11, .int .i64 z1)] ?_
 (refine xcm 13 [true] (ct_spec_l1Reader_width (g0) (A) (c) (bt) ((z0 : Int)) (z0) ⟨rfl⟩ (by omega) hx dx) (zsS zi0 zs0) (fun zz => ?_); obtain ⟨⟨z3, z4⟩, p5⟩ := zz)
 refine xz [] [(3, .int .i64 z4), (2, .int .i64 z1)] ?_
 refine SW_ret ?_
 refine xe ?_ (.tuple #[.int .i64 z1, .int .i64 z4]) [] ?_ ?_
 exact ⟨(z1, z4), p2.2, p5.2⟩
 rfl
 exact zs0
end Go.Proofs.Ytlfpjlfmjojimaa.M
end
section
namespace Go.Proofs.Ytlfpjlfmjojimaa.M
open Go.RowKit Go.Proofs.Ytlfpjlfmjojimaa.G Go.Proofs.YtlfpjlfmjojimaaV.PrintWords Go.Proofs.YtlfpjlfmjojimaaV.PrintLast Go.Proofs.Ytlfpjlfmjojimaa.X
set_option linter.unusedVariables false
set_option linter.unusedSimpArgs false
theorem cmpN_low {R F : Nat} (hF : 0 < F) : cmpN (R / F * F) R = (if R % F = 0 then 0 else -1) ∧ cmpN ((R / F + 1) * F) R = 1 := by
 have h1 := Nat.div_add_mod R F
 have h2 := Nat.mod_lt R hF
 have h3 : (R / F + 1) * F = R / F * F + F := by rw [Nat.add_mul, Nat.one_mul]
 rw [Nat.mul_comm] at h1
 rw [h3]
 unfold cmpN
 constructor
 ·by_cases h : R % F = 0
  ·rw [if_pos h, if_neg (by omega), if_neg (by omega)]
  ·rw [if_neg h, if_pos (by omega)]
 ·rw [if_neg (by omega), if_pos (by omega)]
theorem ten_bits2 {e m : Nat} (hm : IsBits (10 ^ e) m) (he : e ≤ 5200) : m ≤ 17400 := by
 have h1 : 10 ^ e < 2 ^ (10 * (e / 3) + 7) := by
  have h2 : e = 3 * (e / 3) + e % 3 := (Nat.div_add_mod e 3).symm
  have h3 : e % 3 < 3 := Nat.mod_lt _ (by decide)
  rw [show 10 ^ e = 10 ^ (3 * (e / 3) + e % 3) by rw [← h2], Nat.pow_add, Nat.pow_add, Nat.pow_mul, Nat.pow_mul]
  have h4 : (10 ^ 3) ^ (e / 3) ≤ (2 ^ 10) ^ (e / 3) := Nat.pow_le_pow_left (by decide) _
  have h5 : 10 ^ (e % 3) < 2 ^ 7 := Nat.lt_of_le_of_lt (Nat.pow_le_pow_right (by decide) (show e % 3 ≤ 2 by omega)) (by decide)
  exact Nat.lt_of_le_of_lt (Nat.mul_le_mul_right _ h4) (Nat.mul_lt_mul_of_pos_left h5 (Nat.pow_pos (by decide)))
 have := hm.le h1
 omega
def PwA (k : Int) (e T : Nat) (E : Int) (b : Bool) : Prop := k = (e : Int) ∧ ∃ i : Nat, E = (i : Int) ∧ i ≤ 17400 ∧ T = 10 ^ e / 2 ^ i ∧ b = decide (10 ^ e % 2 ^ i = 0)
def PwB (k : Int) (e T : Nat) (E : Int) (b : Bool) : Prop := k = (e : Int) ∧ ∃ i : Nat, 0 < i ∧ E = -(i : Int) ∧ i ≤ 200 ∧ T = 10 ^ e * 2 ^ i ∧ b = true
def PwC (k : Int) (e T : Nat) (E : Int) (b : Bool) : Prop := k = -(e : Int) ∧ 0 < e ∧ ∃ i : Nat, 0 < i ∧ E = -(i : Int) ∧ i ≤ 17600 ∧ T = 2 ^ i / 10 ^ e ∧ b = decide (2 ^ i % 10 ^ e = 0)
abbrev pwV (k : Int) (w : Nat) (T : Nat) (E : Int) (b : Bool) : Value := .agg #[.int .i64 k, .int .i64 (w : Int), .int .u64 (hiI T), .int .u64 (loI T), .int .i64 E, .bool b, .bool true]
abbrev pwZ : Value := .agg #[.int .i64 0, .int .i64 0, .int .u64 0, .int .u64 0, .int .i64 0, .bool false, .bool false]
theorem pw_cases (k w : Int) :
  (CtV Try.prog 6 [.int .i64 k, .int .i64 w] [] pwZ ∧ CtV Try.prog 7 [.int .i64 k, .int .i64 w] [] pwZ) ∨
  ∃ (w' e T : Nat) (E : Int) (b : Bool), w = (w' : Int) ∧ 1 ≤ w' ∧ w' ≤ 128 ∧ e ≤ 5200 ∧ IsBits T w' ∧ CtV Try.prog 6 [.int .i64 k, .int .i64 w] [] (pwV k w' T E b) ∧ CtV Try.prog 7 [.int .i64 k, .int .i64 w] [] (pwV k w' T E b) ∧ (PwA k e T E b ∨ PwB k e T E b ∨ PwC k e T E b) := by
 by_cases ho : -5200 ≤ k ∧ k ≤ 5200 ∧ 1 ≤ w ∧ w ≤ 128
 ·obtain ⟨h1, h2, h3, h4⟩ := ho
  obtain ⟨w', rfl⟩ : ∃ w' : Nat, w = (w' : Int) := ⟨w.toNat, by omega⟩
  by_cases h0 : 0 ≤ k
  ·obtain ⟨e, rfl⟩ : ∃ e : Nat, k = (e : Int) := ⟨k.toNat, by omega⟩
   obtain ⟨m, hm⟩ := isBits_ex (10 ^ e)
   have hm2 := ten_bits2 hm (by omega)
   have hm0 := hm.pos (Nat.pow_pos (by decide))
   have cs := ct_spec_TenPower_pos e m w' (by omega) hm (by omega) (by omega) _ rfl
   have ci := ct_impl_tenPower_pos e m w' (by omega) hm (by omega) (by omega) _ rfl
   rw [powV_eq] at cs ci
   have ci' := ct_impl_TenPower_of _ _ _ _ _ _ _ _ _ ci
   have hlo : 2 ^ (m - 1) ≤ 10 ^ e := hm.2.resolve_left (by omega)
   by_cases hmw : m < w'
   ·have e1 : powP e m w' = (10 ^ e * 2 ^ (w' - m), (m : Int) - w', true) := if_pos (by omega)
    rw [e1] at cs ci'
    refine .inr ⟨w', e, 10 ^ e * 2 ^ (w' - m), (m : Int) - w', true, rfl, by omega, by omega, by omega, ⟨?_, .inr ?_⟩, cs, ci', .inr (.inl ⟨rfl, w' - m, by omega, by omega, by omega, rfl, rfl⟩)⟩
    ·refine Nat.lt_of_lt_of_le (Nat.mul_lt_mul_of_pos_right hm.1 (Nat.pow_pos (by decide))) ?_
     rw [← Nat.pow_add, show m + (w' - m) = w' by omega]
     exact Nat.le_refl _
    ·refine Nat.le_trans ?_ (Nat.mul_le_mul_right _ hlo)
     rw [← Nat.pow_add, show m - 1 + (w' - m) = w' - 1 by omega]
     exact Nat.le_refl _
   ·have e1 := powP_ge (e := e) (show w' ≤ m by omega)
    rw [e1] at cs ci'
    refine .inr ⟨w', e, 10 ^ e / 2 ^ (m - w'), (m : Int) - w', decide (10 ^ e % 2 ^ (m - w') = 0), rfl, by omega, by omega, by omega, ⟨?_, .inr ?_⟩, cs, ci', .inl ⟨rfl, m - w', by omega, by omega, rfl, rfl⟩⟩
    ·refine (Nat.div_lt_iff_lt_mul (Nat.pow_pos (by decide))).2 ?_
     rw [← Nat.pow_add, show w' + (m - w') = m by omega]
     exact hm.1
    ·refine (Nat.le_div_iff_mul_le (Nat.pow_pos (by decide))).2 ?_
     rw [← Nat.pow_add, show w' - 1 + (m - w') = m - 1 by omega]
     exact hlo
  ·obtain ⟨e, he⟩ : ∃ e : Nat, k = -(e : Int) := ⟨(-k).toNat, by omega⟩
   obtain ⟨m, hm⟩ := isBits_ex (10 ^ e)
   have hm2 := ten_bits2 hm (by omega)
   have hm0 := hm.pos (Nat.pow_pos (by decide))
   have cs := ct_spec_TenPower_neg k e m w' he (by omega) (by omega) hm (by omega) (by omega) _ rfl
   have ci := ct_impl_tenPower_neg k e m w' he (by omega) (by omega) hm (by omega) (by omega) _ rfl
   rw [powV_eq] at cs ci
   have ci' := ct_impl_TenPower_of _ _ _ _ _ _ _ _ _ ci
   have hlo : 2 ^ (m - 1) ≤ 10 ^ e := hm.2.resolve_left (by omega)
   have h5 : 10 ^ e % 5 = 0 := by
    obtain ⟨j, rfl⟩ : ∃ j, e = j + 1 := ⟨e - 1, by omega⟩
    rw [Nat.pow_succ]
    omega
   have h6 : 2 ^ (m - 1) < 10 ^ e := Nat.lt_of_le_of_ne hlo (fun z => two5 (m - 1) (z ▸ h5))
   refine .inr ⟨w', e, _, _, _, rfl, by omega, by omega, by omega, ⟨?_, .inr ?_⟩, cs, ci', .inr (.inr ⟨he, by omega, m + w' - 1, by omega, ?_, by omega, rfl, rfl⟩)⟩
   ·refine (Nat.div_lt_iff_lt_mul (Nat.pow_pos (by decide))).2 ?_
    rw [show m + w' - 1 = w' + (m - 1) by omega, Nat.pow_add]
    exact Nat.mul_lt_mul_of_pos_left h6 (Nat.pow_pos (by decide))
   ·refine (Nat.le_div_iff_mul_le (Nat.pow_pos (by decide))).2 ?_
    rw [show m + w' - 1 = w' - 1 + m by omega, Nat.pow_add]
    exact Nat.mul_le_mul_left _ (Nat.le_of_lt hm.1)
   ·show -(m : Int) - w' + 1 = _
    omega
 ·exact .inl ⟨ct_spec_TenPower_out k w ho, ct_impl_TenPower_of _ _ _ _ _ _ _ _ _ (ct_impl_tenPower_out k w ho)⟩
end Go.Proofs.Ytlfpjlfmjojimaa.M
end
section
namespace Go.Proofs.Ytlfpjlfmjojimaa.M
open Go.RowKit Go.Proofs.Ytlfpjlfmjojimaa.G Go.Proofs.YtlfpjlfmjojimaaV.PrintWords Go.Proofs.YtlfpjlfmjojimaaV.PrintLast Go.Proofs.Ytlfpjlfmjojimaa.X
set_option linter.unusedVariables false
set_option linter.unusedSimpArgs false
theorem ten_lt {e K : Nat} (he : e ≤ 5200) (hK : 17400 ≤ K) : 10 ^ e < 2 ^ K := by
 obtain ⟨m, hm⟩ := isBits_ex (10 ^ e)
 have := ten_bits2 hm he
 exact Nat.lt_of_lt_of_le hm.1 (Nat.pow_le_pow_right (by decide) (by omega))
theorem ct_laws_FnPower (A : Option Addr) (c : Nat) (bt : List Int) (dx : Dig 256 bt) : CtV Try.prog 4 [.slice A bt.length c] [Row .u8 A c bt] (.bool true) := by
 by_cases hx : bt.length ≤ 1048576
 ·have z : decide ((bt.length : Int) > 1048576) = false := decide_eq_false (by omega)
  refine ct_of Try.func4 rfl (by kernel_rfl) (fun B w0 => ?_)
  refine xr [] [(2, .bool false)] ?_
  refine SW_seq ?_
  refine xr [] [(13, .bool (decide ((((List.length bt) : Nat) : Int) > 1048576)))] ?_
  refine xsf z ?_
  refine SW_skip ?_
  refine xg ?_
  refine xn 1 [] [(15, .slice A (List.length bt) c)] ?_
  (refine xck 16 (ct_spec_DrawTenPower (A) (c) (bt) hx dx) (zsS zi0 zs0) (fun zz => ?_); obtain ⟨⟨z0, z1⟩, p2⟩ := zz)
  refine xz [] [(4, .int .i64 z1), (3, .int .i64 z0)] ?_
  refine xg ?_
  refine xn 2 [] [(20, .int .i64 z1), (19, .int .i64 z0)] ?_
  rcases pw_cases z0 z1 with ⟨cs, ci⟩ | ⟨w', e, T, E, b, rfl, h1, h2, h3, hT, cs, ci, hc⟩
  ·refine xcv 21 ci zs0 ?_
   refine xb 5 [.int .i64 0, .int .i64 0, .int .u64 0, .int .u64 0, .int .i64 0, .bool false, .bool false] 26 (fun g0 => ?_)
   refine xy [(4, [0])] [] [] ?_
   refine SW_seq ?_
   refine xd (fun hB => ?_)
   refine xdk [(0, []), (1, [0]), (2, []), (3, [])] [(25, .int .i64 z1), (24, .int .i64 z0), (23, .bool false)] hB ?_
   refine xdv 4 26 cs zs0 ?_
   refine xdk [(5, []), (6, [])] [(28, .bool false)] hB ?_
   refine xdz ?_
   refine xs0 ?_
   refine SW_skip ?_
   refine SW_seq ?_
   refine xr [(1, [0])] [(31, .bool true)] ?_
   refine xs1 ?_
   refine xr [(0, [0])] [(2, .bool true)] ?_
   refine SW_ret ?_
   refine xe () (.bool true) [] ?_ trivial
   rfl
  ·have hTw : T < B128 := Nat.lt_of_lt_of_le hT.1 (Nat.pow_le_pow_right (by decide) h2)
   obtain ⟨t1, t2⟩ := two_val hTw
   have ft : Fr [loI T, hiI T] T := ⟨t1, by simp, t2⟩
   have f1 : Fr [1] 1 := Fr.of1 (l := 1) (by decide)
   have n1 : Nn (IntKind.i64.wrap ((w' : Int) - 1)) (w' - 1) := ⟨by rw [wrap_i64 (by omega)]; omega⟩
   have n2 : Nn (w' : Int) w' := ⟨rfl⟩
   have g1 : 1 * 2 ^ (w' - 1) = 2 ^ (w' - 1) := Nat.one_mul _
   have fr1 : Fr (ofN B64 (1 * 2 ^ (w' - 1))) (1 * 2 ^ (w' - 1)) := Fr.of (m := 129) (by rw [Nat.one_mul]; exact Nat.pow_lt_pow_right (by decide) (by omega)) (by decide)
   have fr2 : Fr (ofN B64 (1 * 2 ^ w')) (1 * 2 ^ w') := Fr.of (m := 129) (by rw [Nat.one_mul]; exact Nat.pow_lt_pow_right (by decide) (by omega)) (by decide)
   have z1 : (cmpN T (1 * 2 ^ (w' - 1)) == -1) = false := by
    have hlo := hT.2.resolve_left (by omega)
    rw [Nat.one_mul]
    unfold cmpN
    rw [if_neg (by omega)]
    split <;> rfl
   have z2 : (cmpN T (1 * 2 ^ w') != -1) = false := by
    rw [Nat.one_mul]
    unfold cmpN
    rw [if_pos hT.1]
    rfl
   have zk : ((z0 : Int) != z0) = false := by simp
   have zw : ((w' : Int) != (w' : Int)) = false := by simp
   have c1 : ∀ A c, CtR Try.prog 11 [.slice A 1 c, .int .i64 (IntKind.i64.wrap ((w' : Int) - 1))] [Row .u64 A c [1]] .u64 (ofN B64 (1 * 2 ^ (w' - 1))) := fun A c => ct_spec_NatShift_rows [1] 1 f1 _ _ n1 (by omega) A c
   have c2 : ∀ A c, CtR Try.prog 11 [.slice A 1 c, .int .i64 (w' : Int)] [Row .u64 A c [1]] .u64 (ofN B64 (1 * 2 ^ w')) := fun A c => ct_spec_NatShift_rows [1] 1 f1 _ _ n2 (by omega) A c
   have c3 : ∀ A c A' c', CtV Try.prog 10 [.slice A 2 c, .slice A' (ofN B64 (1 * 2 ^ (w' - 1))).length c'] [Row .u64 A c [loI T, hiI T], Row .u64 A' c' (ofN B64 (1 * 2 ^ (w' - 1)))] (.int .i64 (cmpN T (1 * 2 ^ (w' - 1)))) := fun A c A' c' => ct_spec_NatCmp_rows _ _ _ _ ft fr1 A A' c c'
   have c4 : ∀ A c A' c', CtV Try.prog 10 [.slice A 2 c, .slice A' (ofN B64 (1 * 2 ^ w')).length c'] [Row .u64 A c [loI T, hiI T], Row .u64 A' c' (ofN B64 (1 * 2 ^ w'))] (.int .i64 (cmpN T (1 * 2 ^ w'))) := fun A c A' c' => ct_spec_NatCmp_rows _ _ _ _ ft fr2 A A' c c'
   have c5 : ∀ A c A' c', CtR Try.prog 12 [.slice A 2 c, .slice A' 1 c'] [Row .u64 A c [loI T, hiI T], Row .u64 A' c' [1]] .u64 (ofN B64 (T + 1)) := fun A c A' c' => ct_impl_NatAdd_rows _ _ _ _ ft f1 A A' c c'
   have autofz : True := trivial
   rcases hc with ⟨rfl, i, rfl, hi, hTe, hb⟩ | ⟨rfl, i, hi0, rfl, hi, hTe, hb⟩ | ⟨hk, he0, i, hi0, rfl, hi, hTe, hb⟩
   ·have z3 : decide ((i : Int) > 20000) = false := decide_eq_false (by omega)
    have z4 : decide ((i : Int) < -20000) = false := decide_eq_false (by omega)
    have z5 : decide ((e : Int) ≥ 0) = true := decide_eq_true (by omega)
    have z6 : decide ((i : Int) ≥ 0) = true := decide_eq_true (by omega)
    have ne : Nn (e : Int) e := ⟨rfl⟩
    have ni : Nn (i : Int) i := ⟨rfl⟩
    have cp := ct_impl_NatPow_ten _ e ne (by omega)
    have c6 : ∀ A c, CtR Try.prog 15 [.slice A 2 c, .int .i64 (i : Int)] [Row .u64 A c [loI T, hiI T]] .u64 (ofN B64 (T * 2 ^ i)) := fun A c => ct_impl_NatShift_rows _ _ ft _ _ ni (by omega) A c
    obtain ⟨K, hK⟩ : ∃ K : Nat, K = 20000 := ⟨_, rfl⟩
    have g1 : Fr (ofN B64 (T + 1)) (T + 1) := Fr.of (m := 130) (by have := hT.1; have := Nat.pow_le_pow_right (n := 2) (by decide) h2; omega) (by decide)
    have g2 : Fr (ofN B64 (10 ^ e)) (10 ^ e) := Fr.of (m := K) (ten_lt (by omega) (by omega)) (by omega)
    have g3 : Fr (ofN B64 (T * 2 ^ i)) (T * 2 ^ i) := Fr.of (m := 128 + i) (by rw [Nat.pow_add]; exact Nat.mul_lt_mul_of_pos_right (Nat.lt_of_lt_of_le hT.1 (Nat.pow_le_pow_right (by decide) h2)) (Nat.pow_pos (by decide))) (by omega)
    have g4 : Fr (ofN B64 ((T + 1) * 2 ^ i)) ((T + 1) * 2 ^ i) := Fr.of (m := 129 + i) (by rw [Nat.pow_add]; exact Nat.mul_lt_mul_of_pos_right (by have := hT.1; have := Nat.pow_le_pow_right (n := 2) (by decide) h2; omega) (Nat.pow_pos (by decide))) (by omega)
    clear ft
    have hl := cmpN_low (R := 10 ^ e) (F := 2 ^ i) (Nat.pow_pos (by decide))
    rw [← hTe] at hl
    have zn : (cmpN ((T + 1) * 2 ^ i) (10 ^ e) == 1) = true := by rw [hl.2]; rfl
    by_cases hm : 10 ^ e % 2 ^ i = 0
    ·rw [if_pos hm] at hl
     rw [decide_eq_true hm] at hb
     subst hb
     have q1 : (cmpN (T * 2 ^ i) (10 ^ e) == 0) = true := by rw [hl.1]; rfl
     clear hl hTe
     refine xcv 21 ci zs0 ?_
     refine xb 5 [.int .i64 0, .int .i64 0, .int .u64 0, .int .u64 0, .int .i64 0, .bool false, .bool false] 26 (fun g5 => ?_)
     refine xy [(4, [0])] [] [(0, [.int .i64 (e : Int), .int .i64 ((w' : Nat) : Int), .int .u64 (hiI T), .int .u64 (loI T), .int .i64 (i : Int), .bool true, .bool true])] ?_
     refine SW_seq ?_
     refine xd (fun hB => ?_)
     refine xdk [(0, []), (1, [0]), (2, []), (3, [])] [(25, .int .i64 ((w' : Nat) : Int)), (24, .int .i64 (e : Int)), (23, .bool true)] hB ?_
     refine xdv 4 26 cs zs0 ?_
     refine xdk [(5, []), (6, [])] [(28, .bool false)] hB ?_
     refine xdz ?_
     refine xs0 ?_
     refine SW_skip ?_
     refine SW_seq ?_
     refine xr [(1, [0])] [(31, .bool false)] ?_
     refine xs0 ?_
     refine SW_skip ?_
     refine SW_seq ?_
     refine xg ?_
     refine xn 5 [(1, [0])] [(39, .bool ((e : Int) != (e : Int)))] ?_
     refine xkf 39 zk ?_
     refine xn 11 [(6, [0])] [(45, .bool (((w' : Nat) : Int) != ((w' : Nat) : Int)))] ?_
     refine xkf 45 zw ?_
     refine xn 16 [(12, [0])] [(50, .bool (decide ((i : Int) > 20000)))] ?_
     refine xkf 50 z3 ?_
     refine xz [(17, [0])] [(54, .bool (decide ((i : Int) < -20000)))] ?_
     refine xsf z4 ?_
     refine SW_skip ?_
     refine xg ?_
     refine xn 6 [(2, [0]), (5, [0])] [(60, .int .u64 (hiI T)), (57, .int .u64 (loI T))] ?_
     refine xbl 61 [.int .u64 (loI T), .int .u64 (hiI T)] 22 2 (fun g6 => ?_)
     refine xz [] [(6, .slice (some ⟨g6, 0, none⟩) 2 2)] ?_
     refine SW_seq ?_
     refine xg ?_
     refine xn 1 [] [(62, .slice (some ⟨g6, 0, none⟩) 2 2)] ?_
     refine xbl 63 [.int .u64 1] 22 1 (fun g7 => ?_)
     refine xn 4 [] [(65, .int .i64 (IntKind.wrap IntKind.i64 (((w' : Nat) : Int) - 1)))] ?_
     refine NW_fz 2 1 g7 IntKind.u64 [1] [] 22 (by simp) (by simp) ?_
     refine xcr 66 (c1 _ _) (zsS zi0 zs0) (fun A0 k0 => ?_)
     refine NW_fz 1 2 g6 IntKind.u64 [loI T, hiI T] [] 22 (by simp) (by simp) ?_
     refine xcv 67 (c3 _ _ _ _) (zsS zi0 (zsS (ziS zi0) zs0)) ?_
     refine xn 8 [] [(69, .bool (cmpN T (1 * 2 ^ (w' - 1)) == -1))] ?_
     refine xkf 69 z1 ?_
     refine xn 9 [] [(70, .slice (some ⟨g6, 0, none⟩) 2 2)] ?_
     refine xbl 71 [.int .u64 1] 22 1 (fun g8 => ?_)
     refine xn 11 [] [(72, .int .i64 ((w' : Nat) : Int))] ?_
     refine NW_fz 1 1 g8 IntKind.u64 [1] [] 22 (by simp) (by simp) ?_
     refine xcr 73 (c2 _ _) (zsS zi0 zs0) (fun A1 k1 => ?_)
     refine xcv 74 (c4 _ _ _ _) (zsS (ziS (ziS zi0)) (zsS zi0 zs0)) ?_
     refine xz [] [(76, .bool (cmpN T (1 * 2 ^ w') != -1))] ?_
     refine xsf z2 ?_
     refine SW_skip ?_
     refine xg ?_
     refine xn 1 [] [(77, .slice (some ⟨g6, 0, none⟩) 2 2)] ?_
     refine xbl 78 [.int .u64 1] 22 1 (fun g9 => ?_)
     refine NW_fz 1 1 g9 IntKind.u64 [1] [] 22 (by simp) (by simp) ?_
     refine xcr 79 (c5 _ _ _ _) (zsS (ziS (ziS (ziS zi0))) (zsS zi0 zs0)) (fun A2 k2 => ?_)
     refine xz [] [(7, .slice A2 (List.length (ofN B64 (T + 1))) k2)] ?_
     refine xg ?_
     refine xbl 80 [.int .u64 1] 22 1 (fun g10 => ?_)
     refine xz [] [(8, .slice (some ⟨g10, 0, none⟩) 1 1)] ?_
     refine SW_seq ?_
     refine xr [] [(82, .bool (decide ((e : Int) ≥ 0)))] ?_
     refine xst z5 ?_
     refine SW_region ?_
     refine xn 1 [] [(83, .int .i64 (e : Int))] ?_
     refine xcr 84 cp zs0 (fun A3 k3 => ?_)
     refine xz [] [(8, .slice A3 (List.length (ofN B64 (10 ^ e))) k3)] ?_
     refine SW_seq ?_
     refine xr [(1, [0])] [(96, .bool (decide ((i : Int) ≥ 0)))] ?_
     refine xst z6 ?_
     refine xg ?_
     refine xn 3 [(2, [0])] [(99, .int .i64 (i : Int)), (97, .slice (some ⟨g6, 0, none⟩) 2 2)] ?_
     refine xcr 100 (c6 _ _) (zsS (ziS (ziS (ziS (ziS (ziS zi0))))) zs0) (fun A4 k4 => ?_)
     refine xz [] [(6, .slice A4 (List.length (ofN B64 (T * 2 ^ i))) k4)] ?_
     refine SW_region ?_
     refine xn 3 [(2, [0])] [(103, .int .i64 (i : Int)), (101, .slice A2 (List.length (ofN B64 (T + 1))) k2)] ?_
     refine xcr 104 (ct_impl_NatShift_rows (ofN B64 (T + 1)) (T + 1) g1 ((i : Int)) (i) ni (by omega) (A2) (k2)) (zsS (ziS (ziS zi0)) zs0) (fun A5 k5 => ?_)
     refine xz [] [(7, .slice A5 (List.length (ofN B64 ((T + 1) * 2 ^ i))) k5)] ?_
     refine xg ?_
     refine xn 2 [] [(111, .slice A3 (List.length (ofN B64 (10 ^ e))) k3), (110, .slice A4 (List.length (ofN B64 (T * 2 ^ i))) k4)] ?_
     refine xcv 112 (ct_impl_NatCmp_rows (ofN B64 (T * 2 ^ i)) (ofN B64 (10 ^ e)) (T * 2 ^ i) (10 ^ e) g3 g2 (A4) (A3) (k4) (k3)) (zsS (ziS zi0) (zsS (ziS (ziS zi0)) zs0)) ?_
     refine xz [] [(10, .int .i64 (cmpN (T * 2 ^ i) (10 ^ e)))] ?_
     refine xg ?_
     refine xn 3 [] [(115, .bool (cmpN (T * 2 ^ i) (10 ^ e) == 0))] ?_
     refine xkt 115 q1 ?_
     refine xn 18 [(4, [0])] [(130, .slice A3 (List.length (ofN B64 (10 ^ e))) k3), (129, .slice A5 (List.length (ofN B64 ((T + 1) * 2 ^ i))) k5), (128, .bool true)] ?_
     refine xcv 131 (ct_impl_NatCmp_rows (ofN B64 ((T + 1) * 2 ^ i)) (ofN B64 (10 ^ e)) ((T + 1) * 2 ^ i) (10 ^ e) g4 g2 (A5) (A3) (k5) (k3)) (zsS zi0 (zsS (ziS (ziS zi0)) zs0)) ?_
     refine xz [] [(2, .bool (cmpN ((T + 1) * 2 ^ i) (10 ^ e) == 1))] ?_
     refine SW_ret ?_
     refine xe () (.bool (cmpN ((T + 1) * 2 ^ i) (10 ^ e) == 1)) [] ?_ trivial
     exact congrArg Value.bool zn
    ·rw [if_neg hm] at hl
     rw [decide_eq_false hm] at hb
     subst hb
     have q1 : (cmpN (T * 2 ^ i) (10 ^ e) == 0) = false := by rw [hl.1]; rfl
     have q2 : (cmpN (T * 2 ^ i) (10 ^ e) == -1) = true := by rw [hl.1]; rfl
     clear hl hTe
     refine xcv 21 ci zs0 ?_
     refine xb 5 [.int .i64 0, .int .i64 0, .int .u64 0, .int .u64 0, .int .i64 0, .bool false, .bool false] 26 (fun g5 => ?_)
     refine xy [(4, [0])] [] [(0, [.int .i64 (e : Int), .int .i64 ((w' : Nat) : Int), .int .u64 (hiI T), .int .u64 (loI T), .int .i64 (i : Int), .bool false, .bool true])] ?_
     refine SW_seq ?_
     refine xd (fun hB => ?_)
     refine xdk [(0, []), (1, [0]), (2, []), (3, [])] [(25, .int .i64 ((w' : Nat) : Int)), (24, .int .i64 (e : Int)), (23, .bool true)] hB ?_
     refine xdv 4 26 cs zs0 ?_
     refine xdk [(5, []), (6, [])] [(28, .bool false)] hB ?_
     refine xdz ?_
     refine xs0 ?_
     refine SW_skip ?_
     refine SW_seq ?_
     refine xr [(1, [0])] [(31, .bool false)] ?_
     refine xs0 ?_
     refine SW_skip ?_
     refine SW_seq ?_
     refine xg ?_
     refine xn 5 [(1, [0])] [(39, .bool ((e : Int) != (e : Int)))] ?_
     refine xkf 39 zk ?_
     refine xn 11 [(6, [0])] [(45, .bool (((w' : Nat) : Int) != ((w' : Nat) : Int)))] ?_
     refine xkf 45 zw ?_
     refine xn 16 [(12, [0])] [(50, .bool (decide ((i : Int) > 20000)))] ?_
     refine xkf 50 z3 ?_
     refine xz [(17, [0])] [(54, .bool (decide ((i : Int) < -20000)))] ?_
     refine xsf z4 ?_
     refine SW_skip ?_
     refine xg ?_
     refine xn 6 [(2, [0]), (5, [0])] [(60, .int .u64 (hiI T)), (57, .int .u64 (loI T))] ?_
     refine xbl 61 [.int .u64 (loI T), .int .u64 (hiI T)] 22 2 (fun g6 => ?_)
     refine xz [] [(6, .slice (some ⟨g6, 0, none⟩) 2 2)] ?_
     refine SW_seq ?_
     refine xg ?_
     refine xn 1 [] [(62, .slice (some ⟨g6, 0, none⟩) 2 2)] ?_
     refine xbl 63 [.int .u64 1] 22 1 (fun g7 => ?_)
     refine xn 4 [] [(65, .int .i64 (IntKind.wrap IntKind.i64 (((w' : Nat) : Int) - 1)))] ?_
     refine NW_fz 2 1 g7 IntKind.u64 [1] [] 22 (by simp) (by simp) ?_
     refine xcr 66 (c1 _ _) (zsS zi0 zs0) (fun A0 k0 => ?_)
     refine NW_fz 1 2 g6 IntKind.u64 [loI T, hiI T] [] 22 (by simp) (by simp) ?_
     refine xcv 67 (c3 _ _ _ _) (zsS zi0 (zsS (ziS zi0) zs0)) ?_
     refine xn 8 [] [(69, .bool (cmpN T (1 * 2 ^ (w' - 1)) == -1))] ?_
     refine xkf 69 z1 ?_
     refine xn 9 [] [(70, .slice (some ⟨g6, 0, none⟩) 2 2)] ?_
     refine xbl 71 [.int .u64 1] 22 1 (fun g8 => ?_)
     refine xn 11 [] [(72, .int .i64 ((w' : Nat) : Int))] ?_
     refine NW_fz 1 1 g8 IntKind.u64 [1] [] 22 (by simp) (by simp) ?_
     refine xcr 73 (c2 _ _) (zsS zi0 zs0) (fun A1 k1 => ?_)
     refine xcv 74 (c4 _ _ _ _) (zsS (ziS (ziS zi0)) (zsS zi0 zs0)) ?_
     refine xz [] [(76, .bool (cmpN T (1 * 2 ^ w') != -1))] ?_
     refine xsf z2 ?_
     refine SW_skip ?_
     refine xg ?_
     refine xn 1 [] [(77, .slice (some ⟨g6, 0, none⟩) 2 2)] ?_
     refine xbl 78 [.int .u64 1] 22 1 (fun g9 => ?_)
     refine NW_fz 1 1 g9 IntKind.u64 [1] [] 22 (by simp) (by simp) ?_
     refine xcr 79 (c5 _ _ _ _) (zsS (ziS (ziS (ziS zi0))) (zsS zi0 zs0)) (fun A2 k2 => ?_)
     refine xz [] [(7, .slice A2 (List.length (ofN B64 (T + 1))) k2)] ?_
     refine xg ?_
     refine xbl 80 [.int .u64 1] 22 1 (fun g10 => ?_)
     refine xz [] [(8, .slice (some ⟨g10, 0, none⟩) 1 1)] ?_
     refine SW_seq ?_
     refine xr [] [(82, .bool (decide ((e : Int) ≥ 0)))] ?_
     refine xst z5 ?_
     refine SW_region ?_
     refine xn 1 [] [(83, .int .i64 (e : Int))] ?_
     refine xcr 84 cp zs0 (fun A3 k3 => ?_)
     refine xz [] [(8, .slice A3 (List.length (ofN B64 (10 ^ e))) k3)] ?_
     refine SW_seq ?_
     refine xr [(1, [0])] [(96, .bool (decide ((i : Int) ≥ 0)))] ?_
     refine xst z6 ?_
     refine xg ?_
     refine xn 3 [(2, [0])] [(99, .int .i64 (i : Int)), (97, .slice (some ⟨g6, 0, none⟩) 2 2)] ?_
     refine xcr 100 (c6 _ _) (zsS (ziS (ziS (ziS (ziS (ziS zi0))))) zs0) (fun A4 k4 => ?_)
     refine xz [] [(6, .slice A4 (List.length (ofN B64 (T * 2 ^ i))) k4)] ?_
     refine SW_region ?_
     refine xn 3 [(2, [0])] [(103, .int .i64 (i : Int)), (101, .slice A2 (List.length (ofN B64 (T + 1))) k2)] ?_
     refine xcr 104 (ct_impl_NatShift_rows (ofN B64 (T + 1)) (T + 1) g1 ((i : Int)) (i) ni (by omega) (A2) (k2)) (zsS (ziS (ziS zi0)) zs0) (fun A5 k5 => ?_)
     refine xz [] [(7, .slice A5 (List.length (ofN B64 ((T + 1) * 2 ^ i))) k5)] ?_
     refine xg ?_
     refine xn 2 [] [(111, .slice A3 (List.length (ofN B64 (10 ^ e))) k3), (110, .slice A4 (List.length (ofN B64 (T * 2 ^ i))) k4)] ?_
     refine xcv 112 (ct_impl_NatCmp_rows (ofN B64 (T * 2 ^ i)) (ofN B64 (10 ^ e)) (T * 2 ^ i) (10 ^ e) g3 g2 (A4) (A3) (k4) (k3)) (zsS (ziS zi0) (zsS (ziS (ziS zi0)) zs0)) ?_
     refine xz [] [(10, .int .i64 (cmpN (T * 2 ^ i) (10 ^ e)))] ?_
     refine xg ?_
     refine xn 3 [] [(115, .bool (cmpN (T * 2 ^ i) (10 ^ e) == 0))] ?_
     refine xkf 115 q1 ?_
     refine xn 10 [] [(122, .bool (cmpN (T * 2 ^ i) (10 ^ e) == -1)), (119, .bool false)] ?_
     refine xkt 122 q2 ?_
     refine xn 18 [(11, [0])] [(130, .slice A3 (List.length (ofN B64 (10 ^ e))) k3), (129, .slice A5 (List.length (ofN B64 ((T + 1) * 2 ^ i))) k5), (128, .bool true)] ?_
     refine xcv 131 (ct_impl_NatCmp_rows (ofN B64 ((T + 1) * 2 ^ i)) (ofN B64 (10 ^ e)) ((T + 1) * 2 ^ i) (10 ^ e) g4 g2 (A5) (A3) (k5) (k3)) (zsS zi0 (zsS (ziS (ziS zi0)) zs0)) ?_
     refine xz [] [(2, .bool (cmpN ((T + 1) * 2 ^ i) (10 ^ e) == 1))] ?_
     refine SW_ret ?_
     refine xe () (.bool (cmpN ((T + 1) * 2 ^ i) (10 ^ e) == 1)) [] ?_ trivial
     exact congrArg Value.bool zn
   ·have z3 : decide (-(i : Int) > 20000) = false := decide_eq_false (by omega)
    have z4 : decide (-(i : Int) < -20000) = false := decide_eq_false (by omega)
    have z5 : decide ((e : Int) ≥ 0) = true := decide_eq_true (by omega)
    have z6 : decide (-(i : Int) ≥ 0) = false := decide_eq_false (by omega)
    have ne : Nn (e : Int) e := ⟨rfl⟩
    have ni : Nn (IntKind.i64.wrap (0 - -(i : Int))) i := ⟨by rw [wrap_i64 (by omega)]; omega⟩
    have cp := ct_impl_NatPow_ten _ e ne (by omega)
    obtain ⟨K, hK⟩ : ∃ K : Nat, K = 20000 := ⟨_, rfl⟩
    have g1 : Fr (ofN B64 (T + 1)) (T + 1) := Fr.of (m := 130) (by have := hT.1; have := Nat.pow_le_pow_right (n := 2) (by decide) h2; omega) (by decide)
    have g2 : Fr (ofN B64 (10 ^ e)) (10 ^ e) := Fr.of (m := K) (ten_lt (by omega) (by omega)) (by omega)
    have g3 : Fr (ofN B64 (10 ^ e * 2 ^ i)) (10 ^ e * 2 ^ i) := Fr.of (m := K + i) (by rw [Nat.pow_add]; exact Nat.mul_lt_mul_of_pos_right (ten_lt (by omega) (by omega)) (Nat.pow_pos (by decide))) (by omega)
    have c6 : ∀ A c A' c', CtV Try.prog 16 [.slice A 2 c, .slice A' (ofN B64 (10 ^ e * 2 ^ i)).length c'] [Row .u64 A c [loI T, hiI T], Row .u64 A' c' (ofN B64 (10 ^ e * 2 ^ i))] (.int .i64 (cmpN T (10 ^ e * 2 ^ i))) := fun A c A' c' => ct_impl_NatCmp_rows _ _ _ _ ft g3 A A' c c'
    clear ft
    subst hb
    have q1 : (cmpN T (10 ^ e * 2 ^ i) == 0) = true := by rw [hTe, cmpN, if_neg (Nat.lt_irrefl _), if_neg (Nat.lt_irrefl _)]; rfl
    have zn : (cmpN (T + 1) (10 ^ e * 2 ^ i) == 1) = true := by rw [hTe, cmpN, if_neg (by omega), if_pos (by omega)]; rfl
    clear hTe
    refine xcv 21 ci zs0 ?_
    refine xb 5 [.int .i64 0, .int .i64 0, .int .u64 0, .int .u64 0, .int .i64 0, .bool false, .bool false] 26 (fun g4 => ?_)
    refine xy [(4, [0])] [] [(0, [.int .i64 (e : Int), .int .i64 ((w' : Nat) : Int), .int .u64 (hiI T), .int .u64 (loI T), .int .i64 (-(i : Int)), .bool true, .bool true])] ?_
    refine SW_seq ?_
    refine xd (fun hB => ?_)
    refine xdk [(0, []), (1, [0]), (2, []), (3, [])] [(25, .int .i64 ((w' : Nat) : Int)), (24, .int .i64 (e : Int)), (23, .bool true)] hB ?_
    refine xdv 4 26 cs zs0 ?_
    refine xdk [(5, []), (6, [])] [(28, .bool false)] hB ?_
    refine xdz ?_
    refine xs0 ?_
    refine SW_skip ?_
    refine SW_seq ?_
    refine xr [(1, [0])] [(31, .bool false)] ?_
    refine xs0 ?_
    refine SW_skip ?_
    refine SW_seq ?_
    refine xg ?_
    refine xn 5 [(1, [0])] [(39, .bool ((e : Int) != (e : Int)))] ?_
    refine xkf 39 zk ?_
    refine xn 11 [(6, [0])] [(45, .bool (((w' : Nat) : Int) != ((w' : Nat) : Int)))] ?_
    refine xkf 45 zw ?_
    refine xn 16 [(12, [0])] [(50, .bool (decide (-(i : Int) > 20000)))] ?_
    refine xkf 50 z3 ?_
    refine xz [(17, [0])] [(54, .bool (decide (-(i : Int) < -20000)))] ?_
    refine xsf z4 ?_
    refine SW_skip ?_
    refine xg ?_
    refine xn 6 [(2, [0]), (5, [0])] [(60, .int .u64 (hiI T)), (57, .int .u64 (loI T))] ?_
    refine xbl 61 [.int .u64 (loI T), .int .u64 (hiI T)] 22 2 (fun g5 => ?_)
    refine xz [] [(6, .slice (some ⟨g5, 0, none⟩) 2 2)] ?_
    refine SW_seq ?_
    refine xg ?_
    refine xn 1 [] [(62, .slice (some ⟨g5, 0, none⟩) 2 2)] ?_
    refine xbl 63 [.int .u64 1] 22 1 (fun g6 => ?_)
    refine xn 4 [] [(65, .int .i64 (IntKind.wrap IntKind.i64 (((w' : Nat) : Int) - 1)))] ?_
    refine NW_fz 2 1 g6 IntKind.u64 [1] [] 22 (by simp) (by simp) ?_
    refine xcr 66 (c1 _ _) (zsS zi0 zs0) (fun A0 k0 => ?_)
    refine NW_fz 1 2 g5 IntKind.u64 [loI T, hiI T] [] 22 (by simp) (by simp) ?_
    refine xcv 67 (c3 _ _ _ _) (zsS zi0 (zsS (ziS zi0) zs0)) ?_
    refine xn 8 [] [(69, .bool (cmpN T (1 * 2 ^ (w' - 1)) == -1))] ?_
    refine xkf 69 z1 ?_
    refine xn 9 [] [(70, .slice (some ⟨g5, 0, none⟩) 2 2)] ?_
    refine xbl 71 [.int .u64 1] 22 1 (fun g7 => ?_)
    refine xn 11 [] [(72, .int .i64 ((w' : Nat) : Int))] ?_
    refine NW_fz 1 1 g7 IntKind.u64 [1] [] 22 (by simp) (by simp) ?_
    refine xcr 73 (c2 _ _) (zsS zi0 zs0) (fun A1 k1 => ?_)
    refine xcv 74 (c4 _ _ _ _) (zsS (ziS (ziS zi0)) (zsS zi0 zs0)) ?_
    refine xz [] [(76, .bool (cmpN T (1 * 2 ^ w') != -1))] ?_
    refine xsf z2 ?_
    refine SW_skip ?_
    refine xg ?_
    refine xn 1 [] [(77, .slice (some ⟨g5, 0, none⟩) 2 2)] ?_
    refine xbl 78 [.int .u64 1] 22 1 (fun g8 => ?_)
    refine NW_fz 1 1 g8 IntKind.u64 [1] [] 22 (by simp) (by simp) ?_
    refine xcr 79 (c5 _ _ _ _) (zsS (ziS (ziS (ziS zi0))) (zsS zi0 zs0)) (fun A2 k2 => ?_)
    refine xz [] [(7, .slice A2 (List.length (ofN B64 (T + 1))) k2)] ?_
    refine xg ?_
    refine xbl 80 [.int .u64 1] 22 1 (fun g9 => ?_)
    refine xz [] [(8, .slice (some ⟨g9, 0, none⟩) 1 1)] ?_
    refine SW_seq ?_
    refine xr [] [(82, .bool (decide ((e : Int) ≥ 0)))] ?_
    refine xst z5 ?_
    refine SW_region ?_
    refine xn 1 [] [(83, .int .i64 (e : Int))] ?_
    refine xcr 84 cp zs0 (fun A3 k3 => ?_)
    refine xz [] [(8, .slice A3 (List.length (ofN B64 (10 ^ e))) k3)] ?_
    refine SW_seq ?_
    refine xr [(1, [0])] [(96, .bool (decide (-(i : Int) ≥ 0)))] ?_
    refine xsf z6 ?_
    refine SW_region ?_
    refine xn 4 [(2, [0])] [(108, .int .i64 (IntKind.wrap IntKind.i64 (0 - -(i : Int)))), (105, .slice A3 (List.length (ofN B64 (10 ^ e))) k3)] ?_
    refine xcr 109 (ct_impl_NatShift_rows (ofN B64 (10 ^ e)) (10 ^ e) g2 (IntKind.wrap IntKind.i64 (0 - -(i : Int))) (i) ni (by omega) (A3) (k3)) (zsS zi0 zs0) (fun A4 k4 => ?_)
    refine xz [] [(8, .slice A4 (List.length (ofN B64 (10 ^ e * 2 ^ i))) k4)] ?_
    refine xg ?_
    refine xn 2 [] [(111, .slice A4 (List.length (ofN B64 (10 ^ e * 2 ^ i))) k4), (110, .slice (some ⟨g5, 0, none⟩) 2 2)] ?_
    refine xcv 112 (c6 _ _ _ _) (zsS (ziS (ziS (ziS (ziS (ziS (ziS zi0)))))) (zsS zi0 zs0)) ?_
    refine xz [] [(10, .int .i64 (cmpN T (10 ^ e * 2 ^ i)))] ?_
    refine xg ?_
    refine xn 3 [] [(115, .bool (cmpN T (10 ^ e * 2 ^ i) == 0))] ?_
    refine xkt 115 q1 ?_
    refine xn 18 [(4, [0])] [(130, .slice A4 (List.length (ofN B64 (10 ^ e * 2 ^ i))) k4), (129, .slice A2 (List.length (ofN B64 (T + 1))) k2), (128, .bool true)] ?_
    refine xcv 131 (ct_impl_NatCmp_rows (ofN B64 (T + 1)) (ofN B64 (10 ^ e * 2 ^ i)) (T + 1) (10 ^ e * 2 ^ i) g1 g3 (A2) (A4) (k2) (k4)) (zsS (ziS (ziS zi0)) (zsS zi0 zs0)) ?_
    refine xz [] [(2, .bool (cmpN (T + 1) (10 ^ e * 2 ^ i) == 1))] ?_
    refine SW_ret ?_
    refine xe () (.bool (cmpN (T + 1) (10 ^ e * 2 ^ i) == 1)) [] ?_ trivial
    exact congrArg Value.bool zn
   ·have z3 : decide (-(i : Int) > 20000) = false := decide_eq_false (by omega)
    have z4 : decide (-(i : Int) < -20000) = false := decide_eq_false (by omega)
    have z5 : decide (z0 ≥ 0) = false := decide_eq_false (by omega)
    have z6 : decide (-(i : Int) ≥ 0) = false := decide_eq_false (by omega)
    have ne : Nn (IntKind.i64.wrap (0 - z0)) e := ⟨by rw [wrap_i64 (by omega)]; omega⟩
    have ni : Nn (IntKind.i64.wrap (0 - -(i : Int))) i := ⟨by rw [wrap_i64 (by omega)]; omega⟩
    have cp := ct_impl_NatPow_ten _ e ne (by omega)
    obtain ⟨K, hK⟩ : ∃ K : Nat, K = 20000 := ⟨_, rfl⟩
    have g1 : Fr (ofN B64 (T + 1)) (T + 1) := Fr.of (m := 130) (by have := hT.1; have := Nat.pow_le_pow_right (n := 2) (by decide) h2; omega) (by decide)
    have g2 : Fr (ofN B64 (10 ^ e)) (10 ^ e) := Fr.of (m := K) (ten_lt (by omega) (by omega)) (by omega)
    have c6 : ∀ A c A' c', CtR Try.prog 14 [.slice A 2 c, .slice A' (ofN B64 (10 ^ e)).length c'] [Row .u64 A c [loI T, hiI T], Row .u64 A' c' (ofN B64 (10 ^ e))] .u64 (ofN B64 (T * 10 ^ e)) := fun A c A' c' => ct_impl_NatMul_rows _ _ _ _ ft g2 A A' c c'
    have c7 : ∀ A c, CtR Try.prog 15 [.slice A 1 c, .int .i64 (IntKind.i64.wrap (0 - -(i : Int)))] [Row .u64 A c [1]] .u64 (ofN B64 (1 * 2 ^ i)) := fun A c => ct_impl_NatShift_rows _ _ f1 _ _ ni (by omega) A c
    have g3 : Fr (ofN B64 (T * 10 ^ e)) (T * 10 ^ e) := Fr.of (m := 128 + K) (by rw [Nat.pow_add]; exact Nat.mul_lt_mul'' (Nat.lt_of_lt_of_le hT.1 (Nat.pow_le_pow_right (by decide) h2)) (ten_lt (by omega) (by omega))) (by omega)
    have g4 : Fr (ofN B64 ((T + 1) * 10 ^ e)) ((T + 1) * 10 ^ e) := Fr.of (m := 129 + K) (by rw [Nat.pow_add]; exact Nat.mul_lt_mul'' (by have := hT.1; have := Nat.pow_le_pow_right (n := 2) (by decide) h2; omega) (ten_lt (by omega) (by omega))) (by omega)
    have g5 : Fr (ofN B64 (1 * 2 ^ i)) (1 * 2 ^ i) := Fr.of (m := i + 1) (by rw [Nat.one_mul]; exact Nat.pow_lt_pow_right (by decide) (by omega)) (by omega)
    clear ft
    have hl := cmpN_low (R := 2 ^ i) (F := 10 ^ e) (Nat.pow_pos (by decide))
    rw [← hTe] at hl
    have zn : (cmpN ((T + 1) * 10 ^ e) (1 * 2 ^ i) == 1) = true := by rw [Nat.one_mul, hl.2]; rfl
    by_cases hm : 2 ^ i % 10 ^ e = 0
    ·rw [if_pos hm] at hl
     rw [decide_eq_true hm] at hb
     subst hb
     have q1 : (cmpN (T * 10 ^ e) (1 * 2 ^ i) == 0) = true := by rw [Nat.one_mul, hl.1]; rfl
     clear hl hTe
     refine xcv 21 ci zs0 ?_
     refine xb 5 [.int .i64 0, .int .i64 0, .int .u64 0, .int .u64 0, .int .i64 0, .bool false, .bool false] 26 (fun g6 => ?_)
     refine xy [(4, [0])] [] [(0, [.int .i64 z0, .int .i64 ((w' : Nat) : Int), .int .u64 (hiI T), .int .u64 (loI T), .int .i64 (-(i : Int)), .bool true, .bool true])] ?_
     refine SW_seq ?_
     refine xd (fun hB => ?_)
     refine xdk [(0, []), (1, [0]), (2, []), (3, [])] [(25, .int .i64 ((w' : Nat) : Int)), (24, .int .i64 z0), (23, .bool true)] hB ?_
     refine xdv 4 26 cs zs0 ?_
     refine xdk [(5, []), (6, [])] [(28, .bool false)] hB ?_
     refine xdz ?_
     refine xs0 ?_
     refine SW_skip ?_
     refine SW_seq ?_
     refine xr [(1, [0])] [(31, .bool false)] ?_
     refine xs0 ?_
     refine SW_skip ?_
     refine SW_seq ?_
     refine xg ?_
     refine xn 5 [(1, [0])] [(39, .bool (z0 != z0))] ?_
     refine xkf 39 zk ?_
     refine xn 11 [(6, [0])] [(45, .bool (((w' : Nat) : Int) != ((w' : Nat) : Int)))] ?_
     refine xkf 45 zw ?_
     refine xn 16 [(12, [0])] [(50, .bool (decide (-(i : Int) > 20000)))] ?_
     refine xkf 50 z3 ?_
     refine xz [(17, [0])] [(54, .bool (decide (-(i : Int) < -20000)))] ?_
     refine xsf z4 ?_
     refine SW_skip ?_
     refine xg ?_
     refine xn 6 [(2, [0]), (5, [0])] [(60, .int .u64 (hiI T)), (57, .int .u64 (loI T))] ?_
     refine xbl 61 [.int .u64 (loI T), .int .u64 (hiI T)] 22 2 (fun g7 => ?_)
     refine xz [] [(6, .slice (some ⟨g7, 0, none⟩) 2 2)] ?_
     refine SW_seq ?_
     refine xg ?_
     refine xn 1 [] [(62, .slice (some ⟨g7, 0, none⟩) 2 2)] ?_
     refine xbl 63 [.int .u64 1] 22 1 (fun g8 => ?_)
     refine xn 4 [] [(65, .int .i64 (IntKind.wrap IntKind.i64 (((w' : Nat) : Int) - 1)))] ?_
     refine NW_fz 2 1 g8 IntKind.u64 [1] [] 22 (by simp) (by simp) ?_
     refine xcr 66 (c1 _ _) (zsS zi0 zs0) (fun A0 k0 => ?_)
     refine NW_fz 1 2 g7 IntKind.u64 [loI T, hiI T] [] 22 (by simp) (by simp) ?_
     refine xcv 67 (c3 _ _ _ _) (zsS zi0 (zsS (ziS zi0) zs0)) ?_
     refine xn 8 [] [(69, .bool (cmpN T (1 * 2 ^ (w' - 1)) == -1))] ?_
     refine xkf 69 z1 ?_
     refine xn 9 [] [(70, .slice (some ⟨g7, 0, none⟩) 2 2)] ?_
     refine xbl 71 [.int .u64 1] 22 1 (fun g9 => ?_)
     refine xn 11 [] [(72, .int .i64 ((w' : Nat) : Int))] ?_
     refine NW_fz 1 1 g9 IntKind.u64 [1] [] 22 (by simp) (by simp) ?_
     refine xcr 73 (c2 _ _) (zsS zi0 zs0) (fun A1 k1 => ?_)
     refine xcv 74 (c4 _ _ _ _) (zsS (ziS (ziS zi0)) (zsS zi0 zs0)) ?_
     refine xz [] [(76, .bool (cmpN T (1 * 2 ^ w') != -1))] ?_
     refine xsf z2 ?_
     refine SW_skip ?_
     refine xg ?_
     refine xn 1 [] [(77, .slice (some ⟨g7, 0, none⟩) 2 2)] ?_
     refine xbl 78 [.int .u64 1] 22 1 (fun g10 => ?_)
     refine NW_fz 1 1 g10 IntKind.u64 [1] [] 22 (by simp) (by simp) ?_
     refine xcr 79 (c5 _ _ _ _) (zsS (ziS (ziS (ziS zi0))) (zsS zi0 zs0)) (fun A2 k2 => ?_)
     refine xz [] [(7, .slice A2 (List.length (ofN B64 (T + 1))) k2)] ?_
     refine xg ?_
     refine xbl 80 [.int .u64 1] 22 1 (fun g11 => ?_)
     refine xz [] [(8, .slice (some ⟨g11, 0, none⟩) 1 1)] ?_
     refine SW_seq ?_
     refine xr [] [(82, .bool (decide (z0 ≥ 0)))] ?_
     refine xsf z5 ?_
     refine xg ?_
     refine xn 2 [] [(86, .int .i64 (IntKind.wrap IntKind.i64 (0 - z0)))] ?_
     refine xcr 87 cp zs0 (fun A3 k3 => ?_)
     refine xz [] [(9, .slice A3 (List.length (ofN B64 (10 ^ e))) k3)] ?_
     refine xg ?_
     refine xn 2 [] [(89, .slice A3 (List.length (ofN B64 (10 ^ e))) k3), (88, .slice (some ⟨g7, 0, none⟩) 2 2)] ?_
     refine xcr 90 (c6 _ _ _ _) (zsS (ziS (ziS (ziS (ziS (ziS zi0))))) (zsS zi0 zs0)) (fun A4 k4 => ?_)
     refine xz [] [(6, .slice A4 (List.length (ofN B64 (T * 10 ^ e))) k4)] ?_
     refine SW_region ?_
     refine xn 2 [] [(92, .slice A3 (List.length (ofN B64 (10 ^ e))) k3), (91, .slice A2 (List.length (ofN B64 (T + 1))) k2)] ?_
     refine xcr 93 (ct_impl_NatMul_rows (ofN B64 (T + 1)) (ofN B64 (10 ^ e)) (T + 1) (10 ^ e) g1 g2 (A2) (A3) (k2) (k3)) (zsS (ziS (ziS zi0)) (zsS (ziS zi0) zs0)) (fun A5 k5 => ?_)
     refine xz [] [(7, .slice A5 (List.length (ofN B64 ((T + 1) * 10 ^ e))) k5)] ?_
     refine SW_seq ?_
     refine xr [(1, [0])] [(96, .bool (decide (-(i : Int) ≥ 0)))] ?_
     refine xsf z6 ?_
     refine SW_region ?_
     refine xn 4 [(2, [0])] [(108, .int .i64 (IntKind.wrap IntKind.i64 (0 - -(i : Int)))), (105, .slice (some ⟨g11, 0, none⟩) 1 1)] ?_
     refine NW_fz 1 1 g11 IntKind.u64 [1] [] 22 (by simp) (by simp) ?_
     refine xcr 109 (c7 _ _) (zsS zi0 zs0) (fun A6 k6 => ?_)
     refine xz [] [(8, .slice A6 (List.length (ofN B64 (1 * 2 ^ i))) k6)] ?_
     refine xg ?_
     refine xn 2 [] [(111, .slice A6 (List.length (ofN B64 (1 * 2 ^ i))) k6), (110, .slice A4 (List.length (ofN B64 (T * 10 ^ e))) k4)] ?_
     refine xcv 112 (ct_impl_NatCmp_rows (ofN B64 (T * 10 ^ e)) (ofN B64 (1 * 2 ^ i)) (T * 10 ^ e) (1 * 2 ^ i) g3 g5 (A4) (A6) (k4) (k6)) (zsS (ziS (ziS (ziS zi0))) (zsS zi0 zs0)) ?_
     refine xz [] [(10, .int .i64 (cmpN (T * 10 ^ e) (1 * 2 ^ i)))] ?_
     refine xg ?_
     refine xn 3 [] [(115, .bool (cmpN (T * 10 ^ e) (1 * 2 ^ i) == 0))] ?_
     refine xkt 115 q1 ?_
     refine xn 18 [(4, [0])] [(130, .slice A6 (List.length (ofN B64 (1 * 2 ^ i))) k6), (129, .slice A5 (List.length (ofN B64 ((T + 1) * 10 ^ e))) k5), (128, .bool true)] ?_
     refine xcv 131 (ct_impl_NatCmp_rows (ofN B64 ((T + 1) * 10 ^ e)) (ofN B64 (1 * 2 ^ i)) ((T + 1) * 10 ^ e) (1 * 2 ^ i) g4 g5 (A5) (A6) (k5) (k6)) (zsS (ziS (ziS zi0)) (zsS zi0 zs0)) ?_
     refine xz [] [(2, .bool (cmpN ((T + 1) * 10 ^ e) (1 * 2 ^ i) == 1))] ?_
     refine SW_ret ?_
     refine xe () (.bool (cmpN ((T + 1) * 10 ^ e) (1 * 2 ^ i) == 1)) [] ?_ trivial
     exact congrArg Value.bool zn
    ·rw [if_neg hm] at hl
     rw [decide_eq_false hm] at hb
     subst hb
     have q1 : (cmpN (T * 10 ^ e) (1 * 2 ^ i) == 0) = false := by rw [Nat.one_mul, hl.1]; rfl
     have q2 : (cmpN (T * 10 ^ e) (1 * 2 ^ i) == -1) = true := by rw [Nat.one_mul, hl.1]; rfl
     clear hl hTe
     refine xcv 21 ci zs0 ?_
     refine xb 5 [.int .i64 0, .int .i64 0, .int .u64 0, .int .u64 0, .int .i64 0, .bool false, .bool false] 26 (fun g6 => ?_)
     refine xy [(4, [0])] [] [(0, [.int .i64 z0, .int .i64 ((w' : Nat) : Int), .int .u64 (hiI T), .int .u64 (loI T), .int .i64 (-(i : Int)), .bool false, .bool true])] ?_
     refine SW_seq ?_
     refine xd (fun hB => ?_)
     refine xdk [(0, []), (1, [0]), (2, []), (3, [])] [(25, .int .i64 ((w' : Nat) : Int)), (24, .int .i64 z0), (23, .bool true)] hB ?_
     refine xdv 4 26 cs zs0 ?_
     refine xdk [(5, []), (6, [])] [(28, .bool false)] hB ?_
     refine xdz ?_
     refine xs0 ?_
     refine SW_skip ?_
     refine SW_seq ?_
     refine xr [(1, [0])] [(31, .bool false)] ?_
     refine xs0 ?_
     refine SW_skip ?_
     refine SW_seq ?_
     refine xg ?_
     refine xn 5 [(1, [0])] [(39, .bool (z0 != z0))] ?_
     refine xkf 39 zk ?_
     refine xn 11 [(6, [0])] [(45, .bool (((w' : Nat) : Int) != ((w' : Nat) : Int)))] ?_
     refine xkf 45 zw ?_
     refine xn 16 [(12, [0])] [(50, .bool (decide (-(i : Int) > 20000)))] ?_
     refine xkf 50 z3 ?_
     refine xz [(17, [0])] [(54, .bool (decide (-(i : Int) < -20000)))] ?_
     refine xsf z4 ?_
     refine SW_skip ?_
     refine xg ?_
     refine xn 6 [(2, [0]), (5, [0])] [(60, .int .u64 (hiI T)), (57, .int .u64 (loI T))] ?_
     refine xbl 61 [.int .u64 (loI T), .int .u64 (hiI T)] 22 2 (fun g7 => ?_)
     refine xz [] [(6, .slice (some ⟨g7, 0, none⟩) 2 2)] ?_
     refine SW_seq ?_
     refine xg ?_
     refine xn 1 [] [(62, .slice (some ⟨g7, 0, none⟩) 2 2)] ?_
     refine xbl 63 [.int .u64 1] 22 1 (fun g8 => ?_)
     refine xn 4 [] [(65, .int .i64 (IntKind.wrap IntKind.i64 (((w' : Nat) : Int) - 1)))] ?_
     refine NW_fz 2 1 g8 IntKind.u64 [1] [] 22 (by simp) (by simp) ?_
     refine xcr 66 (c1 _ _) (zsS zi0 zs0) (fun A0 k0 => ?_)
     refine NW_fz 1 2 g7 IntKind.u64 [loI T, hiI T] [] 22 (by simp) (by simp) ?_
     refine xcv 67 (c3 _ _ _ _) (zsS zi0 (zsS (ziS zi0) zs0)) ?_
     refine xn 8 [] [(69, .bool (cmpN T (1 * 2 ^ (w' - 1)) == -1))] ?_
     refine xkf 69 z1 ?_
     refine xn 9 [] [(70, .slice (some ⟨g7, 0, none⟩) 2 2)] ?_
     refine xbl 71 [.int .u64 1] 22 1 (fun g9 => ?_)
     refine xn 11 [] [(72, .int .i64 ((w' : Nat) : Int))] ?_
     refine NW_fz 1 1 g9 IntKind.u64 [1] [] 22 (by simp) (by simp) ?_
     refine xcr 73 (c2 _ _) (zsS zi0 zs0) (fun A1 k1 => ?_)
     refine xcv 74 (c4 _ _ _ _) (zsS (ziS (ziS zi0)) (zsS zi0 zs0)) ?_
     refine xz [] [(76, .bool (cmpN T (1 * 2 ^ w') != -1))] ?_
     refine xsf z2 ?_
     refine SW_skip ?_
     refine xg ?_
     refine xn 1 [] [(77, .slice (some ⟨g7, 0, none⟩) 2 2)] ?_
     refine xbl 78 [.int .u64 1] 22 1 (fun g10 => ?_)
     refine NW_fz 1 1 g10 IntKind.u64 [1] [] 22 (by simp) (by simp) ?_
     refine xcr 79 (c5 _ _ _ _) (zsS (ziS (ziS (ziS zi0))) (zsS zi0 zs0)) (fun A2 k2 => ?_)
     refine xz [] [(7, .slice A2 (List.length (ofN B64 (T + 1))) k2)] ?_
     refine xg ?_
     refine xbl 80 [.int .u64 1] 22 1 (fun g11 => ?_)
     refine xz [] [(8, .slice (some ⟨g11, 0, none⟩) 1 1)] ?_
     refine SW_seq ?_
     refine xr [] [(82, .bool (decide (z0 ≥ 0)))] ?_
     refine xsf z5 ?_
     refine xg ?_
     refine xn 2 [] [(86, .int .i64 (IntKind.wrap IntKind.i64 (0 - z0)))] ?_
     refine xcr 87 cp zs0 (fun A3 k3 => ?_)
     refine xz [] [(9, .slice A3 (List.length (ofN B64 (10 ^ e))) k3)] ?_
     refine xg ?_
     refine xn 2 [] [(89, .slice A3 (List.length (ofN B64 (10 ^ e))) k3), (88, .slice (some ⟨g7, 0, none⟩) 2 2)] ?_
     refine xcr 90 (c6 _ _ _ _) (zsS (ziS (ziS (ziS (ziS (ziS zi0))))) (zsS zi0 zs0)) (fun A4 k4 => ?_)
     refine xz [] [(6, .slice A4 (List.length (ofN B64 (T * 10 ^ e))) k4)] ?_
     refine SW_region ?_
     refine xn 2 [] [(92, .slice A3 (List.length (ofN B64 (10 ^ e))) k3), (91, .slice A2 (List.length (ofN B64 (T + 1))) k2)] ?_
     refine xcr 93 (ct_impl_NatMul_rows (ofN B64 (T + 1)) (ofN B64 (10 ^ e)) (T + 1) (10 ^ e) g1 g2 (A2) (A3) (k2) (k3)) (zsS (ziS (ziS zi0)) (zsS (ziS zi0) zs0)) (fun A5 k5 => ?_)
     refine xz [] [(7, .slice A5 (List.length (ofN B64 ((T + 1) * 10 ^ e))) k5)] ?_
     refine SW_seq ?_
     refine xr [(1, [0])] [(96, .bool (decide (-(i : Int) ≥ 0)))] ?_
     refine xsf z6 ?_
     refine SW_region ?_
     refine xn 4 [(2, [0])] [(108, .int .i64 (IntKind.wrap IntKind.i64 (0 - -(i : Int)))), (105, .slice (some ⟨g11, 0, none⟩) 1 1)] ?_
     refine NW_fz 1 1 g11 IntKind.u64 [1] [] 22 (by simp) (by simp) ?_
     refine xcr 109 (c7 _ _) (zsS zi0 zs0) (fun A6 k6 => ?_)
     refine xz [] [(8, .slice A6 (List.length (ofN B64 (1 * 2 ^ i))) k6)] ?_
     refine xg ?_
     refine xn 2 [] [(111, .slice A6 (List.length (ofN B64 (1 * 2 ^ i))) k6), (110, .slice A4 (List.length (ofN B64 (T * 10 ^ e))) k4)] ?_
     refine xcv 112 (ct_impl_NatCmp_rows (ofN B64 (T * 10 ^ e)) (ofN B64 (1 * 2 ^ i)) (T * 10 ^ e) (1 * 2 ^ i) g3 g5 (A4) (A6) (k4) (k6)) (zsS (ziS (ziS (ziS zi0))) (zsS zi0 zs0)) ?_
     refine xz [] [(10, .int .i64 (cmpN (T * 10 ^ e) (1 * 2 ^ i)))] ?_
     refine xg ?_
     refine xn 3 [] [(115, .bool (cmpN (T * 10 ^ e) (1 * 2 ^ i) == 0))] ?_
     refine xkf 115 q1 ?_
     refine xn 10 [] [(122, .bool (cmpN (T * 10 ^ e) (1 * 2 ^ i) == -1)), (119, .bool false)] ?_
     refine xkt 122 q2 ?_
     refine xn 18 [(11, [0])] [(130, .slice A6 (List.length (ofN B64 (1 * 2 ^ i))) k6), (129, .slice A5 (List.length (ofN B64 ((T + 1) * 10 ^ e))) k5), (128, .bool true)] ?_
     refine xcv 131 (ct_impl_NatCmp_rows (ofN B64 ((T + 1) * 10 ^ e)) (ofN B64 (1 * 2 ^ i)) ((T + 1) * 10 ^ e) (1 * 2 ^ i) g4 g5 (A5) (A6) (k5) (k6)) (zsS (ziS (ziS zi0)) (zsS zi0 zs0)) ?_
     refine xz [] [(2, .bool (cmpN ((T + 1) * 10 ^ e) (1 * 2 ^ i) == 1))] ?_
     refine SW_ret ?_
     refine xe () (.bool (cmpN ((T + 1) * 10 ^ e) (1 * 2 ^ i) == 1)) [] ?_ trivial
     exact congrArg Value.bool zn
 ·have z : decide ((bt.length : Int) > 1048576) = true := decide_eq_true (by omega)
  refine ct_of Try.func4 rfl (by kernel_rfl) (fun B w0 => ?_)
  refine xr [] [(2, .bool false)] ?_
  refine SW_seq ?_
  refine xr [] [(13, .bool (decide ((((List.length bt) : Nat) : Int) > 1048576)))] ?_
  refine xst z ?_
  refine xr [] [(2, .bool true)] ?_
  refine SW_ret ?_
  refine xe () (.bool true) [] ?_ trivial
  rfl
end Go.Proofs.Ytlfpjlfmjojimaa.M
end
