import Derived.Test.YtdbnmdchecacdaaDoorQFnExactRoundRatiom
section
namespace Go.Proofs.YtdbnmdchecacdaaDoor.M
open Go.RowKit Go.Proofs.YtdbnmdchecacdaaDoor.G Go.Proofs.YtdbnmdchecacdaaDoorV.PrintWords Go.Proofs.YtdbnmdchecacdaaDoorV.PrintLast Go.Proofs.YtdbnmdchecacdaaDoor.X
set_option linter.unusedVariables false
set_option linter.unusedSimpArgs false
theorem ct_laws_eqRounded (h l g : Int) (k : Bool) : CtV Tryd.prog 38 [.agg #[.int .u64 h, .int .u64 l, .int .i64 g, .bool k], .agg #[.int .u64 h, .int .u64 l, .int .i64 g, .bool k]] [] (.bool true) := by
 have ce := ct_laws_eqWord h l h l
 rw [decide_eq_true (⟨rfl, rfl⟩ : h = h ∧ l = l)] at ce
 have z1 : (g != g) = false := by simp
 have z2 : (!(k == k)) = false := by simp
 have z3 : (k != k) = false := by simp
 refine ct_of Tryd.func38 rfl (by kernel_rfl) (fun B w0 => ?_)
 refine xg ?_
 refine xb 2 [.int .u64 h, .int .u64 l, .int .i64 g, .bool k] 56 (fun g0 => ?_)
 refine xb 3 [.int .u64 h, .int .u64 l, .int .i64 g, .bool k] 56 (fun g1 => ?_)
 refine xz [] [(4, .bool false)] ?_
 refine SW_seq ?_
 refine xg ?_
 refine xn 4 [(1, [0]), (3, [1])] [(8, .agg #[.int .u64 h, .int .u64 l]), (6, .agg #[.int .u64 h, .int .u64 l])] ?_
 refine xcv 9 ce zs0 ?_
 refine xz [] [(10, .bool false)] ?_
 refine xs0 ?_
 refine SW_skip ?_
 refine SW_seq ?_
 refine xr [(1, [0]), (3, [1])] [(15, .bool (g != g))] ?_
 refine xsf z1 ?_
 refine SW_skip ?_
 refine SW_seq ?_
 refine xr [(1, [0]), (3, [1])] [(20, .bool !k == k)] ?_
 refine xsf z2 ?_
 refine SW_skip ?_
 refine xr [] [(4, .bool true)] ?_
 refine SW_ret ?_
 refine xe () (.bool true) [] ?_ trivial
 rfl
theorem ct_laws_FnExactRoundRatio (f : Int) (neg : Bool) (a b : List Int) (A A' : Option Addr) (c c' : Nat) (da : Dig B64 a) (db : Dig B64 b) :
  CtV Tryd.prog 9 [.int .i64 f, .bool neg, .slice A a.length c, .slice A' b.length c'] [Tabled, Row .u64 A c a, Row .u64 A' c' b] (.bool true) := by
 by_cases la : a.length ≤ 1048576
 ·have z1 : decide ((a.length : Int) > 1048576) = false := decide_eq_false (by omega)
  by_cases lb : b.length ≤ 1048576
  ·have z2 : decide ((b.length : Int) > 1048576) = false := decide_eq_false (by omega)
   obtain ⟨v, hs, hi⟩ := round_both f neg a b da db la lb
   refine ct_of Tryd.func9 rfl (by kernel_rfl) (fun B w0 => ?_)
   refine xr [] [(8, .bool false)] ?_
   refine SW_seq ?_
   refine xr [] [(15, .bool (decide ((((List.length a) : Nat) : Int) > 1048576)))] ?_
   refine xsf z1 ?_
   refine SW_skip ?_
   refine SW_seq ?_
   refine xr [] [(18, .bool (decide ((((List.length b) : Nat) : Int) > 1048576)))] ?_
   refine xsf z2 ?_
   refine SW_skip ?_
   refine xg ?_
   refine xn 3 [] [(21, .slice A (List.length a) c), (20, .bool neg), (19, .int .i64 f)] ?_
   refine xcr 22 (ct_laws_toUint64S (a) (A) (c) (by omega)) (zsS (ziS zi0) zs0) (fun A0 k0 => ?_)
   refine xn 5 [] [(23, .slice A' (List.length b) c')] ?_
   refine xcr 24 (ct_laws_toUint64S (b) (A') (c') (by omega)) (zsS (ziS (ziS (ziS zi0))) zs0) (fun A1 k1 => ?_)
   refine xcv 25 (hs _ _ _ _) (zsS (ziS zi0) (zsS zi0 zs0)) ?_
   refine xb 9 [.int .u64 0, .int .u64 0, .int .i64 0, .bool false] 56 (fun g0 => ?_)
   refine xy [(8, [0])] [] [(0, [.int .u64 (Prod.fst v), .int .u64 (Prod.fst (Prod.snd v)), .int .i64 (Prod.fst (Prod.snd (Prod.snd v))), .bool (Prod.snd (Prod.snd (Prod.snd v)))])] ?_
   refine xg ?_
   refine xn 1 [] [(26, .slice A (List.length a) c)] ?_
   refine xcr 27 (ct_laws_toUint64S (a) (A) (c) (by omega)) (zsS (ziS (ziS (ziS zi0))) zs0) (fun A2 k2 => ?_)
   refine xz [] [(10, .slice A2 (List.length a) k2)] ?_
   refine xg ?_
   refine xn 1 [] [(28, .slice A' (List.length b) c')] ?_
   refine xcr 29 (ct_laws_toUint64S (b) (A') (c') (by omega)) (zsS (ziS (ziS (ziS (ziS (ziS zi0))))) zs0) (fun A3 k3 => ?_)
   refine xz [] [(11, .slice A3 (List.length b) k3)] ?_
   refine xg ?_
   refine xn 4 [] [(33, .slice A3 (List.length b) k3), (32, .slice A2 (List.length a) k2), (31, .bool neg), (30, .int .i64 f)] ?_
   refine xcv 34 (hi _ _ _ _) (zsS (ziS (ziS (ziS (ziS zi0)))) (zsS (ziS zi0) (zsS zi0 zs0))) ?_
   refine xb 12 [.int .u64 0, .int .u64 0, .int .i64 0, .bool false] 56 (fun g1 => ?_)
   refine xy [(6, [1])] [] [(1, [.int .u64 (Prod.fst v), .int .u64 (Prod.fst (Prod.snd v)), .int .i64 (Prod.fst (Prod.snd (Prod.snd v))), .bool (Prod.snd (Prod.snd (Prod.snd v)))])] ?_
   refine SW_seq ?_
   refine xg ?_
   refine xn 2 [(0, [1]), (1, [0])] [(36, .agg #[.int .u64 (Prod.fst v), .int .u64 (Prod.fst (Prod.snd v)), .int .i64 (Prod.fst (Prod.snd (Prod.snd v))), .bool (Prod.snd (Prod.snd (Prod.snd v)))]), (35, .agg #[.int .u64 (Prod.fst v), .int .u64 (Prod.fst (Prod.snd v)), .int .i64 (Prod.fst (Prod.snd (Prod.snd v))), .bool (Prod.snd (Prod.snd (Prod.snd v)))])] ?_
   refine xcv 37 (ct_laws_eqRounded (Prod.fst v) (Prod.fst (Prod.snd v)) (Prod.fst (Prod.snd (Prod.snd v))) (Prod.snd (Prod.snd (Prod.snd v)))) zs0 ?_
   refine xz [] [(38, .bool false)] ?_
   refine xs0 ?_
   refine SW_skip ?_
   refine SW_seq ?_
   refine xg ?_
   refine xn 2 [] [(40, .slice A (List.length a) c), (39, .slice A2 (List.length a) k2)] ?_
   refine xcr 41 (ct_laws_toUint64S (a) (A) (c) (by omega)) (zsS (ziS (ziS (ziS (ziS (ziS zi0))))) zs0) (fun A4 k4 => ?_)
   refine xcv 42 (ct_laws_eqUint64S (a) (A2) (A4) (k2) (k4) (by omega)) (zsS (ziS (ziS zi0)) (zsS zi0 zs0)) ?_
   refine xz [] [(43, .bool false)] ?_
   refine xs0 ?_
   refine SW_skip ?_
   refine SW_seq ?_
   refine xg ?_
   refine xn 2 [] [(45, .slice A' (List.length b) c'), (44, .slice A3 (List.length b) k3)] ?_
   refine xcr 46 (ct_laws_toUint64S (b) (A') (c') (by omega)) (zsS (ziS (ziS (ziS (ziS (ziS (ziS (ziS zi0))))))) zs0) (fun A5 k5 => ?_)
   refine xcv 47 (ct_laws_eqUint64S (b) (A3) (A5) (k3) (k5) (by omega)) (zsS (ziS (ziS zi0)) (zsS zi0 zs0)) ?_
   refine xz [] [(48, .bool false)] ?_
   refine xs0 ?_
   refine SW_skip ?_
   refine xr [] [(8, .bool true)] ?_
   refine SW_ret ?_
   refine xe () (.bool true) [] ?_ trivial
   rfl
  ·have z2 : decide ((b.length : Int) > 1048576) = true := decide_eq_true (by omega)
   refine ct_of Tryd.func9 rfl (by kernel_rfl) (fun B w0 => ?_)
   refine xr [] [(8, .bool false)] ?_
   refine SW_seq ?_
   refine xr [] [(15, .bool (decide ((((List.length a) : Nat) : Int) > 1048576)))] ?_
   refine xsf z1 ?_
   refine SW_skip ?_
   refine SW_seq ?_
   refine xr [] [(18, .bool (decide ((((List.length b) : Nat) : Int) > 1048576)))] ?_
   refine xst z2 ?_
   refine xr [] [(8, .bool true)] ?_
   refine SW_ret ?_
   refine xe () (.bool true) [] ?_ trivial
   rfl
 ·have z1 : decide ((a.length : Int) > 1048576) = true := decide_eq_true (by omega)
  refine ct_of Tryd.func9 rfl (by kernel_rfl) (fun B w0 => ?_)
  refine xr [] [(8, .bool false)] ?_
  refine SW_seq ?_
  refine xr [] [(15, .bool (decide ((((List.length a) : Nat) : Int) > 1048576)))] ?_
  refine xst z1 ?_
  refine xr [] [(8, .bool true)] ?_
  refine SW_ret ?_
  refine xe () (.bool true) [] ?_ trivial
  rfl
end Go.Proofs.YtdbnmdchecacdaaDoor.M
end
