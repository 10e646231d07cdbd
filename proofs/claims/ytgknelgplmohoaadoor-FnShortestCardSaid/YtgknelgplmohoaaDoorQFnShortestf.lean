import Derived.Test.YtgknelgplmohoaaDoorProg
import Derived.Test.YtgknelgplmohoaaDoorQFnShorteste
section
namespace Go.Proofs.YtgknelgplmohoaaDoor.M
open Go.RowKit Go.Proofs.YtgknelgplmohoaaDoorV.PrintWords Go.Proofs.YtgknelgplmohoaaDoorV.PrintLast Go.Proofs.YtgknelgplmohoaaDoor.X
set_option linter.unusedVariables false
set_option linter.unusedSimpArgs false
theorem run_neq {P : Program} {t : TypeId} {ρ : Operand → Value} {o : Oper} {x y : Operand} {xs ys : Array Value} {yt : TypeId} {r : Bool} (ho : o.op = .binOp .neq t x y yt) (hx : ρ x = .agg xs) (hy : ρ y = .agg ys) (hg : P.eqGuardType P.depth t = false) (w : World) (h : (Op.equal t (.agg xs) (.agg ys)).run P w = .ok r w) : (execOp ρ o).run P w = .ok (.value (.bool (!r))) w := by
  unfold execOp
  simp [ho, hx, hy, eqGuard, program, Sem.run_bind, Sem.run, hg, binOp, h, Result.andThen]
theorem run_eql {P : Program} {t : TypeId} {ρ : Operand → Value} {o : Oper} {x y : Operand} {xs ys : Array Value} {yt : TypeId} {r : Bool} (ho : o.op = .binOp .eql t x y yt) (hx : ρ x = .agg xs) (hy : ρ y = .agg ys) (hg : P.eqGuardType P.depth t = false) (w : World) (h : (Op.equal t (.agg xs) (.agg ys)).run P w = .ok r w) : (execOp ρ o).run P w = .ok (.value (.bool r)) w := by
  unfold execOp
  simp [ho, hx, hy, eqGuard, program, Sem.run_bind, Sem.run, hg, binOp, h, Result.andThen]
theorem eq_word (d : Nat) (h l h' l' : Int) (w : World) : (Op.equalIn (d + 1 + 1) 28 (.agg #[.int .u64 h, .int .u64 l]) (.agg #[.int .u64 h', .int .u64 l'])).run Tryd.prog w = .ok ((h == h') && (l == l')) w :=
  eqA_of Tryd.underlying28 (by kernel_rfl) (eqf_cons (by kernel_rfl) (a := .int .u64 h) (b := .int .u64 h') (by kernel_rfl) (by kernel_rfl) (by kernel_rfl) (eqf_last (by kernel_rfl) (a := .int .u64 l) (b := .int .u64 l') (by kernel_rfl) (by kernel_rfl) (by kernel_rfl)))
theorem eq_parts (d : Nat) (c q h l c' q' h' l' : Int) (n n' : Bool) (w : World) : (Op.equalIn (d + 1 + 1 + 1) 33 (.agg #[.int .i64 c, .bool n, .int .u64 h, .int .u64 l, .int .i64 q]) (.agg #[.int .i64 c', .bool n', .int .u64 h', .int .u64 l', .int .i64 q'])).run Tryd.prog w = .ok ((c == c') && ((n == n') && (((h == h') && (l == l')) && (q == q')))) w :=
  eqA_of Tryd.underlying33 (by kernel_rfl) (eqf_cons (by kernel_rfl) (a := .int .i64 c) (b := .int .i64 c') (by kernel_rfl) (by kernel_rfl) (by kernel_rfl)
    (eqf_cons (by kernel_rfl) (a := .bool n) (b := .bool n') (by kernel_rfl) (by kernel_rfl) (by kernel_rfl)
      (eqf_cons (by kernel_rfl) (a := .agg #[.int .u64 h, .int .u64 l]) (b := .agg #[.int .u64 h', .int .u64 l']) (by kernel_rfl) (by kernel_rfl) (eq_word d h l h' l' w)
        (eqf_last (by kernel_rfl) (a := .int .i64 q) (b := .int .i64 q') (by kernel_rfl) (by kernel_rfl) (by kernel_rfl)))))
end Go.Proofs.YtgknelgplmohoaaDoor.M
end
section
namespace Go.Proofs.YtgknelgplmohoaaDoor.X
open Go.RowKit Go.Proofs.YtgknelgplmohoaaDoorV.PrintWords Go.Proofs.YtgknelgplmohoaaDoorV.PrintLast
set_option linter.unusedVariables false
set_option linter.unusedSimpArgs false
theorem run_idx {P : Program} {t e : TypeId} {ρ : Operand → Value} {o : Oper} {x ix : Operand} {ad : Addr} {n c : Nat} {k : IntKind} {i : Int} (ho : o.op = .indexAddr t x ix) (hx : ρ x = .slice (some ad) n c) (hi : ρ ix = .int k i) (ht : ∀ w, (underlying t).run P w = .ok (.slice e) w) (hs : ∀ w, (sizeOf e).run P w = .ok 1 w) (h0 : 0 ≤ i) (h1 : i < n) (w : World) : (execOp ρ o).run P w = .ok (.value (.pointer (some (ad.add i.toNat)))) w := by
  unfold execOp
  simp only [ho, hx, hi, Instr.indexAt]
  have hc : (0 ≤ i ∧ i < (n : Int)) := ⟨h0, h1⟩
  simp [Sem.run_bind, Result.andThen, asIntOf, ht, hs, h0, h1]
theorem run_rd {P : Program} {t : TypeId} {ρ : Operand → Value} {o : Oper} {a : Operand} {p : Addr} {v : Value} (ho : o.op = .load t a) (ha : ρ a = .pointer (some p)) (hg : ∀ w, (isAgg t).run P w = .ok false w) (w : World) (hc : w.cell? p = some v) : (execOp ρ o).run P w = .ok (.value v) w := by
  unfold execOp
  simp only [ho, ha, Instr.loadAt, Instr.sureAddr, loadVar]
  simp [Sem.run_bind, Result.andThen, hg, hc]
theorem row_at {k : IntKind} {A : Option Addr} {c : Nat} {xs : List Int} {w : World} (h : Row k A c xs w) (hl : 0 < xs.length) : ∃ ad, A = some ad := by
  obtain ⟨ad, h1, _⟩ := Kd.at_int h.1 0 (Int.le_refl _) (by omega)
  exact ⟨ad, h1⟩
theorem row_cell {k : IntKind} {ad : Addr} {c : Nat} {xs : List Int} {w : World} (h : Row k (some ad) c xs w) {i : Int} (h0 : 0 ≤ i) (h1 : i < xs.length) : w.cell? (ad.add i.toNat) = some (.int k (rd xs i)) := by
  obtain ⟨ad', e, hc⟩ := Kd.at_int h.1 i h0 h1
  cases e
  exact hc
section
variable {X : Cx} {env : List (Nat × Value)} {bs : List Box} {fs : List Fact} {K : Exit → St → Prop} {ops : Array Oper} {j : Nat}
theorem xvl (d : Nat) {k : IntKind} {ad : Addr} {c : Nat} {xs : List Int} (hF : In (Row k (some ad) c xs) fs) (i : Int) {o : Oper} {t : TypeId} {a : Operand} (h0 : 0 ≤ i) (h1 : i < xs.length) (h : NW X ops (Nat.succ j) ⟨(d, .int k (rd xs i)) :: env, bs, fs⟩ K)
    (ho : ops[j]? = some o := by rfl) (hop : o.op = .load t a := by rfl) (hg : guardD ops env o = some true := by kernel_rfl) (hf : fitO X.n env o = true := by kernel_rfl) (hd : o.dst = some d := by rfl)
    (ha : evD env a = .pointer (some (ad.add i.toNat)) := by kernel_rfl) (ht : ∀ w, (isAgg t).run X.P w = .ok false w := by intro w; kernel_rfl) : NW X ops j ⟨env, bs, fs⟩ K :=
  nv _ d _ ho hg hf hd (fun w _ hw => run_rd hop ha ht w (row_cell (hw _ hF.mem) h0 h1)) rfl h
end
end Go.Proofs.YtgknelgplmohoaaDoor.X
end
