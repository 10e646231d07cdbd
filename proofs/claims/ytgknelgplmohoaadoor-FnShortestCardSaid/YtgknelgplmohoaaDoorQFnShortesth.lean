import Derived.Scope
import Derived.Test.YtgknelgplmohoaaDoorQFnShortestg
section
namespace Go.Proofs.YtgknelgplmohoaaDoor.X
open Go.RowKit Go.Proofs.YtgknelgplmohoaaDoorV.PrintWords Go.Proofs.YtgknelgplmohoaaDoorV.PrintLast
set_option linter.unusedVariables false
set_option linter.unusedSimpArgs false
def CtRV (P : Program) (f : FuncId) (args : List Value) (pre : List Fact) (k : IntKind) (r : List Int) (v : Value) : Prop := Ct P f args pre (γ := Option Addr × Nat) (fun g => .tuple #[.slice g.1 r.length g.2, v]) (fun g => [Row k g.1 g.2 r])
def CtRR (P : Program) (f : FuncId) (args : List Value) (pre : List Fact) (k : IntKind) (r r' : List Int) : Prop := Ct P f args pre (γ := (Option Addr × Nat) × (Option Addr × Nat)) (fun g => .tuple #[.slice g.1.1 r.length g.1.2, .slice g.2.1 r'.length g.2.2]) (fun g => [Row k g.1.1 g.1.2 r, Row k g.2.1 g.2.2 r'])
section
variable {X : Cx} {env : List (Nat × Value)} {bs : List Box} {fs : List Fact} {K : Exit → St → Prop} {ops : Array Oper} {i j : Nat} {l : List Bool} {lv : Bool} {ds : List Nat} {s0 : St}
theorem xct (d : Nat) {f : FuncId} {args : List Value} {pre : List Fact} {k : IntKind} {r : List Int} {v : Value} (hc : CtRV X.P f args pre k r v) (hp : Sub pre fs) (h : ∀ A c, NW X ops (Nat.succ i) ⟨(d, .tuple #[.slice A r.length c, v]) :: env, bs, Row k A c r :: fs⟩ K)
    (hr : callAt X.P X.n ops i ⟨env, bs, fs⟩ = some ((f, args), some d) := by kernel_rfl) : NW X ops i ⟨env, bs, fs⟩ K := xck d hc hp (fun g => h g.1 g.2) hr
theorem xcw (d : Nat) {f : FuncId} {args : List Value} {pre : List Fact} {k : IntKind} {r r' : List Int} (hc : CtRR X.P f args pre k r r') (hp : Sub pre fs) (h : ∀ A c A' c', NW X ops (Nat.succ i) ⟨(d, .tuple #[.slice A r.length c, .slice A' r'.length c']) :: env, bs, Row k A c r :: Row k A' c' r' :: fs⟩ K)
    (hr : callAt X.P X.n ops i ⟨env, bs, fs⟩ = some ((f, args), some d) := by kernel_rfl) : NW X ops i ⟨env, bs, fs⟩ K := xck d hc hp (fun g => h g.1.1 g.1.2 g.2.1 g.2.2) hr
def noG (K : Exit → St → Prop) : Exit → St → Prop
  | .goto _, _ => False
  | e, s => K e s
theorem unwideX {X : Cx} {c : Code} {s : St} {K : Exit → St → Prop} (hrd : X.rd = none) (h : SW X c s K) : ∀ a w, Agree X.fr s a → Holds X s w → c.wp X.P (Lift X K) a w := by
  obtain ⟨P, n, B, w0, rd⟩ := X
  cases hrd
  exact fun a w ha hw => wpIn_wide.1 (h a w ha hw)
theorem SW_scope {c : Code} {s : St} (hrd : X.rd = none) (h : SW X c s (noG K)) : SW X (.scope c) s K := wideX hrd fun a w ha hw => wp_scope_straight (wp_mono (unwideX hrd h a w ha hw) (fun e a' w' hq => by
  obtain ⟨s', h1, h2, h3⟩ := hq
  cases e with
  | goto l => exact h3.elim
  | _ => exact ⟨s', h1, h2, h3⟩))
theorem SW_scope' {c : Code} {s : St} (h : SW X c s K) (hK : ∀ l s, ¬ K (.goto l) s) (hrd : X.rd = none := by rfl) : SW X (.scope c) s K := SW_scope hrd (SW_mono h (fun e s' k => by
  cases e with
  | goto l => exact absurd k (hK l s')
  | _ => exact k))
theorem SW_then {c : Code} {s : St} {M : St → Prop} (I : St → Prop) (h : SW X c s (thenK I K)) (h2 : ∀ s', I s' → M s') : SW X c s (thenK M K) := SW_mono h (fun e s' k => by
  cases e with
  | normal => exact h2 _ k
  | _ => exact k)
theorem src_row0 {t : TypeId} {env : List (Nat × Value)} {x : Operand} {A : Option Addr} {c : Nat} {k : IntKind} {ys : List Int} {e' : TypeId} (ht : X.P.underlying t = some (.slice e')) (hx : evD env x = .slice A ys.length c) (hF : In (Row k A c ys) fs) :
    ∀ w, Holds X ⟨env, bs, fs⟩ w → Src X.P 1 t (evD env x) ys.length (ys.map (.int k)) w := fun w hw => by
  by_cases hp : 0 < ys.length
  · exact src_row ht hx hF hp w hw
  · obtain rfl : ys = [] := List.eq_nil_of_length_eq_zero (by omega)
    rw [hx]
    cases A with
    | none => exact Src.ofNil w ht c
    | some ad => exact Src.ofSlice w ht ad 0 c [] rfl (fun m u hu => by simp at hu) (fun u hu => by cases hu)
theorem xaz (d h e bytes g : Nat) {o : Oper} {t : TypeId} {s x : Operand} {k : IntKind} {c2 : Nat} {A : Option Addr} {ys : List Int} (hF : In (Row k A c2 ys) fs) (hl : ys.length * bytes ≤ 140737488355328)
    (hk : ∀ g' r' c', ys.length + r'.length = c' → NW X ops (Nat.succ j) ⟨(d, .slice (some ⟨g', 0, none⟩) ys.length c') :: env, puB bs h ⟨g', cl k ys r', e⟩, fs⟩ K)
    (hb : bs[h]? = some ⟨g, [], e⟩ := by kernel_rfl) (ho : ops[j]? = some o := by rfl) (hop : o.op = .call { callee := .builtin .append, args := #[s, x], argTypes := #[t, t] } := by rfl)
    (hg : guardD ops env o = some true := by kernel_rfl) (hf : fitO X.n env o = true := by kernel_rfl) (hd : o.dst = some d := by rfl)
    (hs : evD env s = .slice (some ⟨g, 0, none⟩) 0 0 := by kernel_rfl) (hx : evD env x = .slice A ys.length c2 := by kernel_rfl) (ht : X.P.underlying t = some (.slice e) := by kernel_rfl)
    (hi : (X.P.info? e).map (fun i => (i.zero, i.size, i.bytes)) = some (some (.int k 0), 1, bytes) := by kernel_rfl) (hb0 : 0 < bytes := by decide) : NW X ops j ⟨env, bs, fs⟩ K :=
  NW_op d ho hg hf hd (op_app (xs := []) (r := []) (c := 0) hop hs hb rfl (src_row0 ht hx hF) ht hi hb0 (by simpa using hl)) (fun v bs' fs' ⟨g', r', c', h1, h2, h3, h4⟩ => by subst h2 h3 h4; exact hk g' r' c' h1)
theorem run_cpy {P : Program} {o : Oper} {t tx : TypeId} {s x : Operand} {ρ : Operand → Value} {v : Value} {w w' : World} (ho : o.op = .call { callee := .builtin .copy, args := #[s, x], argTypes := #[t, tx] })
    (hr : (Builtin.copy_ #[t, tx] o.type #[ρ s, ρ x]).run P w = .ok v w') : (execOp ρ o).run P w = .ok (.value v) w' := by
  unfold execOp
  simp only [ho, resolve, invoke, builtin, Sem.run_bind, Sem.run_pure, Result.andThen_ok, List.map_toArray, List.map_cons, List.map_nil, hr]
theorem cl_cpy (k : IntKind) (xs ys : List Int) (r : List Value) (h : ys.length ≤ xs.length) : ((cl k xs r).take 0 ++ ys.map (.int k) ++ (cl k xs r).drop (0 + (ys.map (Value.int k)).length)) = cl k (ys ++ xs.drop ys.length) r := by
  unfold cl
  rw [List.take_zero, List.nil_append, Nat.zero_add, List.length_map, List.map_append, List.append_assoc, List.map_drop]
  congr 1
  rw [List.drop_append_of_le_length (by simpa using h)]
theorem op_cpy {o : Oper} {t tx e : TypeId} {s x : Operand} {k : IntKind} {h g c c2 : Nat} {A : Option Addr} {xs ys : List Int} {r : List Value} (ho : o.op = .call { callee := .builtin .copy, args := #[s, x], argTypes := #[t, tx] })
    (hs : evD env s = .slice (some ⟨g, 0, none⟩) xs.length c) (hb : bs[h]? = some ⟨g, cl k xs r, e⟩) (hx : evD env x = .slice A ys.length c2) (hF : In (Row k A c2 ys) fs) (hlen : ys.length ≤ xs.length) (ht : X.P.underlying t = some (.slice e))
    (hi : (X.P.info? e).map (·.size) = some 1) :
    OpV X env bs fs o (fun v bs' fs' => v = .int .i64 (ys.length : Int) ∧ bs' = upC bs h (cl k (ys ++ xs.drop ys.length) r) ∧ fs' = fs) := by
  intro w hw
  have hh := hw.box _ (List.mem_of_getElem? hb)
  have hrow := (hw.fact _ hF.mem).now
  by_cases hp : 0 < ys.length
  · obtain ⟨ad, rfl⟩ := row_at hrow hp
    have hr := run_copy_cells (P := X.P) w t tx o.type e g 0 xs.length c ad ys.length c2 (ys.map (.int k)) ht hi (by rw [List.length_map]; exact (Nat.min_eq_left hlen).symm) (fun m u hu => by
        have hm : m < ys.length := by have := (List.getElem?_eq_some_iff.1 hu).1; simpa using this
        have := row_cell hrow (i := (m : Int)) (by omega) (by omega)
        rw [Int.toNat_natCast] at this
        rw [List.getElem?_map, rd_some hm] at hu
        rw [this]
        exact hu)
      (fun m hm => by rw [cells_get hh, List.getElem?_eq_getElem (by rw [cl_len]; simp at hm; omega)]; rfl) (fun m hm => by simp [World.frozen?, hh]) news_one
    obtain ⟨a1, a2, a3, a4⟩ := same_setCells (g := g) (ys.map (Value.int k)) 0 w
    have hxx := upd_ext (cs := cl k (ys ++ xs.drop ys.length) r) hb hw.box hw.nodup a1 a2 a3 a4 (fun q hq => far_setCells _ _ _ q hq) (by rw [blk_setCells _ _ _ _ hh (by rw [cl_len]; simp; omega), cl_cpy _ _ _ _ hlen])
    exact ⟨_, _, _, fs, run_cpy ho (by rw [hs, hx]; exact hr), hw.ext hxx env, by simp [goInt], rfl, rfl⟩
  · obtain rfl : ys = [] := List.eq_nil_of_length_eq_zero (by omega)
    have hr := run_copy_none (P := X.P) w t tx o.type e (some ⟨g, 0, none⟩) A xs.length c 0 c2 ht hi (Nat.zero_min _)
    refine ⟨_, _, upC bs h (cl k xs r), fs, run_cpy ho (by rw [hs, hx]; exact hr), hw.ext (upd_ext hb hw.box hw.nodup rfl rfl rfl rfl (fun _ _ => rfl) hh) env, rfl, by simp, rfl⟩
theorem xcp (d h e g n c c2 : Nat) (xs : List Int) (r : List Value) {o : Oper} {t tx : TypeId} {s x : Operand} {k : IntKind} {A : Option Addr} {ys : List Int} (hF : In (Row k A c2 ys) fs) (hn : xs.length = n) (hlen : ys.length ≤ n)
    (hk : NW X ops (Nat.succ j) ⟨(d, .int .i64 (ys.length : Int)) :: env, upC bs h (cl k (ys ++ xs.drop ys.length) r), fs⟩ K)
    (hb : bs[h]? = some ⟨g, cl k xs r, e⟩ := by kernel_rfl) (ho : ops[j]? = some o := by rfl) (hop : o.op = .call { callee := .builtin .copy, args := #[s, x], argTypes := #[t, tx] } := by rfl)
    (hg : guardD ops env o = some true := by kernel_rfl) (hf : fitO X.n env o = true := by kernel_rfl) (hd : o.dst = some d := by rfl)
    (hs : evD env s = .slice (some ⟨g, 0, none⟩) n c := by kernel_rfl) (hx : evD env x = .slice A ys.length c2 := by kernel_rfl) (ht : X.P.underlying t = some (.slice e) := by kernel_rfl)
    (hi : (X.P.info? e).map (·.size) = some 1 := by kernel_rfl) : NW X ops j ⟨env, bs, fs⟩ K := by
  subst hn
  exact NW_op d ho hg hf hd (op_cpy hop hs hb hx hF hlen ht hi) (fun v bs' fs' ⟨h2, h3, h4⟩ => by subst h2 h3 h4; exact hk)
theorem xcq (d h e g n c c2 : Nat) (xs : List Int) (r : List Value) {zs : List Int} {o : Oper} {t tx : TypeId} {s x : Operand} {k : IntKind} {A : Option Addr} {ys : List Int} (hF : In (Row k A c2 ys) fs) (hn : xs.length = n) (hlen : ys.length ≤ n) (hz : ys ++ xs.drop ys.length = zs)
    (hk : NW X ops (Nat.succ j) ⟨(d, .int .i64 (ys.length : Int)) :: env, upC bs h (cl k zs r), fs⟩ K)
    (hb : bs[h]? = some ⟨g, cl k xs r, e⟩ := by kernel_rfl) (ho : ops[j]? = some o := by rfl) (hop : o.op = .call { callee := .builtin .copy, args := #[s, x], argTypes := #[t, tx] } := by rfl)
    (hg : guardD ops env o = some true := by kernel_rfl) (hf : fitO X.n env o = true := by kernel_rfl) (hd : o.dst = some d := by rfl)
    (hs : evD env s = .slice (some ⟨g, 0, none⟩) n c := by kernel_rfl) (hx : evD env x = .slice A ys.length c2 := by kernel_rfl) (ht : X.P.underlying t = some (.slice e) := by kernel_rfl)
    (hi : (X.P.info? e).map (·.size) = some 1 := by kernel_rfl) : NW X ops j ⟨env, bs, fs⟩ K := by
  subst hz
  exact xcp d h e g n c c2 xs r hF hn hlen hk hb ho hop hg hf hd hs hx ht hi
end
end Go.Proofs.YtgknelgplmohoaaDoor.X
end
section
namespace Go.Proofs.YtgknelgplmohoaaDoor.X
open Go.RowKit Go.Proofs.YtgknelgplmohoaaDoorV.PrintWords Go.Proofs.YtgknelgplmohoaaDoorV.PrintLast
set_option linter.unusedVariables false
set_option linter.unusedSimpArgs false
def Own (e : TypeId) (k : IntKind) (sl : Value) (bs : List Box) (xs : List Int) : Prop :=
  (sl = .slice none 0 0 ∧ xs = [] ∧ bs = []) ∨ ∃ g r c, xs.length + r.length = c ∧ sl = .slice (some ⟨g, 0, none⟩) xs.length c ∧ bs = [⟨g, cl k xs r, e⟩]
theorem Own.nil (e : TypeId) (k : IntKind) : Own e k (.slice none 0 0) [] [] := .inl ⟨rfl, rfl, rfl⟩
section
variable {X : Cx} {env : List (Nat × Value)} {bs : List Box} {fs : List Fact} {K : Exit → St → Prop} {ops : Array Oper} {j : Nat}
theorem xow (d bytes g2 c2 : Nat) (ys : List Int) {e : TypeId} {k : IntKind} {ty : TypeId} {sl : Value} {xs : List Int} (hO : Own e k sl bs xs) {o : Oper} {t : TypeId} {s x : Operand} (hl : (xs.length + ys.length) * bytes ≤ 140737488355328)
    (hk : ∀ sl' bs', Own e k sl' bs' (xs ++ ys) → NW X ops (Nat.succ j) ⟨(d, sl') :: env, bs', fs⟩ K)
    (ho : ops[j]? = some o := by rfl) (hop : o.op = .call { callee := .builtin .append, args := #[s, x], argTypes := #[t, t] } := by rfl)
    (hg : guardD ops env o = some true := by kernel_rfl) (hf : fitO X.n env o = true := by kernel_rfl) (hd : o.dst = some d := by rfl)
    (hs : evD env s = sl := by kernel_rfl) (hx : evD env x = .slice (some ⟨g2, 0, none⟩) ys.length c2 := by kernel_rfl) (ht : X.P.underlying t = some (.slice e) := by kernel_rfl)
    (hi : (X.P.info? e).map (fun i => (i.zero, i.size, i.bytes)) = some (some (.int k 0), 1, bytes) := by kernel_rfl) (hb0 : 0 < bytes := by decide) (hp : 0 < ys.length := by exact Nat.succ_pos _) : NW X ops j ⟨env, bs ++ [⟨g2, ys.map (.int k), ty⟩], fs⟩ K := by
  rcases hO with ⟨rfl, rfl, rfl⟩ | ⟨g, r, c, hc, rfl, rfl⟩
  · exact xa0 d 0 e bytes g2 c2 k ty ys (fun g' r' c' h => hk _ _ (.inr ⟨g', r', c', h, rfl, rfl⟩)) rfl ho hop hg hf hd hs hp hx ht hi hb0 (by simpa using hl)
  · exact xap d 0 1 ys.length e bytes g g2 c c2 k ty xs r ys hc hl (fun g' r' c' h => hk _ _ (.inr ⟨g', r', c', h, rfl, rfl⟩)) rfl rfl ho hop hg hf hd hs hx ht hi hb0
theorem puB_app (x : Box) (i : Nat) : ∀ (P l : List Box), puB (P ++ l) (P.length + i) x = P ++ puB l i x
  | [], l => by simp
  | b :: P, l => by
    rw [List.cons_append, List.length_cons, show P.length + 1 + i = (P.length + i) + 1 by omega]
    simp only [puB, List.cons_append]
    rw [puB_app x i P l]
theorem delB_app (i : Nat) : ∀ (P l : List Box), delB (P ++ l) (P.length + i) = P ++ delB l i
  | [], l => by simp
  | b :: P, l => by
    rw [List.cons_append, List.length_cons, show P.length + 1 + i = (P.length + i) + 1 by omega]
    simp only [delB, List.cons_append]
    rw [delB_app i P l]
theorem xow2 (d bytes g2 c2 : Nat) (ys : List Int) {Pb : List Box} {e : TypeId} {k : IntKind} {ty : TypeId} {sl : Value} {xs : List Int} (hO : Own e k sl bs xs) {o : Oper} {t : TypeId} {s x : Operand} (hl : (xs.length + ys.length) * bytes ≤ 140737488355328)
    (hk : ∀ sl' bs', Own e k sl' bs' (xs ++ ys) → NW X ops (Nat.succ j) ⟨(d, sl') :: env, Pb ++ bs', fs⟩ K)
    (ho : ops[j]? = some o := by rfl) (hop : o.op = .call { callee := .builtin .append, args := #[s, x], argTypes := #[t, t] } := by rfl)
    (hg : guardD ops env o = some true := by kernel_rfl) (hf : fitO X.n env o = true := by kernel_rfl) (hd : o.dst = some d := by rfl)
    (hs : evD env s = sl := by kernel_rfl) (hx : evD env x = .slice (some ⟨g2, 0, none⟩) ys.length c2 := by kernel_rfl) (ht : X.P.underlying t = some (.slice e) := by kernel_rfl)
    (hi : (X.P.info? e).map (fun i => (i.zero, i.size, i.bytes)) = some (some (.int k 0), 1, bytes) := by kernel_rfl) (hb0 : 0 < bytes := by decide) (hp : 0 < ys.length := by exact Nat.succ_pos _) : NW X ops j ⟨env, Pb ++ bs ++ [⟨g2, ys.map (.int k), ty⟩], fs⟩ K := by
  rcases hO with ⟨rfl, rfl, rfl⟩ | ⟨g, r, c, hc, rfl, rfl⟩
  · rw [List.append_nil]
    refine xa0 d (Pb.length + 0) e bytes g2 c2 k ty ys (fun g' r' c' h => ?_) (by simp) ho hop hg hf hd hs hp hx ht hi hb0 (by simpa using hl)
    rw [List.append_assoc, delB_app]
    exact hk _ _ (.inr ⟨g', r', c', h, rfl, rfl⟩)
  · rw [List.append_assoc]
    refine xap d (Pb.length + 0) (Pb.length + 1) ys.length e bytes g g2 c c2 k ty xs r ys hc hl (fun g' r' c' h => ?_) (by simp) (by simp) ho hop hg hf hd hs hx ht hi hb0
    rw [puB_app, delB_app]
    exact hk _ _ (.inr ⟨g', r', c', h, rfl, rfl⟩)
theorem SW_own {code : Code} {e : TypeId} {k : IntKind} {sl : Value} {xs : List Int} (hO : Own e k sl bs xs) (hx : xs.length ≤ 9223372036854775807) (hk : ∀ A c, sl = .slice A xs.length c → SW X code ⟨env, [], Row k A c xs :: fs⟩ K) : SW X code ⟨env, bs, fs⟩ K := by
  rcases hO with ⟨rfl, rfl, rfl⟩ | ⟨g, r, c, hc, rfl, rfl⟩
  · exact SW_tru (Row_nil k 0) (hk _ _ rfl)
  · exact SW_fz 0 c g k xs r e hx (by omega) (hk _ _ rfl) rfl
end
def CtW (P : Program) (f : FuncId) (args : List Value) (pre : List Fact) (e : TypeId) (k : IntKind) (r : List Int) : Prop :=
  ∀ (B : List Nat) (w : World), (∀ b ∈ B, b < w.heap.size) → (∀ F ∈ pre, Foot F w (fun b => b ∉ B)) →
    Calls P f args.toArray w fun en w' => ∃ sl bs, en = .returned sl ∧ Own e k sl bs r ∧ Holds ⟨P, 0, B, ⟨w, [], []⟩, none⟩ ⟨[], bs, []⟩ w'
def RetW (X : Cx) (fn : Func) (e : TypeId) (k : IntKind) (r : List Int) : Exit → St → Prop
  | .normal, s => ∃ sl hs gs, outN X.P fn s hs = some (sl, dup gs) ∧ Own e k sl s.bs r
  | .ret, s => ∃ sl hs gs, outN X.P fn s hs = some (sl, dup gs) ∧ Own e k sl s.bs r
  | _, _ => False
theorem ctW_of {P : Program} {f : FuncId} {fn : Func} {c : Code} {args : List Value} {pre : List Fact} {e : TypeId} {k : IntKind} {r : List Int} (hf : P.funcs[f]? = some fn) (hb : fn.body = some c) (hn : Nat.ble args.length fn.ntmps = true)
    (h : ∀ B w0, SW ⟨P, fn.ntmps, B, w0, none⟩ c ⟨argEnv args 0, [], pre⟩ (RetW ⟨P, fn.ntmps, B, w0, none⟩ fn e k r)) : CtW P f args pre e k r := by
  intro B w hB hp
  have hn' := Nat.le_of_ble_eq_true hn
  refine calls_of_wp hf hb ?_
  have hag : Agree (fn.ntmps, []) ⟨argEnv args 0, [], pre⟩ { tmps := args.toArray ++ Array.replicate (fn.ntmps - args.toArray.size) undef, defers := [] } := by
    refine ⟨by simp; omega, rfl, fun t v hl => ?_⟩
    obtain ⟨_, h2⟩ := look_arg args 0 t v hl
    have hlt : t < args.length := (List.getElem?_eq_some_iff.1 (by simpa using h2)).1
    rw [Array.getElem?_append_left (by simpa using hlt)]
    simpa using h2
  refine wp_mono (wpIn_wide.1 (h B ⟨w, [], []⟩ _ w hag (Holds.init hB hp))) (fun ex a' w' hq => ?_)
  obtain ⟨s, ha, hw, hk⟩ := hq
  have fin : Holds ⟨P, 0, B, ⟨w, [], []⟩, none⟩ ⟨[], s.bs, []⟩ w' := ⟨hw.below, hw.box, hw.new, hw.nodup, (fun F hF => (by cases hF)), hw.old⟩
  cases ex with
  | normal =>
    obtain ⟨sl, hs, gs, ho, hO⟩ := hk
    exact ⟨ha.defers, sl, outN_spec ho ha hw.box, sl, s.bs, rfl, hO, fin⟩
  | ret =>
    obtain ⟨sl, hs, gs, ho, hO⟩ := hk
    exact ⟨ha.defers, sl, outN_spec ho ha hw.box, sl, s.bs, rfl, hO, fin⟩
  | _ => exact hk.elim
theorem ctR_of_W {P : Program} {f : FuncId} {args : List Value} {pre : List Fact} {e : TypeId} {k : IntKind} {r : List Int} (hx : r.length ≤ 9223372036854775807) (h : CtW P f args pre e k r) : CtR P f args pre k r := fun B w hB hp =>
  (h B w hB hp).mono (fun en w' ⟨sl, bs, h1, h2, h3⟩ => by
    rcases h2 with ⟨rfl, rfl, rfl⟩ | ⟨g, r', c, hc, rfl, rfl⟩
    · exact ⟨(none, 0), h1, (fun F hF => by rw [List.mem_singleton.1 hF]; exact fun W' _ => Row_nil k 0 W'), h3.below.out⟩
    · refine ⟨(some ⟨g, 0, none⟩, c), h1, fun F hF => ?_, h3.below.out⟩
      rw [List.mem_singleton.1 hF]
      have := (h3.fz (h := 0) (g := g) (c := c) (k := k) (xs := r) (r := r') (ty := e) rfl hx (by omega) []).fact _ (List.mem_cons_self ..)
      exact foot_from this)
section
variable {X : Cx} {env : List (Nat × Value)} {bs : List Box} {fs : List Fact} {K : Exit → St → Prop} {ops : Array Oper} {i : Nat}
theorem Holds.got {s : St} {w w' : World} {bs' : List Box} {B : List Nat} (h : Holds X s w) (h2 : Holds ⟨X.P, 0, B, ⟨w, [], []⟩, none⟩ ⟨[], bs', []⟩ w') (e : List (Nat × Value)) : Holds X ⟨e, s.bs ++ bs', s.fs⟩ w' := by
  have hb2 := h2.below.out
  have hn2 : ∀ b ∈ bs', w.heap.size ≤ b.id := fun b hb => (h2.new b hb).elim (fun z => z) (fun z => by cases z)
  have hc := h.call hb2
  refine ⟨hc.below, fun b hb => ?_, fun b hb => ?_, ?_, fun F hF => ?_, hc.old⟩
  · rcases List.mem_append.1 hb with hb | hb
    · exact hc.box b hb
    · exact h2.box b hb
  · rcases List.mem_append.1 hb with hb | hb
    · exact h.new b hb
    · exact .inl (Nat.le_trans h.below.size (hn2 b hb))
  · rw [List.map_append, List.nodup_append]
    refine ⟨h.nodup, h2.nodup, fun a ha b hb he => ?_⟩
    obtain ⟨x, hx, rfl⟩ := List.mem_map.1 ha
    obtain ⟨y, hy, rfl⟩ := List.mem_map.1 hb
    have h3 := wb_lt h.box x hx
    have h4 : w.heap.size ≤ y.id := hn2 y hy
    omega
  · intro W' hW
    refine h.fact F hF W' (fun k hk hlt => ?_)
    refine (hW k ⟨hk.1, fun b hb he => ?_⟩ (Nat.lt_of_lt_of_le hlt hb2.size)).trans (hb2.block k hlt)
    rcases List.mem_append.1 hb with hb | hb
    · exact hk.2 b hb he
    · have h4 : w.heap.size ≤ b.id := hn2 b hb
      omega
theorem CtW.call {f : FuncId} {args : List Value} {pre : List Fact} {e : TypeId} {k : IntKind} {r : List Int} (hc : CtW X.P f args pre e k r) {s : St} {w : World} (hw : Holds X s w) (hp : Sub pre s.fs) :
    Calls X.P f args.toArray w fun en w' => ∃ sl bs', en = .returned sl ∧ Own e k sl bs' r ∧ Holds X ⟨s.env, s.bs ++ bs', s.fs⟩ w' := by
  have hB : ∀ k ∈ X.B ++ s.bs.map Box.id, k < w.heap.size := fun k hk => by
    rcases List.mem_append.1 hk with hk | hk
    · exact Nat.lt_of_lt_of_le (hw.old k hk).1 hw.below.size
    · obtain ⟨b, hb, rfl⟩ := List.mem_map.1 hk
      exact wb_lt hw.box b hb
  have hof : ∀ k, away X.B s.bs k → k ∉ X.B ++ s.bs.map Box.id := fun k hk h => by
    rcases List.mem_append.1 h with h | h
    · exact hk.1 h
    · obtain ⟨b, hb, rfl⟩ := List.mem_map.1 h
      exact hk.2 b hb rfl
  refine (hc (X.B ++ s.bs.map Box.id) w hB (fun F hF => (hw.fact F (hp.mem F hF)).mono hof)).mono ?_
  rintro en w' ⟨sl, bs', rfl, hO, h2⟩
  exact ⟨sl, bs', rfl, hO, hw.got h2 _⟩
theorem xcu (d : Nat) {f : FuncId} {args : List Value} {pre : List Fact} {e : TypeId} {k : IntKind} {r : List Int} (hc : CtW X.P f args pre e k r) (hp : Sub pre fs) (h : ∀ sl bs', Own e k sl bs' r → NW X ops (Nat.succ i) ⟨(d, sl) :: env, bs ++ bs', fs⟩ K)
    (hr : callAt X.P X.n ops i ⟨env, bs, fs⟩ = some ((f, args), some d) := by kernel_rfl) : NW X ops i ⟨env, bs, fs⟩ K := by
  unfold callAt at hr
  cases ho : ops[i]? with
  | none => rw [ho] at hr; cases hr
  | some o =>
    rw [ho] at hr
    dsimp only at hr
    cases hg : guardD ops env o with
    | none => rw [hg] at hr; cases hr
    | some b =>
      rw [hg] at hr
      cases b with
      | false => cases hr
      | true =>
        dsimp only at hr
        cases hcl : callN X.P X.n env o with
        | none => rw [hcl] at hr; cases hr
        | some r' =>
          rw [hcl] at hr
          simp only [Option.map_some, Option.some.injEq, Prod.mk.injEq] at hr
          obtain ⟨rfl, hd⟩ := hr
          obtain ⟨h1, h2, h3, hrun⟩ := callN_spec hcl
          refine NW_on (s := ⟨env, bs, fs⟩) ho hg (fun a w ha hw => ?_)
          refine opE h2 (by rw [ha.exec h2 h3]; exact hrun w) ?_
          rw [hd]
          refine (hc.call hw hp).mono ?_
          rintro en w' ⟨sl, bs', rfl, hO, hw'⟩
          have ha' : Agree X.fr ⟨env, bs ++ bs', fs⟩ a := ⟨ha.size, ha.defers, ha.env⟩
          exact h sl bs' hO _ _ (ha'.put (some d) (by rw [← hd]; exact dstOk_lt h1) _) (hw'.put (some d) _)
end
end Go.Proofs.YtgknelgplmohoaaDoor.X
end
section
namespace Go.Proofs.YtgknelgplmohoaaDoor.X
open Go.RowKit Go.Proofs.YtgknelgplmohoaaDoorV.PrintWords Go.Proofs.YtgknelgplmohoaaDoorV.PrintLast
set_option linter.unusedVariables false
set_option linter.unusedSimpArgs false
def CtM (P : Program) (f : FuncId) (args : List Value) (bs : List Box) (pre : List Fact) {γ : Type} (val : γ → Value) (bs' : γ → List Box) (post : γ → List Fact) : Prop :=
  ∀ (B : List Nat) (w : World), (∀ k ∈ B, k < w.heap.size ∧ k ∉ bs.map Box.id) → WB bs w → (bs.map Box.id).Nodup → (∀ F ∈ pre, Foot F w (away B bs)) →
    Calls P f args.toArray w fun e w' => ∃ g : γ, e = .returned (val g) ∧ Holds ⟨P, 0, B, ⟨w, bs.map Box.id, []⟩, none⟩ ⟨[], bs' g, post g⟩ w'
def rest : List Box → List Bool → List Box
  | _ :: l, true :: m => rest l m
  | b :: l, false :: m => b :: rest l m
  | l, _ => l
def plug : List Box → List Bool → List Box → List Box
  | _ :: l, true :: m, x :: r => x :: plug l m r
  | _ :: l, true :: m, [] => plug l m []
  | b :: l, false :: m, r => b :: plug l m r
  | b :: l, [], r => b :: plug l [] r
  | [], _, r => r
theorem pick_sub : ∀ (l : List Box) (m : List Bool), List.Sublist (pick l m) l
  | b :: l, true :: m => by simp only [pick]; exact (pick_sub l m).cons_cons b
  | b :: l, false :: m => by simp only [pick]; exact (pick_sub l m).cons b
  | [], _ => by simp [pick]
  | b :: l, [] => by simp [pick]
theorem pick_perm : ∀ (l : List Box) (m : List Bool), (pick l m ++ rest l m).Perm l
  | b :: l, true :: m => by simp only [pick, rest, List.cons_append]; exact (pick_perm l m).cons b
  | b :: l, false :: m => by
    simp only [pick, rest]
    exact List.perm_middle.trans ((pick_perm l m).cons b)
  | [], m => by cases m <;> simp [pick, rest]
  | b :: l, [] => by simp [pick, rest]
theorem plug_perm : ∀ (l : List Box) (m : List Bool) (r : List Box), (plug l m r).Perm (r ++ rest l m)
  | b :: l, true :: m, x :: r => by simp only [plug, rest, List.cons_append]; exact (plug_perm l m r).cons x
  | b :: l, true :: m, [] => by simp only [plug, rest]; exact plug_perm l m []
  | b :: l, false :: m, r => by
    simp only [plug, rest]
    exact ((plug_perm l m r).cons b).trans List.perm_middle.symm
  | b :: l, [], r => by
    have h := plug_perm l [] r
    have e : rest l [] = l := by cases l <;> rfl
    rw [e] at h
    simp only [plug, rest]
    exact (h.cons b).trans List.perm_middle.symm
  | [], m, r => by
    have e : rest [] m = [] := by cases m <;> rfl
    rw [e, List.append_nil]
    cases m with
    | nil => exact List.Perm.refl _
    | cons a m => cases a <;> cases r <;> exact List.Perm.refl _
theorem cm_of {P : Program} {f : FuncId} {fn : Func} {c : Code} {args : List Value} {bs : List Box} {pre : List Fact} {γ : Type} {val : γ → Value} {bs' : γ → List Box} {post : γ → List Fact} (hf : P.funcs[f]? = some fn) (hb : fn.body = some c) (hn : Nat.ble args.length fn.ntmps = true)
    (h : ∀ B w0, SW ⟨P, fn.ntmps, B, w0, none⟩ c ⟨argEnv args 0, bs, pre⟩ (RetM ⟨P, fn.ntmps, B, w0, none⟩ fn val bs' post)) : CtM P f args bs pre val bs' post := by
  intro B w hB hbs hnd hp
  have hn' := Nat.le_of_ble_eq_true hn
  refine calls_of_wp hf hb ?_
  have hag : Agree (fn.ntmps, []) ⟨argEnv args 0, bs, pre⟩ { tmps := args.toArray ++ Array.replicate (fn.ntmps - args.toArray.size) undef, defers := [] } := by
    refine ⟨by simp; omega, rfl, fun t v hl => ?_⟩
    obtain ⟨_, h2⟩ := look_arg args 0 t v hl
    have hlt : t < args.length := (List.getElem?_eq_some_iff.1 (by simpa using h2)).1
    rw [Array.getElem?_append_left (by simpa using hlt)]
    simpa using h2
  have h0 : Holds ⟨P, fn.ntmps, B, ⟨w, bs.map Box.id, []⟩, none⟩ ⟨argEnv args 0, bs, pre⟩ w :=
    ⟨Kept.of (Below.refl _ _), hbs, fun b hb => .inr (List.mem_map_of_mem hb), hnd, hp, hB⟩
  refine wp_mono (wpIn_wide.1 (h B ⟨w, bs.map Box.id, []⟩ _ w hag h0)) (fun e a' w' hq => ?_)
  obtain ⟨s, ha, hw, hk⟩ := hq
  have fin : ∀ g m, bs' g = pick s.bs m → Sub (post g) s.fs → Holds ⟨P, 0, B, ⟨w, bs.map Box.id, []⟩, none⟩ ⟨[], bs' g, post g⟩ w' := fun g m hm hsub => by
    have hx : Holds ⟨P, fn.ntmps, B, ⟨w, bs.map Box.id, []⟩, none⟩ ⟨[], bs' g, s.fs⟩ w' := hw.sub (fun b hb => (pick_sub s.bs m).subset (hm ▸ hb)) (by rw [hm]; exact ((pick_sub s.bs m).map Box.id).nodup hw.nodup) []
    exact ⟨hx.below, hx.box, hx.new, hx.nodup, fun F hF => hx.fact F (hsub.mem F hF), hx.old⟩
  cases e with
  | normal =>
    obtain ⟨g, m, hs, gs, ho, hm, hsub⟩ := hk
    exact ⟨ha.defers, val g, outN_spec ho ha hw.box, g, rfl, fin g m hm hsub⟩
  | ret =>
    obtain ⟨g, m, hs, gs, ho, hm, hsub⟩ := hk
    exact ⟨ha.defers, val g, outN_spec ho ha hw.box, g, rfl, fin g m hm hsub⟩
  | _ => exact hk.elim
theorem Holds.back {X : Cx} {s : St} {w w' : World} {m : List Bool} {bs' : List Box} {post : List Fact} (h : Holds X s w) (e : List (Nat × Value))
    (h2 : Holds ⟨X.P, 0, X.B ++ (rest s.bs m).map Box.id, ⟨w, (pick s.bs m).map Box.id, []⟩, none⟩ ⟨[], bs', post⟩ w') : Holds X ⟨e, plug s.bs m bs', post ++ s.fs⟩ w' := by
  have hperm := pick_perm s.bs m
  have hpl := plug_perm s.bs m bs'
  have hmem : ∀ b, b ∈ s.bs ↔ b ∈ pick s.bs m ∨ b ∈ rest s.bs m := fun b => by rw [← hperm.mem_iff, List.mem_append]
  have hmem2 : ∀ b, b ∈ plug s.bs m bs' ↔ b ∈ bs' ∨ b ∈ rest s.bs m := fun b => by rw [hpl.mem_iff, List.mem_append]
  have hnd : ((pick s.bs m).map Box.id ++ (rest s.bs m).map Box.id).Nodup := by
    rw [← List.map_append]
    exact (hperm.map Box.id).nodup_iff.2 h.nodup
  have hdis : ∀ b ∈ rest s.bs m, b.id ∉ (pick s.bs m).map Box.id := fun b hb hm2 => (List.nodup_append.1 hnd).2.2 _ hm2 _ (List.mem_map_of_mem hb) rfl
  have hlt : ∀ b ∈ rest s.bs m, b.id < w.heap.size := fun b hb => wb_lt h.box b ((hmem b).2 (.inr hb))
  have hsame : ∀ k, k < w.heap.size → k ∉ (pick s.bs m).map Box.id → w'.heap[k]? = w.heap[k]? := h2.below.block
  have hnew : ∀ b ∈ bs', w.heap.size ≤ b.id ∨ b.id ∈ (pick s.bs m).map Box.id := h2.new
  have hsz : w.heap.size ≤ w'.heap.size := h2.below.size
  have hpk : ∀ k, k ∈ (pick s.bs m).map Box.id → ∃ b ∈ s.bs, b.id = k := fun k hk => by
    obtain ⟨b, hb, e⟩ := List.mem_map.1 hk
    exact ⟨b, (hmem b).2 (.inl hb), e⟩
  refine ⟨⟨h2.below.os.trans h.below.os, h2.below.tape.trans h.below.tape, h2.below.output.trans h.below.output, Nat.le_trans h.below.size hsz, fun k hk hm2 => ?_⟩, fun b hb => ?_, fun b hb => ?_, ?_, fun F hF => ?_, h.old⟩
  · refine (hsame k (Nat.lt_of_lt_of_le hk h.below.size) (fun hp => ?_)).trans (h.below.block k hk hm2)
    obtain ⟨b, hb, rfl⟩ := hpk k hp
    exact (h.new b hb).elim (fun z => absurd hk (Nat.not_lt.2 z)) hm2
  · rcases (hmem2 b).1 hb with hb | hb
    · exact h2.box b hb
    · exact (hsame _ (hlt b hb) (hdis b hb)).trans (h.box b ((hmem b).2 (.inr hb)))
  · rcases (hmem2 b).1 hb with hb | hb
    · rcases hnew b hb with z | z
      · exact .inl (Nat.le_trans h.below.size z)
      · obtain ⟨c, hc, e⟩ := hpk _ z
        exact e ▸ h.new c hc
    · exact h.new b ((hmem b).2 (.inr hb))
  · refine (hpl.map Box.id).nodup_iff.2 ?_
    rw [List.map_append, List.nodup_append]
    refine ⟨h2.nodup, (List.nodup_append.1 hnd).2.1, fun a ha b hb he => ?_⟩
    obtain ⟨x, hx, rfl⟩ := List.mem_map.1 ha
    obtain ⟨y, hy, rfl⟩ := List.mem_map.1 hb
    rcases hnew x hx with z | z
    · have := hlt y hy
      omega
    · exact hdis y hy (he ▸ z)
  · rcases List.mem_append.1 hF with hF | hF
    · refine (h2.fact F hF).mono (fun k hk => ⟨fun hB => hk.1 (List.mem_append_left _ hB), fun b hb e => ?_⟩)
      rcases (hmem2 b).1 hb with hb | hb
      · exact hk.2 b hb e
      · exact hk.1 (List.mem_append_right _ (e ▸ List.mem_map_of_mem hb))
    · intro W' hW
      refine h.fact F hF W' (fun k hk hkw => ?_)
      have hkp : k ∉ (pick s.bs m).map Box.id := fun hp => by
        obtain ⟨b, hb, e⟩ := hpk k hp
        exact hk.2 b hb e.symm
      refine (hW k ⟨hk.1, fun b hb e => ?_⟩ (Nat.lt_of_lt_of_le hkw hsz)).trans (hsame k hkw hkp)
      rcases (hmem2 b).1 hb with hb | hb
      · rcases hnew b hb with z | z
        · omega
        · exact hkp (e ▸ z)
      · exact hk.2 b ((hmem b).2 (.inr hb)) e
theorem CtM.call {P : Program} {f : FuncId} {args : List Value} {bs : List Box} {pre : List Fact} {γ : Type} {val : γ → Value} {bs' : γ → List Box} {post : γ → List Fact} (hc : CtM P f args bs pre val bs' post) {X : Cx} (hP : X.P = P) {s : St} {w : World} (hw : Holds X s w) (m : List Bool) (hm : pick s.bs m = bs) (hp : Sub pre s.fs) (e : List (Nat × Value)) :
    Calls P f args.toArray w fun en w' => ∃ g : γ, en = .returned (val g) ∧ Holds X ⟨e, plug s.bs m (bs' g), post g ++ s.fs⟩ w' := by
  subst hm
  have hperm := pick_perm s.bs m
  have hmem : ∀ b, b ∈ s.bs ↔ b ∈ pick s.bs m ∨ b ∈ rest s.bs m := fun b => by rw [← hperm.mem_iff, List.mem_append]
  have hnd : ((pick s.bs m).map Box.id ++ (rest s.bs m).map Box.id).Nodup := by
    rw [← List.map_append]
    exact (hperm.map Box.id).nodup_iff.2 hw.nodup
  refine (hc (X.B ++ (rest s.bs m).map Box.id) w (fun k hk => ?_) (fun b hb => hw.box b ((hmem b).2 (.inl hb))) (List.nodup_append.1 hnd).1 (fun F hF => (hw.fact F (hp.mem F hF)).mono (fun k hk => ?_))).mono ?_
  · rcases List.mem_append.1 hk with hk | hk
    · refine ⟨Nat.lt_of_lt_of_le (hw.old k hk).1 hw.below.size, fun hm2 => ?_⟩
      obtain ⟨b, hb, rfl⟩ := List.mem_map.1 hm2
      exact (hw.new b ((hmem b).2 (.inl hb))).elim (fun z => absurd (hw.old _ hk).1 (Nat.not_lt.2 z)) (hw.old _ hk).2
    · obtain ⟨b, hb, rfl⟩ := List.mem_map.1 hk
      exact ⟨wb_lt hw.box b ((hmem b).2 (.inr hb)), fun hm2 => (List.nodup_append.1 hnd).2.2 _ hm2 _ hk rfl⟩
  · refine ⟨fun hB => ?_, fun b hb e => hk.2 b ((hmem b).2 (.inl hb)) e⟩
    rcases List.mem_append.1 hB with hB | hB
    · exact hk.1 hB
    · obtain ⟨b, hb, e⟩ := List.mem_map.1 hB
      exact hk.2 b ((hmem b).2 (.inr hb)) e.symm
  · rintro en w' ⟨g, rfl, h2⟩
    subst hP
    exact ⟨g, rfl, hw.back e h2⟩
section
variable {X : Cx} {env : List (Nat × Value)} {bs : List Box} {fs : List Fact} {K : Exit → St → Prop} {ops : Array Oper} {i : Nat}
theorem xcm (d : Nat) (m : List Bool) {f : FuncId} {args : List Value} {bq : List Box} {pre : List Fact} {γ : Type} {val : γ → Value} {bs' : γ → List Box} {post : γ → List Fact} (hc : CtM X.P f args bq pre val bs' post) (hp : Sub pre fs)
    (h : ∀ g, NW X ops (Nat.succ i) ⟨(d, val g) :: env, plug bs m (bs' g), post g ++ fs⟩ K)
    (hr : callAt X.P X.n ops i ⟨env, bs, fs⟩ = some ((f, args), some d) := by kernel_rfl) (hm : pick bs m = bq := by kernel_rfl) : NW X ops i ⟨env, bs, fs⟩ K := by
  unfold callAt at hr
  cases ho : ops[i]? with
  | none => rw [ho] at hr; cases hr
  | some o =>
    rw [ho] at hr
    dsimp only at hr
    cases hg : guardD ops env o with
    | none => rw [hg] at hr; cases hr
    | some b =>
      rw [hg] at hr
      cases b with
      | false => cases hr
      | true =>
        dsimp only at hr
        cases hcl : callN X.P X.n env o with
        | none => rw [hcl] at hr; cases hr
        | some r' =>
          rw [hcl] at hr
          simp only [Option.map_some, Option.some.injEq, Prod.mk.injEq] at hr
          obtain ⟨rfl, hd⟩ := hr
          obtain ⟨h1, h2, h3, hrun⟩ := callN_spec hcl
          refine NW_on (s := ⟨env, bs, fs⟩) ho hg (fun a w ha hw => ?_)
          refine opE h2 (by rw [ha.exec h2 h3]; exact hrun w) ?_
          rw [hd]
          refine (hc.call rfl hw m hm hp env).mono ?_
          rintro en w' ⟨g, rfl, hw'⟩
          have ha' : Agree X.fr ⟨env, plug bs m (bs' g), post g ++ fs⟩ a := ⟨ha.size, ha.defers, ha.env⟩
          exact h g _ _ (ha'.put (some d) (by rw [← hd]; exact dstOk_lt h1) _) (hw'.put (some d) _)
theorem xmeg {fn : Func} {γ : Type} {val : γ → Value} {bs' : γ → List Box} {post : γ → List Fact} (v : Value) (hs : List Nat) (h : ∃ g m, v = val g ∧ bs' g = pick bs m ∧ Sub (post g) fs)
    (ho : outN X.P fn ⟨env, bs, fs⟩ hs = some (v, fsts (psO (outN X.P fn ⟨env, bs, fs⟩ hs))) := by kernel_rfl) : RetM X fn val bs' post .ret ⟨env, bs, fs⟩ := by
  obtain ⟨g, m, hv, hb, hsub⟩ := h
  exact ⟨g, m, hs, _, by rw [← fsts_dup, ← hv]; exact ho, hb, hsub⟩
theorem xmfg {fn : Func} {γ : Type} {val : γ → Value} {bs' : γ → List Box} {post : γ → List Fact} (v : Value) (hs : List Nat) (h : ∃ g m, v = val g ∧ bs' g = pick bs m ∧ Sub (post g) fs)
    (ho : outN X.P fn ⟨env, bs, fs⟩ hs = some (v, fsts (psO (outN X.P fn ⟨env, bs, fs⟩ hs))) := by kernel_rfl) : RetM X fn val bs' post .normal ⟨env, bs, fs⟩ := by
  obtain ⟨g, m, hv, hb, hsub⟩ := h
  exact ⟨g, m, hs, _, by rw [← fsts_dup, ← hv]; exact ho, hb, hsub⟩
end
def LW (X : Cx) (c : Code) (s : St) (K : Exit → St → Prop) : Prop := ∀ a w, Agree X.fr s a → Holds X s w → ∀ (b : Frame) (k : List Item) (cs : List Frame), b.roundOf = X.rd → ∃ e a' w', Lift X K e a' w' ∧ ArrivesIn (Machine.fenced X.P X.F) X.P (lone (b.atR a (.code c :: .inLoop c :: k)) cs w) b k cs e a' w'
theorem roomX (X : Cx) (n : Nat) : X.F.room n := fun _ h => by cases h
section
variable {X : Cx} {s : St} {K : Exit → St → Prop} {c : Code}
theorem SW_unroll (h : LW X c s K) : SW X (.loop c) s K := by
  intro a w ha hw b k cs hro hb hrm
  obtain ⟨e, a', w', hq, harr⟩ := h a w ha hw b k cs hro
  exact ⟨e, a', w', hq, .of_steps (.one (fenced_calm hb hrm rfl) stepR_loop) harr⟩
theorem LW_step (h : SW X c s (thenK (fun s' => LW X c s' K) K)) : LW X c s K := by
  intro a w ha hw b k cs hro
  obtain ⟨e, a₁, w₁, ⟨s', ha', hw', hq⟩, harr⟩ := h a w ha hw b (.inLoop c :: k) cs hro trivial (roomX X _)
  cases e with
  | normal =>
    obtain ⟨e₂, a₂, w₂, hq₂, harr₂⟩ := hq a₁ w₁ ha' hw' b k cs hro
    exact ⟨e₂, a₂, w₂, hq₂, .of_steps (StepsIn.trans harr (.one (fenced_calm (n := 0) trivial (roomX X _) rfl) stepR_inLoop)) harr₂⟩
  | _ => exact ⟨_, a₁, w₁, ⟨s', ha', hw', hq⟩, .pass (x := .inLoop c) rfl (fun _ _ => .inl (by simp)) harr⟩
end
section
variable {X : Cx} {s s0 : St} {K : Exit → St → Prop} {ops : Array Oper} {ds : List Nat} {lv : Bool} {l : List Bool} {T : Tb} {BB : List Nat}
theorem SW_drawM {id : Nat} (T : Tb) (BB ds : List Nat) (l : List Bool) (s0 : St) (hs0 : ∀ w, Holds X s w → Holds X s0 w) (hrd : X.rd = none) (hm : X.P.follows .mixedOrders = true) (hT : rtab .any ops = T) (hB : waitsOk T.2 BB = true) (hl : List.replicate ops.size false = l)
    (h : rtab .any ops = T → waitsOk T.2 BB = true → RW X ops ds s0 true l s K) : SW X (.region id ops true) s K := by
  refine wideX hrd ?_
  intro a w ha hw
  refine start_ (S := Holds X s0) (ds := ds) l.toArray hm rfl ?_ (hs0 _ hw.drew) (fun hS => ?_)
  · rw [← hl]; simp
  · have := h hT hB a w.drew ha hw.drew (fun _ => hS)
    rw [← hl, cnt_rep] at this
    rw [← hl]
    exact this
theorem RWs_callM {i d : Nat} (m : List Bool) {f : FuncId} {args : List Value} {bq : List Box} {pre : List Fact} {γ : Type} {val : γ → Value} {bs' : γ → List Box} {post : γ → List Fact} (hc : CtM X.P f args bq pre val bs' post)
    (hr : callAt X.P X.n ops i s = some ((f, args), some d)) (hm : pick s.bs m = bq) (hp : Sub pre s.fs) (hs0 : ∀ g, ∀ b ∈ s0.bs, b ∈ plug s.bs m (bs' g)) (hf0 : Sub s0.fs s.fs)
    (h : ∀ g, RW X ops ds s0 lv (l.set i true) ⟨(d, val g) :: s.env, plug s.bs m (bs' g), post g ++ s.fs⟩ K) : RWs X ops ds s0 lv l s K i := by
  unfold callAt at hr
  cases ho : ops[i]? with
  | none => rw [ho] at hr; cases hr
  | some o =>
    rw [ho] at hr
    dsimp only at hr
    cases hg : guardD ops s.env o with
    | none => rw [hg] at hr; cases hr
    | some b =>
      rw [hg] at hr
      cases b with
      | false => cases hr
      | true =>
        dsimp only at hr
        cases hcl : callN X.P X.n s.env o with
        | none => rw [hcl] at hr; cases hr
        | some r' =>
          rw [hcl] at hr
          simp only [Option.map_some, Option.some.injEq, Prod.mk.injEq] at hr
          obtain ⟨rfl, hd⟩ := hr
          obtain ⟨h1, h2, h3, hrun⟩ := callN_spec hcl
          refine RWs_on ho hg (fun a w ha hw hS => ?_)
          unfold Oper.wp
          rw [ha.exec h2 h3, hrun, Oper.upon_enter, hd]
          refine (hc.call rfl hw m hm hp s.env).mono ?_
          rintro en w' ⟨g, rfl, hw'⟩
          have ha' : Agree X.fr ⟨s.env, plug s.bs m (bs' g), post g ++ s.fs⟩ a := ⟨ha.size, ha.defers, ha.env⟩
          have keep : Holds X s0 w → Holds X s0 w' := fun h0 => by
            have hx := hw'.sub (hs0 g) h0.nodup s0.env
            exact ⟨hx.below, hx.box, hx.new, hx.nodup, fun F hF => hx.fact F (List.mem_append_right _ (hf0.mem F hF)), hx.old⟩
          exact ⟨fun _ h0 => keep h0, h g _ _ (ha'.put (some d) (by rw [← hd]; exact dstOk_lt h1) _) (hw'.put (some d) _) (fun hl => keep (hS hl))⟩
theorem pick_mem {l : List Box} {m : List Bool} {r : List Box} (h : pick l m = r) : ∀ b ∈ r, b ∈ l := fun b hb => (pick_sub l m).subset (h ▸ hb)
end
section
variable {X : Cx} {env : List (Nat × Value)} {bs bs0 : List Box} {fs : List Fact} {K : Exit → St → Prop} {ops : Array Oper} {s0 : St} {ds : List Nat} {lv : Bool} {l : List Bool} {BB : List Nat}
theorem xdm {id : Nat} {c : Code} (m : List Bool) (h : waitsOk (rtab .any ops).2 (bbOf ops) = true → RW X ops (stOf ops) ⟨env, pick bs m, fs⟩ true (List.replicate ops.size false) ⟨env, bs, fs⟩ (thenK (fun s' => SW X c s' K) K))
    (hm : X.P.follows .mixedOrders = true := by kernel_rfl) (hrd : X.rd = none := by rfl) (hB : waitsOk (rtab .any ops).2 (bbOf ops) = true := by kernel_rfl) : SW X (.seq (.region id ops true) c) ⟨env, bs, fs⟩ K :=
  SW_seq (SW_drawM _ _ _ _ ⟨env, pick bs m, fs⟩ (fun w hw => hw.sub (pick_mem rfl) (((pick_sub bs m).map Box.id).nodup hw.nodup) env) hrd hm rfl hB rfl (fun _ h1 => h h1))
theorem xdml {id : Nat} (m : List Bool) (h : waitsOk (rtab .any ops).2 (bbOf ops) = true → RW X ops (stOf ops) ⟨env, pick bs m, fs⟩ true (List.replicate ops.size false) ⟨env, bs, fs⟩ K)
    (hm : X.P.follows .mixedOrders = true := by kernel_rfl) (hrd : X.rd = none := by rfl) (hB : waitsOk (rtab .any ops).2 (bbOf ops) = true := by kernel_rfl) : SW X (.region id ops true) ⟨env, bs, fs⟩ K :=
  SW_drawM _ _ _ _ ⟨env, pick bs m, fs⟩ (fun w hw => hw.sub (pick_mem rfl) (((pick_sub bs m).map Box.id).nodup hw.nodup) env) hrd hm rfl hB rfl (fun _ h1 => h h1)
theorem xdcm (i d : Nat) (m m2 : List Bool) {f : FuncId} {args : List Value} {bq : List Box} {pre : List Fact} {γ : Type} {val : γ → Value} {bs' : γ → List Box} {post : γ → List Fact} (hc : CtM X.P f args bq pre val bs' post) (hp : Sub pre fs) (hf0 : Sub s0.fs fs)
    (h : ∀ g, RW X ops ds s0 lv (l.set i true) ⟨(d, val g) :: env, plug bs m (bs' g), post g ++ fs⟩ K)
    (hrd : (readyT (rtab .any ops).2 l == [i]) = true := by kernel_rfl) (hr : callAt X.P X.n ops i ⟨env, bs, fs⟩ = some ((f, args), some d) := by kernel_rfl) (hm : pick bs m = bq := by kernel_rfl)
    (h2 : ∀ g, pick (plug bs m (bs' g)) m2 = s0.bs := by intro g; kernel_rfl) : RW X ops ds s0 lv l ⟨env, bs, fs⟩ K :=
  RW_one rfl hrd (RWs_callM (s := ⟨env, bs, fs⟩) m hc hr hm hp (fun g => pick_mem (h2 g)) hf0 h)
end
structure Weak2 (s t : St) : Prop where
  env : ∀ k v, look t.env k = some v → look s.env k = some v
  bs : ∃ m, pick s.bs m = t.bs
  fs : Sub t.fs s.fs
theorem SW_weak2 {X : Cx} {c : Code} {s t : St} {K : Exit → St → Prop} (h : Weak2 s t) (k : SW X c t K) : SW X c s K := by
  intro a w ha hw
  obtain ⟨m, hm⟩ := h.bs
  have hx : Holds X ⟨t.env, t.bs, s.fs⟩ w := hw.sub (pick_mem hm) (by rw [← hm]; exact ((pick_sub s.bs m).map Box.id).nodup hw.nodup) t.env
  exact k a w ⟨ha.size, ha.defers, fun i v hv => ha.env i v (h.env i v hv)⟩ ⟨hx.below, hx.box, hx.new, hx.nodup, fun F hF => hx.fact F (h.fs.mem F hF), hx.old⟩
theorem xw2 {s t : St} (m : List Bool) (hf : Sub t.fs s.fs) (he : t.env.map (fun p => X.look s.env p.1) = t.env.map (fun p => some p.2) := by kernel_rfl) (hb : pick s.bs m = t.bs := by kernel_rfl) : Weak2 s t := by
  have hx : Weak ⟨s.env, t.bs, s.fs⟩ t := xw (s := ⟨s.env, t.bs, s.fs⟩) hf he rfl
  exact ⟨hx.env, ⟨m, hb⟩, hf⟩
section
variable {X : Cx} {env : List (Nat × Value)} {bs : List Box} {fs : List Fact} {K : Exit → St → Prop} {ops : Array Oper} {s0 : St} {ds : List Nat} {lv : Bool} {l : List Bool} {BB : List Nat}
theorem xdbl (i d : Nat) (cs : List Value) (ty n : Nat) {o : Oper} (h : ∀ g, RW X ops ds s0 lv (l.set i true) ⟨(d, .slice (some ⟨g, 0, none⟩) n n) :: env, bs ++ [⟨g, cs, ty⟩], fs⟩ K)
    (hrd : (readyT (rtab .any ops).2 l == [i]) = true := by kernel_rfl) (ho : ops[i]? = some o := by rfl) (hg : guardD ops env o = some true := by kernel_rfl) (hf : fitO X.n env o = true := by kernel_rfl) (hd : o.dst = some d := by rfl)
    (hr : ∀ g, runA X.P (execOp (evD env) o) bs [] (some g) = some (.value (.slice (some ⟨g, 0, none⟩) n n), bs ++ [⟨g, cs, ty⟩], []) := by intro g; kernel_rfl) : RW X ops ds s0 lv l ⟨env, bs, fs⟩ K := by
  refine RW_one rfl hrd (RWs_new (s := ⟨env, bs, fs⟩) (v := fun g => .slice (some ⟨g, 0, none⟩) n n) (nb := fun g => ⟨g, cs, ty⟩) ho hg hf hr (fun g => ?_))
  rw [hd]
  exact h g
end
theorem ctM_row {P : Program} {f : FuncId} {args : List Value} {k : IntKind} {g c : Nat} {xs r : List Int} {ty : TypeId} {cs : List Value} (hcs : cl k xs [] = cs) (hx : xs.length ≤ 9223372036854775807) (hc : xs.length ≤ c) (h : CtR P f args [Row k (some ⟨g, 0, none⟩) c xs] k r) :
    CtM P f args [⟨g, cs, ty⟩] [] (γ := Option Addr × Nat) (fun p => .slice p.1 r.length p.2) (fun _ => []) (fun p => [Row k p.1 p.2 r]) := by
  subst hcs
  intro B w hB hbs hnd hp
  have h0 := hbs _ (List.mem_singleton.2 rfl)
  have hgB : g ∉ B := fun hg => (hB g hg).2 (List.mem_singleton.2 rfl)
  refine (h B w (fun b hb => (hB b hb).1) (fun F hF => ?_)).mono (fun e w' ⟨q, h1, h2, h3⟩ => ⟨q, h1, Kept.of h3, (fun b hb => (by cases hb)), (fun b hb => (by cases hb)), List.nodup_nil, fun F hF => ?_, hB⟩)
  · rw [List.mem_singleton.1 hF]
    intro W' hW
    exact row_block (r := []) (ty := ty) ((hW g hgB (blk_lt h0)).trans h0) hx hc
  · exact (h2 F hF).mono (fun k hk => ⟨hk, fun b hb => (by cases hb)⟩)
section
variable {X : Cx} {env : List (Nat × Value)} {bs : List Box} {fs : List Fact} {K : Exit → St → Prop} {ops : Array Oper} {j : Nat}
theorem xqri (d : Nat) (a0 b0 : Int) (a b : Nat) (na : Nn a0 a) (nb : Nn b0 b) (hb : 0 < b) (ha : a < 9223372036854775808) {o : Oper} {t yt : TypeId} {x y : Operand} (h : NW X ops (Nat.succ j) ⟨(d, .int .i64 ((a % b : Nat) : Int)) :: env, bs, fs⟩ K)
    (ho : ops[j]? = some o := by rfl) (hop : o.op = .binOp .rem t x y yt := by rfl) (hg : guardD ops env o = some true := by kernel_rfl) (hf : fitO X.n env o = true := by kernel_rfl) (hd : o.dst = some d := by rfl)
    (hx : evD env x = .int .i64 a0 := by kernel_rfl) (hy : evD env y = .int .i64 b0 := by kernel_rfl) : NW X ops j ⟨env, bs, fs⟩ K :=
  nv _ d _ ho hg hf hd (fun w _ _ => by rw [run_rem hop hx hy (by rw [nb.out]; omega) w, (Nn.mod na nb).out]) rfl h
variable {s0 : St} {ds : List Nat} {l : List Bool} {BB : List Nat} {lv : Bool}
theorem xdqri (i : Nat) (hB : waitsOk (rtab .any ops).2 BB = true) (d : Nat) (a0 b0 : Int) (a b : Nat) (na : Nn a0 a) (nb : Nn b0 b) (hb : 0 < b) (ha : a < 9223372036854775808) {o : Oper} {t yt : TypeId} {x y : Operand} (h : RW X ops ds s0 true (l.set i true) ⟨(d, .int .i64 ((a % b : Nat) : Int)) :: env, bs, fs⟩ K)
    (ho : ops[i]? = some o := by rfl) (hop : o.op = .binOp .rem t x y yt := by rfl) (hg : guardD ops env o = some true := by kernel_rfl) (hf : fitO X.n env o = true := by kernel_rfl) (hd : o.dst = some d := by rfl) (hc : takeW (rtab .any ops) BB ds l (l.set i true) i = true := by kernel_rfl)
    (hx : evD env x = .int .i64 a0 := by kernel_rfl) (hy : evD env y = .int .i64 b0 := by kernel_rfl)
    (hK : Calm K := by repeat (first | with_reducible refine Calm.then_ ?_ _ | with_reducible refine Calm.block_ ?_ _ | with_reducible exact RetK.calm | with_reducible exact RetM.calm | with_reducible exact RetL.calm | exact RetK.calm)) : RW X ops ds s0 true l ⟨env, bs, fs⟩ K :=
  dv _ i d _ hK rfl hB ho hg hf hd hc rfl (fun w _ _ => by rw [run_rem hop hx hy (by rw [nb.out]; omega) w, (Nn.mod na nb).out]) h
end
theorem pickI : ∀ (l : List Box) (is : List Nat) (r : List Box), is.Nodup → is.map (fun i => l[i]?) = r.map some → (l.map Box.id).Nodup → (r.map Box.id).Nodup ∧ (∀ b ∈ r, ∃ i ∈ is, l[i]? = some b)
  | l, [], [], _, _, _ => ⟨List.nodup_nil, fun b hb => by cases hb⟩
  | l, [], b :: r, _, h, _ => by simp at h
  | l, i :: is, [], _, h, _ => by simp at h
  | l, i :: is, b :: r, hn, h, hl => by
    simp only [List.map_cons, List.cons.injEq] at h
    obtain ⟨hn1, hn2⟩ := List.nodup_cons.1 hn
    obtain ⟨k1, k2⟩ := pickI l is r hn2 h.2 hl
    refine ⟨List.nodup_cons.2 ⟨fun hm => ?_, k1⟩, fun x hx => ?_⟩
    · obtain ⟨c, hc, e⟩ := List.mem_map.1 hm
      obtain ⟨j, hj, hj2⟩ := k2 c hc
      exact nodup_idx hl hj2 h.1 (fun z => hn1 (z ▸ hj)) e
    · rcases List.mem_cons.1 hx with rfl | hx
      · exact ⟨i, List.mem_cons_self .., h.1⟩
      · obtain ⟨j, hj, hj2⟩ := k2 x hx
        exact ⟨j, List.mem_cons_of_mem _ hj, hj2⟩
end Go.Proofs.YtgknelgplmohoaaDoor.X
end
section
namespace Go.Proofs.YtgknelgplmohoaaDoor.X
open Go.RowKit Go.Proofs.YtgknelgplmohoaaDoorV.PrintWords Go.Proofs.YtgknelgplmohoaaDoorV.PrintLast
set_option linter.unusedVariables false
set_option linter.unusedSimpArgs false
def CtO (P : Program) (f : FuncId) (args : List Value) (pre : List Fact) (e : TypeId) (k : IntKind) (r : List Int) : Prop :=
  CtM P f args [] pre (γ := Nat × List Value) (fun p => .slice (some ⟨p.1, 0, none⟩) r.length r.length) (fun p => [⟨p.1, cl k r p.2, e⟩]) (fun _ => [])
theorem ctR_of_O {P : Program} {f : FuncId} {args : List Value} {pre : List Fact} {e : TypeId} {k : IntKind} {r : List Int} (hx : r.length ≤ 9223372036854775807) (h : CtO P f args pre e k r) : CtR P f args pre k r := fun B w hB hp =>
  (h B w (fun b hb => ⟨hB b hb, by simp⟩) (fun b hb => by cases hb) List.nodup_nil (fun F hF => (hp F hF).mono (fun k hk => ⟨hk, fun b hb => by cases hb⟩))).mono (fun en w' ⟨p, h1, h3⟩ => by
    have h4 : Holds ⟨P, 0, B, ⟨w, [], []⟩, none⟩ ⟨[], [⟨p.1, cl k r p.2, e⟩], []⟩ w' := ⟨h3.below, h3.box, h3.new, h3.nodup, (fun F hF => by cases hF), h3.old⟩
    refine ⟨(some ⟨p.1, 0, none⟩, r.length), h1, fun F hF => ?_, h3.below.out⟩
    rw [List.mem_singleton.1 hF]
    exact foot_from ((h4.fz (h := 0) (g := p.1) (c := r.length) rfl hx (Nat.le_refl _) []).fact _ (List.mem_cons_self ..)))
end Go.Proofs.YtgknelgplmohoaaDoor.X
end
section
namespace Go.Proofs.YtgknelgplmohoaaDoorV.PrintWords
open Go.RowKit
namespace Kd
section
variable {α : Type} {d : Kd α} {e base n cc g : Nat} {ok ok' okp S : Nat → Prop} {w w1 W W1 : World} {A : Option Addr} {u v v1 : Value} {xs : List α} {x : α} {c : List Value}
def N {α : Type} (d : Kd α) (e : Nat) (w : World) (base : Nat) (ok : Nat → Prop) (v : Value) (xs : List α) : Prop :=
  (∀ k, v.ownBlock = some k → ok k) ∧ ∃ rows : List (List Value), rows.length = xs.length ∧ (raw d.sz).R e w base (fun k => some k = v.ownBlock) v rows ∧ ∀ (j : Nat) (x : α) (c : List Value), xs[j]? = some x → rows[j]? = some c → FK d w (fun k => ok k ∧ some k ≠ v.ownBlock) x c
end
end Kd
end Go.Proofs.YtgknelgplmohoaaDoorV.PrintWords
end
section
namespace Go.Proofs.YtgknelgplmohoaaDoorV.PrintWords
open Go.RowKit
def mx (a b : Int) : Int := if a < b then b else a
def mn (a b : Int) : Int := if b < a then b else a
def shl (k : IntKind) (x y : Int) : Int := k.wrap (x * 2 ^ min y.toNat k.bits)
end Go.Proofs.YtgknelgplmohoaaDoorV.PrintWords
namespace Go.Proofs.YtgknelgplmohoaaDoorV.PrintWords
open Go.RowKit
namespace Kd
def V {α : Type} (d : Kd α) (_e : Nat) (W : World) (_base : Nat) (ok : Nat → Prop) (v : Value) (xs : List α) : Prop := ∃ A c, v = .slice A xs.length c ∧ xs.length ≤ c ∧ F d W ok A xs.length xs
end Kd
end Go.Proofs.YtgknelgplmohoaaDoorV.PrintWords
end
