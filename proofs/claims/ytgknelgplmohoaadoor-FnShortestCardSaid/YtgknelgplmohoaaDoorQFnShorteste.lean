import Derived.Orders
import Derived.CallsIn
import Derived.RangeFuncIn
import Derived.RangeFuncLeaves
import Derived.Recover
import Derived.Test.YtgknelgplmohoaaDoorQFnShortestd
section
namespace Go.Proofs.YtgknelgplmohoaaDoor.X
open Go.RowKit Go.Proofs.YtgknelgplmohoaaDoorV.PrintWords Go.Proofs.YtgknelgplmohoaaDoorV.PrintLast
set_option linter.unusedVariables false
set_option linter.unusedSimpArgs false
abbrev Fact := World → Prop
inductive Ty where
  | ty (t : TypeId)
  | ob (o : Obj)
instance instTyNat (n : Nat) : OfNat Ty n := ⟨.ty n⟩
instance instTyCoe : Coe TypeId Ty := ⟨.ty⟩
structure Box where
  id : Nat
  cells : List Value
  ty : Ty
abbrev Box.ob (b : Box) : Obj := match b.ty with
  | .ty t => .cells b.cells.toArray t (0, 0)
  | .ob o => o
structure St where
  env : List (Nat × Value)
  bs : List Box
  fs : List Fact
def look : List (Nat × Value) → Nat → Option Value
  | [], _ => none
  | (k, v) :: r, t => match Nat.beq k t with
    | true => some v
    | false => look r t
def ev (env : List (Nat × Value)) : Operand → Option Value
  | .tmp t => look env t
  | .const v => some v
  | .global g => some (.pointer (some ⟨g, 0, none⟩))
  | .func f => some (.func (.func f) #[] #[])
def evD (env : List (Nat × Value)) (x : Operand) : Value := match ev env x with
  | some v => v
  | none => undef
def St.put (s : St) (d : Option Nat) (v : Value) : St := match d with
  | none => s
  | some d => ⟨(d, v) :: s.env, s.bs, s.fs⟩
structure Agree (n : Nat × List Deferred) (s : St) (a : Act) : Prop where
  size : a.tmps.size = n.1
  defers : a.defers = n.2
  env : ∀ t v, look s.env t = some v → a.tmps[t]? = some v
theorem Agree.ev {n : Nat × List Deferred} {s : St} {a : Act} (h : Agree n s a) {x : Operand} {v : Value} (hx : ev s.env x = some v) : a.eval x = v := by
  cases x with
  | tmp t => simp [Act.eval, Array.getD_eq_getD_getElem?, h.env t v hx]
  | const u => cases hx; rfl
  | global g => cases hx; rfl
  | func f => cases hx; rfl
def allD (env : List (Nat × Value)) : List Operand → Bool
  | [] => true
  | x :: r => match X.ev env x with
    | some _ => allD env r
    | none => false
def plainOp : Op → Bool
  | .select _ _ => false
  | .defer _ => false
  | _ => true
def guardD (ops : Array Oper) (env : List (Nat × Value)) (o : Oper) : Option Bool := match o.guard with
  | none => some true
  | some (j, want) => match ops[j]? with
    | none => some false
    | some q => match q.dst with
      | none => some false
      | some d => match look env d with
        | some (.bool b) => some (match b, want with
          | true, true => true
          | false, false => true
          | _, _ => false)
        | some (.tuple _) => some false
        | _ => none
theorem Agree.guard {n : Nat × List Deferred} {s : St} {a : Act} (h : Agree n s a) {ops : Array Oper} {o : Oper} {b : Bool} (hg : guardD ops s.env o = some b) : Region.wanted o (yielded ops a.tmps) = b := by
  unfold guardD at hg
  unfold Region.wanted
  cases ho : o.guard with
  | none => rw [ho] at hg; cases hg; rfl
  | some p =>
    obtain ⟨j, want⟩ := p
    rw [ho] at hg
    dsimp only at hg ⊢
    unfold yielded
    cases hj : ops[j]? with
    | none => rw [hj] at hg; cases hg; simp
    | some q =>
      rw [hj] at hg
      dsimp only at hg
      cases hd : q.dst with
      | none => rw [hd] at hg; cases hg; simp [hd]
      | some d =>
        rw [hd] at hg
        dsimp only at hg
        cases hl : look s.env d with
        | none => rw [hl] at hg; cases hg
        | some v =>
          rw [hl] at hg
          have hv := h.env d v hl
          simp only [Option.bind_some, hd, hv]
          cases v with
          | bool c => cases c <;> cases want <;> (cases hg; rfl)
          | tuple _ => cases hg; rfl
          | _ => cases hg
theorem allD_mem {env : List (Nat × Value)} : ∀ {l : List Operand}, allD env l = true → ∀ x ∈ l, ∃ v, X.ev env x = some v
  | [], _, x, hx => by cases hx
  | y :: r, h, x, hx => by
    simp only [allD] at h
    cases hy : X.ev env y with
    | none => rw [hy] at h; cases h
    | some v =>
      rw [hy] at h
      rcases List.mem_cons.1 hx with rfl | hx
      · exact ⟨v, hy⟩
      · exact allD_mem h x hx
theorem Agree.exec {n : Nat × List Deferred} {s : St} {a : Act} (h : Agree n s a) {o : Oper} (hp : plainOp o.op = true) (hk : allD s.env o.op.operands.toList = true) : execOp a.eval o = execOp (evD s.env) o := by
  refine execOp_congr o (fun cs b e => by rw [e] at hp; cases hp) (fun x hx => ?_)
  obtain ⟨v, hv⟩ := allD_mem hk x (by simpa using hx)
  rw [h.ev hv]
  unfold evD
  rw [hv]
theorem plain_defer {o : Oper} (hp : plainOp o.op = true) : ∀ c, o.op ≠ .defer c := fun c e => by rw [e] at hp; cases hp
theorem look_cons (k : Nat) (v : Value) (r : List (Nat × Value)) (t : Nat) : look ((k, v) :: r) t = if k = t then some v else look r t := by
  show (match Nat.beq k t with
    | true => some v
    | false => look r t) = _
  by_cases h : k = t
  · subst h
    rw [Nat.beq_refl k, if_pos rfl]
  · rw [if_neg h]
    have : Nat.beq k t = false := by
      cases hb : Nat.beq k t with
      | false => rfl
      | true => exact absurd (Nat.eq_of_beq_eq_true hb) h
    rw [this]
theorem Agree.put {n : Nat × List Deferred} {s : St} {a : Act} (h : Agree n s a) (d : Option Nat) (hd : ∀ t, d = some t → t < n.1) (v : Value) : Agree n (s.put d v) (a.put d v) := by
  cases d with
  | none => exact h
  | some d =>
    have hdn := hd d rfl
    refine ⟨by simp [Act.put, h.size], h.defers, fun t u hu => ?_⟩
    simp only [St.put, look_cons] at hu
    by_cases he : d = t
    · rw [if_pos he] at hu
      cases hu
      subst he
      simp [Act.put, h.size, hdn]
    · rw [if_neg he] at hu
      simp only [Act.put]
      rw [Array.getElem?_setIfInBounds_ne he]
      exact h.env t u hu
def nextH : List Nat → Nat × List Nat
  | [] => (0, [])
  | [h] => (h, [h])
  | h :: r => (h, r)
def cellB (bs : List Box) (h : Nat) (a : Addr) : Option (Value × Nat) := match bs[h]? with
  | none => none
  | some b => match b.ty with
    | .ob _ => none
    | .ty _ => match a.spot with
      | some _ => none
      | none => match b.cells[a.off]? with
        | none => none
        | some v => some (v, b.id)
def isC : Obj → Bool
  | .cells _ _ _ => true
  | _ => false
def obB (bs : List Box) (h : Nat) : Option (Obj × Nat) := match bs[h]? with
  | none => none
  | some b => match b.ty with
    | .ty _ => none
    | .ob o => match isC o with
      | true => none
      | false => some (o, b.id)
def putB (bs : List Box) (h : Nat) (o : Obj) : List Box := match bs, h with
  | [], _ => []
  | b :: r, 0 => ⟨b.id, [], .ob o⟩ :: r
  | b :: r, h + 1 => b :: putB r h o
def AllEq : List (Nat × Nat) → Prop
  | [] => True
  | (a, b) :: r => a = b ∧ AllEq r
def setB (bs : List Box) (h : Nat) (o : Nat) (v : Value) : List Box := match bs, h with
  | [], _ => []
  | b :: r, 0 => ⟨b.id, b.cells.set o v, b.ty⟩ :: r
  | b :: r, h + 1 => b :: setB r h o v
def oneCell : Value → Bool
  | .agg _ => false
  | .tuple _ => false
  | _ => true
def runA {α : Type} (P : Program) : Sem α → List Box → List Nat → Option Nat → Option (α × List Box × List (Nat × Nat))
  | .pure a, bs, _, _ => some (a, bs, [])
  | .load _ a k, bs, hs, g => match cellB bs (nextH hs).1 a with
    | none => none
    | some (v, i) => match runA P (k v) bs (nextH hs).2 g with
      | none => none
      | some (x, bs', ps) => some (x, bs', (a.block, i) :: ps)
  | .store _ a v k, bs, hs, g => match oneCell v with
    | false => none
    | true => match cellB bs (nextH hs).1 a with
      | none => none
      | some (_, i) => match runA P k (setB bs (nextH hs).1 a.off v) (nextH hs).2 g with
        | none => none
        | some (x, bs', ps) => some (x, bs', (a.block, i) :: ps)
  | .new o k, bs, hs, g => match g, o with
    | some g, .cells c t (0, 0) => runA P (k g) (bs ++ [⟨g, c.toList, t⟩]) hs none
    | some g, o => match isC o with
      | true => none
      | false => runA P (k g) (bs ++ [⟨g, [], .ob o⟩]) hs none
    | _, _ => none
  | .getObj r k, bs, hs, g => match obB bs (nextH hs).1 with
    | none => none
    | some (o, i) => match runA P (k o) bs (nextH hs).2 g with
      | none => none
      | some (x, bs', ps) => some (x, bs', (r, i) :: ps)
  | .setObj r o k, bs, hs, g => match isC o with
    | true => none
    | false => match obB bs (nextH hs).1 with
      | none => none
      | some (_, i) => match runA P k (putB bs (nextH hs).1 o) (nextH hs).2 g with
        | none => none
        | some (x, bs', ps) => some (x, bs', (r, i) :: ps)
  | .program k, bs, hs, g => runA P (k P) bs hs g
  | .mark _ k, bs, hs, g => runA P k bs hs g
  | _, _, _, _ => none
end Go.Proofs.YtgknelgplmohoaaDoor.X
end
section
namespace Go.Proofs.YtgknelgplmohoaaDoor.X
open Go.RowKit Go.Proofs.YtgknelgplmohoaaDoorV.PrintWords Go.Proofs.YtgknelgplmohoaaDoorV.PrintLast
set_option linter.unusedVariables false
set_option linter.unusedSimpArgs false
def runR {α : Type} (P : Program) : Sem α → List Box → List Nat → Option (α × List (Nat × Nat))
  | .pure a, _, _ => some (a, [])
  | .load _ a k, bs, hs => match cellB bs (nextH hs).1 a with
    | none => none
    | some (v, i) => match runR P (k v) bs (nextH hs).2 with
      | none => none
      | some (x, ps) => some (x, (a.block, i) :: ps)
  | .getObj r k, bs, hs => match obB bs (nextH hs).1 with
    | none => none
    | some (o, i) => match runR P (k o) bs (nextH hs).2 with
      | none => none
      | some (x, ps) => some (x, (r, i) :: ps)
  | .program k, bs, hs => runR P (k P) bs hs
  | .mark _ k, bs, hs => runR P k bs hs
  | _, _, _ => none
def WB (bs : List Box) (w : World) : Prop := ∀ b ∈ bs, w.heap[b.id]? = some b.ob
theorem cellB_sound {bs : List Box} {h : Nat} {a : Addr} {v : Value} {i : Nat} {w : World} (hc : cellB bs h a = some (v, i)) (he : a.block = i) (hw : WB bs w) :
    w.cell? a = some v ∧ w.frozen? a = false ∧ a.spot = none ∧ ∃ b t, bs[h]? = some b ∧ b.id = a.block ∧ b.cells[a.off]? = some v ∧ b.ty = .ty t := by
  unfold cellB at hc
  cases hb : bs[h]? with
  | none => rw [hb] at hc; cases hc
  | some b =>
    rw [hb] at hc
    dsimp only at hc
    cases hty : b.ty with
    | ob o => rw [hty] at hc; cases hc
    | ty t =>
      rw [hty] at hc
      dsimp only at hc
      cases hs : a.spot with
      | some z => rw [hs] at hc; cases hc
      | none =>
        rw [hs] at hc
        dsimp only at hc
        cases hv : b.cells[a.off]? with
        | none => rw [hv] at hc; cases hc
        | some u =>
          rw [hv] at hc
          cases hc
          have hm := hw b (List.mem_of_getElem? hb)
          rw [← he] at hm
          unfold Box.ob at hm
          rw [hty] at hm
          dsimp only at hm
          refine ⟨?_, ?_, rfl, b, t, rfl, he.symm, hv, hty⟩
          · simp [World.cell?, hm, hs, hv]
          · simp [World.frozen?, hm]
theorem obB_sound {bs : List Box} {h r : Nat} {o : Obj} {i : Nat} {w : World} (hc : obB bs h = some (o, i)) (he : r = i) (hw : WB bs w) :
    w.heap[r]? = some o ∧ isC o = false ∧ ∃ b, bs[h]? = some b ∧ b.id = r := by
  unfold obB at hc
  cases hb : bs[h]? with
  | none => rw [hb] at hc; cases hc
  | some b =>
    rw [hb] at hc
    dsimp only at hc
    cases hty : b.ty with
    | ty t => rw [hty] at hc; cases hc
    | ob o' =>
      rw [hty] at hc
      dsimp only at hc
      cases hi : isC o' with
      | true => rw [hi] at hc; cases hc
      | false =>
        rw [hi] at hc
        cases hc
        have hm := hw b (List.mem_of_getElem? hb)
        unfold Box.ob at hm
        rw [hty] at hm
        dsimp only at hm
        exact ⟨he ▸ hm, hi, b, rfl, he.symm⟩
theorem run_getObj {α : Type} {P : Program} {r : Nat} {o : Obj} {k : Obj → Sem α} {w : World} (h : w.heap[r]? = some o) (hc : isC o = false) : (Sem.getObj r k).run P w = (k o).run P w := by
  cases o <;> first | (simp [isC] at hc; done) | simp only [Sem.run, h]
theorem run_setObj {α : Type} {P : Program} {r : Nat} {o o' : Obj} {k : Sem α} {w : World} (h : w.heap[r]? = some o) (hc : isC o = false) : (Sem.setObj r o' k).run P w = k.run P { w with heap := w.heap.setIfInBounds r o' } := by
  cases o <;> first | (simp [isC] at hc; done) | simp only [Sem.run, h]
theorem runR_sound {α : Type} (P : Program) (m : Sem α) : ∀ {bs : List Box} {hs : List Nat} {x : α} {ps : List (Nat × Nat)} {w : World}, runR P m bs hs = some (x, ps) → AllEq ps → WB bs w → m.run P w = .ok x w := by
  induction m with
  | pure a => intro bs hs x ps w h _ _; cases h; rfl
  | load m a k ih =>
    intro bs hs x ps w h he hw
    simp only [runR] at h
    cases hc : cellB bs (nextH hs).1 a with
    | none => rw [hc] at h; cases h
    | some p =>
      obtain ⟨v, i⟩ := p
      rw [hc] at h
      dsimp only at h
      cases hr : runR P (k v) bs (nextH hs).2 with
      | none => rw [hr] at h; cases h
      | some q =>
        obtain ⟨y, qs⟩ := q
        rw [hr] at h
        cases h
        have hcell := cellB_sound hc he.1 hw
        simp only [Sem.run, hcell.1]
        exact ih v hr he.2 hw
  | getObj r k ih =>
    intro bs hs x ps w h he hw
    simp only [runR] at h
    cases hc : obB bs (nextH hs).1 with
    | none => rw [hc] at h; cases h
    | some p =>
      obtain ⟨o, i⟩ := p
      rw [hc] at h
      dsimp only at h
      cases hr : runR P (k o) bs (nextH hs).2 with
      | none => rw [hr] at h; cases h
      | some q =>
        obtain ⟨y, qs⟩ := q
        rw [hr] at h
        cases h
        obtain ⟨h1, h2, _⟩ := obB_sound hc he.1 hw
        rw [run_getObj h1 h2]
        exact ih o hr he.2 hw
  | program k ih => intro bs hs x ps w h he hw; simp only [runR] at h; exact ih P h he hw
  | mark m k ih => intro bs hs x ps w h he hw; simp only [runR] at h; exact ih h he hw
  | _ => intros; rename_i h _ _; cases h
structure Ext (bs bs' : List Box) (w w' : World) : Prop where
  os : w'.os = w.os
  tape : w'.tape = w.tape
  output : w'.output = w.output
  size : w.heap.size ≤ w'.heap.size
  far : ∀ k, k < w.heap.size → (∀ b ∈ bs, k ≠ b.id) → w'.heap[k]? = w.heap[k]?
  wb : WB bs' w'
  ids : ∀ b ∈ bs', (∃ c ∈ bs, c.id = b.id) ∨ w.heap.size ≤ b.id
  keep : ∀ b ∈ bs, ∃ c ∈ bs', c.id = b.id
  nodup : (bs'.map Box.id).Nodup
theorem Ext.refl {bs : List Box} {w : World} (hw : WB bs w) (hn : (bs.map Box.id).Nodup) : Ext bs bs w w :=
  ⟨rfl, rfl, rfl, Nat.le_refl _, fun _ _ _ => rfl, hw, fun b hb => .inl ⟨b, hb, rfl⟩, fun b hb => ⟨b, hb, rfl⟩, hn⟩
theorem Ext.trans {a b c : List Box} {w w1 w2 : World} (h : Ext a b w w1) (k : Ext b c w1 w2) : Ext a c w w2 := by
  refine ⟨k.os.trans h.os, k.tape.trans h.tape, k.output.trans h.output, Nat.le_trans h.size k.size, fun i hi hn => ?_, k.wb, fun x hx => ?_, fun x hx => ?_, k.nodup⟩
  · refine (k.far i (Nat.lt_of_lt_of_le hi h.size) (fun y hy he => ?_)).trans (h.far i hi hn)
    rcases h.ids y hy with ⟨z, hz, e⟩ | e
    · exact hn z hz (he.trans e.symm)
    · omega
  · rcases k.ids x hx with ⟨y, hy, e⟩ | e
    · rcases h.ids y hy with ⟨z, hz, e'⟩ | e'
      · exact .inl ⟨z, hz, e'.trans e⟩
      · exact .inr (e ▸ e')
    · exact .inr (Nat.le_trans h.size e)
  · obtain ⟨y, hy, e⟩ := h.keep x hx
    obtain ⟨z, hz, e'⟩ := k.keep y hy
    exact ⟨z, hz, e'.trans e⟩
theorem setB_ids : ∀ (bs : List Box) (h o : Nat) (v : Value), (setB bs h o v).map Box.id = bs.map Box.id
  | [], _, _, _ => rfl
  | b :: r, 0, o, v => rfl
  | b :: r, h + 1, o, v => by simp only [setB, List.map_cons, setB_ids r h o v]
theorem setB_mem : ∀ {bs : List Box} {h o : Nat} {v : Value} {b x : Box}, bs[h]? = some b → x ∈ setB bs h o v → x = ⟨b.id, b.cells.set o v, b.ty⟩ ∨ (x ∈ bs ∧ ∃ j, bs[j]? = some x ∧ j ≠ h)
  | [], _, _, _, _, _, hb, _ => by cases hb
  | c :: r, 0, o, v, b, x, hb, hx => by
    cases hb
    rcases List.mem_cons.1 hx with rfl | hx
    · exact .inl rfl
    · obtain ⟨j, hj⟩ := List.mem_iff_getElem?.1 hx
      exact .inr ⟨List.mem_cons_of_mem _ hx, j + 1, hj, by omega⟩
  | c :: r, h + 1, o, v, b, x, hb, hx => by
    simp only [setB] at hx
    rcases List.mem_cons.1 hx with rfl | hx
    · exact .inr ⟨List.mem_cons_self .., 0, rfl, by omega⟩
    · rcases setB_mem (b := b) (by simpa using hb) hx with e | ⟨hm, j, hj, hne⟩
      · exact .inl e
      · exact .inr ⟨List.mem_cons_of_mem _ hm, j + 1, hj, by omega⟩
theorem nodup_idx {bs : List Box} (hn : (bs.map Box.id).Nodup) {i j : Nat} {b c : Box} (hi : bs[i]? = some b) (hj : bs[j]? = some c) (hne : i ≠ j) : b.id ≠ c.id := by
  have hp := List.pairwise_iff_getElem.1 hn
  obtain ⟨hil, hie⟩ := List.getElem?_eq_some_iff.1 hi
  obtain ⟨hjl, hje⟩ := List.getElem?_eq_some_iff.1 hj
  rcases Nat.lt_or_gt_of_ne hne with h | h
  · have := hp i j (by simpa using hil) (by simpa using hjl) h
    simpa [hie, hje] using this
  · have := hp j i (by simpa using hjl) (by simpa using hil) h
    simpa [hie, hje] using this.symm
theorem setB_ext {bs : List Box} {h : Nat} {a : Addr} {v u : Value} {b : Box} {w : World} (hb : bs[h]? = some b) (hi : b.id = a.block) (hs : a.spot = none) (hv : b.cells[a.off]? = some u) {t : TypeId} (hty : b.ty = .ty t) (hw : WB bs w) (hn : (bs.map Box.id).Nodup) : Ext bs (setB bs h a.off v) w (w.setCell a v) := by
  have hsz : (w.setCell a v).heap.size = w.heap.size := by simp [World.setCell]
  refine ⟨rfl, rfl, rfl, by rw [hsz]; exact Nat.le_refl _, fun k hk hf => ?_, fun x hx => ?_, fun x hx => ?_, fun x hx => ?_, by rw [setB_ids]; exact hn⟩
  · exact Below.heap_setCell w a v k (fun e => hf b (List.mem_of_getElem? hb) (e.trans hi.symm))
  · rcases setB_mem hb hx with rfl | ⟨hm, j, hj, hne⟩
    · have hbw := hw b (List.mem_of_getElem? hb)
      unfold Box.ob at hbw ⊢
      rw [hty] at hbw
      dsimp only at hbw ⊢
      rw [hty]
      have ea : a = ⟨b.id, a.off, none⟩ := by cases a; simp_all
      rw [ea]
      have := blk_set (u := v) hbw a.off
      rw [this, List.setIfInBounds_toArray]
    · have := hw x hm
      rw [Below.heap_setCell w a v x.id (by rw [← hi]; exact nodup_idx hn hj hb hne)]
      exact this
  · have : x.id ∈ bs.map Box.id := by rw [← setB_ids bs h a.off v]; exact List.mem_map_of_mem hx
    obtain ⟨c, hc, e⟩ := List.mem_map.1 this
    exact .inl ⟨c, hc, e⟩
  · have : x.id ∈ (setB bs h a.off v).map Box.id := by rw [setB_ids]; exact List.mem_map_of_mem hx
    obtain ⟨c, hc, e⟩ := List.mem_map.1 this
    exact ⟨c, hc, e⟩
theorem wb_lt {bs : List Box} {w : World} (hw : WB bs w) : ∀ b ∈ bs, b.id < w.heap.size := fun b hb => (Array.getElem?_eq_some_iff.1 (hw b hb)).1
theorem newO_ext {bs : List Box} {w : World} (b : Box) (hi : b.id = w.heap.size) (hw : WB bs w) (hn : (bs.map Box.id).Nodup) : Ext bs (bs ++ [b]) w { w with heap := w.heap.push b.ob } := by
  refine ⟨rfl, rfl, rfl, by simp, fun k hk _ => by simp [Array.getElem?_push, Nat.ne_of_lt hk], fun x hx => ?_, fun x hx => ?_, fun x hx => ⟨x, List.mem_append_left _ hx, rfl⟩, ?_⟩
  · rcases List.mem_append.1 hx with hx | hx
    · have := hw x hx
      have hl := wb_lt hw x hx
      simp only [Array.getElem?_push, Nat.ne_of_lt hl, if_false]
      exact this
    · rw [List.mem_singleton.1 hx, hi]; simp
  · rcases List.mem_append.1 hx with hx | hx
    · exact .inl ⟨x, hx, rfl⟩
    · rw [List.mem_singleton.1 hx, hi]; exact .inr (Nat.le_refl _)
  · rw [List.map_append, List.nodup_append]
    refine ⟨hn, by simp, fun a ha b' hb => ?_⟩
    simp at hb
    subst hb
    obtain ⟨c, hc, rfl⟩ := List.mem_map.1 ha
    rw [hi]
    exact Nat.ne_of_lt (wb_lt hw c hc)
theorem new_ext {bs : List Box} {w : World} (c : Array Value) (t : TypeId) (hw : WB bs w) (hn : (bs.map Box.id).Nodup) : Ext bs (bs ++ [⟨w.heap.size, c.toList, t⟩]) w { w with heap := w.heap.push (.cells c t (0, 0)) } :=
  newO_ext ⟨w.heap.size, c.toList, t⟩ rfl hw hn
theorem putB_ids : ∀ (bs : List Box) (h : Nat) (o : Obj), (putB bs h o).map Box.id = bs.map Box.id
  | [], _, _ => rfl
  | b :: r, 0, o => rfl
  | b :: r, h + 1, o => by simp only [putB, List.map_cons, putB_ids r h o]
theorem putB_mem : ∀ {bs : List Box} {h : Nat} {o : Obj} {b x : Box}, bs[h]? = some b → x ∈ putB bs h o → x = ⟨b.id, [], .ob o⟩ ∨ (x ∈ bs ∧ ∃ j, bs[j]? = some x ∧ j ≠ h)
  | [], _, _, _, _, hb, _ => by cases hb
  | c :: r, 0, o, b, x, hb, hx => by
    cases hb
    rcases List.mem_cons.1 hx with rfl | hx
    · exact .inl rfl
    · obtain ⟨j, hj⟩ := List.mem_iff_getElem?.1 hx
      exact .inr ⟨List.mem_cons_of_mem _ hx, j + 1, hj, by omega⟩
  | c :: r, h + 1, o, b, x, hb, hx => by
    simp only [putB] at hx
    rcases List.mem_cons.1 hx with rfl | hx
    · exact .inr ⟨List.mem_cons_self .., 0, rfl, by omega⟩
    · rcases putB_mem (b := b) (by simpa using hb) hx with e | ⟨hm, j, hj, hne⟩
      · exact .inl e
      · exact .inr ⟨List.mem_cons_of_mem _ hm, j + 1, hj, by omega⟩
theorem putB_ext {bs : List Box} {h r : Nat} {b : Box} {w : World} (o : Obj) (hb : bs[h]? = some b) (hi : b.id = r) (hw : WB bs w) (hn : (bs.map Box.id).Nodup) : Ext bs (putB bs h o) w { w with heap := w.heap.setIfInBounds r o } := by
  have hlt := wb_lt hw b (List.mem_of_getElem? hb)
  refine ⟨rfl, rfl, rfl, by simp, fun k hk hf => ?_, fun x hx => ?_, fun x hx => ?_, fun x hx => ?_, by rw [putB_ids]; exact hn⟩
  · have hne : r ≠ k := fun e => hf b (List.mem_of_getElem? hb) (by rw [hi, e])
    simp [Array.getElem?_setIfInBounds_ne hne]
  · rcases putB_mem hb hx with rfl | ⟨hm, j, hj, hne⟩
    · subst hi
      simp [Box.ob, hlt]
    · have h1 := hw x hm
      have hne2 : r ≠ x.id := by rw [← hi]; exact nodup_idx hn hb hj (Ne.symm hne)
      show (w.heap.setIfInBounds r o)[x.id]? = _
      rw [Array.getElem?_setIfInBounds_ne hne2]
      exact h1
  · have : x.id ∈ bs.map Box.id := by rw [← putB_ids bs h o]; exact List.mem_map_of_mem hx
    obtain ⟨c, hc, e⟩ := List.mem_map.1 this
    exact .inl ⟨c, hc, e⟩
  · have : x.id ∈ (putB bs h o).map Box.id := by rw [putB_ids]; exact List.mem_map_of_mem hx
    obtain ⟨c, hc, e⟩ := List.mem_map.1 this
    exact ⟨c, hc, e⟩
theorem runA_sound {α : Type} (P : Program) (m : Sem α) : ∀ {bs bs' : List Box} {hs : List Nat} {g : Option Nat} {x : α} {ps : List (Nat × Nat)} {w : World}, runA P m bs hs g = some (x, bs', ps) → AllEq ps → WB bs w → (bs.map Box.id).Nodup →
    (∀ i, g = some i → i = w.heap.size) → ∃ w', m.run P w = .ok x w' ∧ Ext bs bs' w w' := by
  induction m with
  | pure a => intro bs bs' hs g x ps w h _ hw hn _; cases h; exact ⟨w, rfl, Ext.refl hw hn⟩
  | load m a k ih =>
    intro bs bs' hs g x ps w h he hw hn hg
    simp only [runA] at h
    cases hc : cellB bs (nextH hs).1 a with
    | none => rw [hc] at h; cases h
    | some p =>
      obtain ⟨v, i⟩ := p
      rw [hc] at h
      dsimp only at h
      cases hr : runA P (k v) bs (nextH hs).2 g with
      | none => rw [hr] at h; cases h
      | some q =>
        obtain ⟨y, bq, qs⟩ := q
        rw [hr] at h
        cases h
        have hcell := cellB_sound hc he.1 hw
        simp only [Sem.run, hcell.1]
        exact ih v hr he.2 hw hn hg
  | store m a v k ih =>
    intro bs bs' hs g x ps w h he hw hn hg
    simp only [runA] at h
    cases ho : oneCell v with
    | false => rw [ho] at h; cases h
    | true =>
      rw [ho] at h
      dsimp only at h
      cases hc : cellB bs (nextH hs).1 a with
      | none => rw [hc] at h; cases h
      | some p =>
        obtain ⟨u, i⟩ := p
        rw [hc] at h
        dsimp only at h
        cases hr : runA P k (setB bs (nextH hs).1 a.off v) (nextH hs).2 g with
        | none => rw [hr] at h; cases h
        | some q =>
          obtain ⟨y, bq, qs⟩ := q
          rw [hr] at h
          cases h
          obtain ⟨hcell, hfr, hsp, b, t, hb, hid, hcv, hty⟩ := cellB_sound hc he.1 hw
          have hx := setB_ext (v := v) hb hid hsp hcv hty hw hn
          obtain ⟨w', hrun, hext⟩ := ih hr he.2 hx.wb hx.nodup (fun i hi => by rw [hg i hi]; simp [World.setCell])
          refine ⟨w', ?_, hx.trans hext⟩
          rw [← hrun]
          cases v <;> first | (simp [oneCell] at ho; done) | (simp only [Sem.run, hcell, hfr, Bool.false_eq_true, if_false])
  | new o k ih =>
    intro bs bs' hs g x ps w h he hw hn hg
    cases g with
    | none => cases h
    | some g =>
      have hgw := hg g rfl
      subst hgw
      have other : isC o = false → runA P (k w.heap.size) (bs ++ [⟨w.heap.size, [], .ob o⟩]) hs none = some (x, bs', ps) → ∃ w', (Sem.new o k).run P w = .ok x w' ∧ Ext bs bs' w w' := fun hc h => by
        have hx := newO_ext ⟨w.heap.size, [], .ob o⟩ rfl hw hn
        obtain ⟨w', hrun, hext⟩ := ih w.heap.size h he hx.wb hx.nodup (fun i hi => by cases hi)
        exact ⟨w', by simpa only [Sem.run] using hrun, hx.trans hext⟩
      cases o with
      | cells c t fr =>
        obtain ⟨f1, f2⟩ := fr
        cases f1 with
        | succ _ => cases h
        | zero =>
          cases f2 with
          | succ _ => cases h
          | zero =>
            have hx := new_ext c t hw hn
            obtain ⟨w', hrun, hext⟩ := ih w.heap.size h he hx.wb hx.nodup (fun i hi => by cases hi)
            exact ⟨w', by simpa only [Sem.run] using hrun, hx.trans hext⟩
      | _ => exact other rfl h
  | getObj r k ih =>
    intro bs bs' hs g x ps w h he hw hn hg
    simp only [runA] at h
    cases hc : obB bs (nextH hs).1 with
    | none => rw [hc] at h; cases h
    | some p =>
      obtain ⟨o, i⟩ := p
      rw [hc] at h
      dsimp only at h
      cases hr : runA P (k o) bs (nextH hs).2 g with
      | none => rw [hr] at h; cases h
      | some q =>
        obtain ⟨y, bq, qs⟩ := q
        rw [hr] at h
        cases h
        obtain ⟨h1, h2, _⟩ := obB_sound hc he.1 hw
        rw [run_getObj h1 h2]
        exact ih o hr he.2 hw hn hg
  | setObj r o k ih =>
    intro bs bs' hs g x ps w h he hw hn hg
    simp only [runA] at h
    cases hoc : isC o with
    | true => rw [hoc] at h; cases h
    | false =>
      rw [hoc] at h
      dsimp only at h
      cases hc : obB bs (nextH hs).1 with
      | none => rw [hc] at h; cases h
      | some p =>
        obtain ⟨u, i⟩ := p
        rw [hc] at h
        dsimp only at h
        cases hr : runA P k (putB bs (nextH hs).1 o) (nextH hs).2 g with
        | none => rw [hr] at h; cases h
        | some q =>
          obtain ⟨y, bq, qs⟩ := q
          rw [hr] at h
          cases h
          obtain ⟨h1, h2, b, hb, hid⟩ := obB_sound hc he.1 hw
          have hx := putB_ext o hb hid hw hn
          obtain ⟨w', hrun, hext⟩ := ih hr he.2 hx.wb hx.nodup (fun i hi => by rw [hg i hi]; simp)
          refine ⟨w', ?_, hx.trans hext⟩
          rw [run_setObj h1 h2]
          exact hrun
  | program k ih => intro bs bs' hs g x ps w h he hw hn hg; simp only [runA] at h; exact ih P h he hw hn hg
  | mark m k ih => intro bs bs' hs g x ps w h he hw hn hg; simp only [runA] at h; exact ih h he hw hn hg
  | _ => intros; rename_i h _ _ _ _; cases h
end Go.Proofs.YtgknelgplmohoaaDoor.X
end
section
namespace Go.Proofs.YtgknelgplmohoaaDoor.X
open Go.RowKit Go.Proofs.YtgknelgplmohoaaDoorV.PrintWords Go.Proofs.YtgknelgplmohoaaDoorV.PrintLast
set_option linter.unusedVariables false
set_option linter.unusedSimpArgs false
structure Base where
  w : World
  M : List Nat
  df : List Deferred
structure Kept (b : Base) (w : World) : Prop where
  os : w.os = b.w.os
  tape : w.tape = b.w.tape
  output : w.output = b.w.output
  size : b.w.heap.size ≤ w.heap.size
  block : ∀ k, k < b.w.heap.size → k ∉ b.M → w.heap[k]? = b.w.heap[k]?
theorem Kept.of {w w' : World} {M : List Nat} (h : Below w.heap.size w w') : Kept ⟨w, M, []⟩ w' := ⟨h.os, h.tape, h.output, h.size, fun k hk _ => h.block k hk⟩
theorem Kept.out {w w' : World} (h : Kept ⟨w, [], []⟩ w') : Below w.heap.size w w' := ⟨h.os, h.tape, h.output, h.size, fun k hk => h.block k hk (by simp)⟩
theorem Kept.then {b : Base} {w w' : World} (h : Kept b w) (k : Below w.heap.size w w') : Kept b w' :=
  ⟨k.os.trans h.os, k.tape.trans h.tape, k.output.trans h.output, Nat.le_trans h.size k.size, fun i hi hm => (k.block i (Nat.lt_of_lt_of_le hi h.size)).trans (h.block i hi hm)⟩
theorem Kept.drew {b : Base} {w : World} (h : Kept b w) : Kept b w.drew := ⟨h.os, h.tape, h.output, h.size, h.block⟩
structure Cx where
  P : Program
  n : Nat
  B : List Nat
  w0 : Base
  rd : Option Nat
abbrev Cx.F (X : Cx) : Fence := { Fence.wide with round := X.rd }
theorem callsX {X : Cx} {n : Nat} {f : FuncId} {args : Array Value} {w : World} {R : Ending → World → Prop} (h : Calls X.P f args w R) : CallsIn X.F n X.P f args w R := callsIn_wide.2 h
theorem opIn {X : Cx} {o : Oper} {a : Act} {w : World} {next : Act → World → Prop} {Q : Exit → Act → World → Prop} {r : Result Next} (hp : plainOp o.op = true) (hr : (execOp a.eval o).run X.P w = r) (h : o.uponIn X.F 0 X.P a next Q r) : o.wpIn X.F 0 X.P a w next Q :=
  ⟨fun _ _ => trivial, by rw [Oper.semAt_eq _ _ _ (plain_defer hp), hr]; exact h⟩
theorem opV {X : Cx} {o : Oper} {a : Act} {w w' : World} {next : Act → World → Prop} {Q : Exit → Act → World → Prop} {v : Value} (hp : plainOp o.op = true) (hr : (execOp a.eval o).run X.P w = .ok (.value v) w') (h : next (a.put o.dst v) w') : o.wpIn X.F 0 X.P a w next Q :=
  opIn hp hr h
theorem opS {X : Cx} {o : Oper} {a : Act} {w w' : World} {next : Act → World → Prop} {Q : Exit → Act → World → Prop} (hp : plainOp o.op = true) (hr : (execOp a.eval o).run X.P w = .ok .skip w') (h : next (a.put o.dst undef) w') : o.wpIn X.F 0 X.P a w next Q :=
  opIn hp hr h
theorem opE {X : Cx} {o : Oper} {a : Act} {w w' : World} {next : Act → World → Prop} {Q : Exit → Act → World → Prop} {f : FuncId} {args : Array Value} (hp : plainOp o.op = true) (hr : (execOp a.eval o).run X.P w = .ok (.enter f args) w')
    (h : Calls X.P f args w' fun
      | .returned v, w'' => next (a.put o.dst v) w''
      | .panicked chain, w'' => Q (.panic chain) a w''
      | .outgrown, _ => LetsOut Q) : o.wpIn X.F 0 X.P a w next Q :=
  opIn hp hr ⟨fun z => (by cases z), callsX h⟩
abbrev Cx.fr (X : Cx) : Nat × List Deferred := (X.n, X.w0.df)
def away (B : List Nat) (bs : List Box) (k : Nat) : Prop := k ∉ B ∧ ∀ b ∈ bs, k ≠ b.id
structure Holds (X : Cx) (s : St) (w : World) : Prop where
  below : Kept X.w0 w
  box : WB s.bs w
  new : ∀ b ∈ s.bs, X.w0.w.heap.size ≤ b.id ∨ b.id ∈ X.w0.M
  nodup : (s.bs.map Box.id).Nodup
  fact : ∀ F ∈ s.fs, Foot F w (away X.B s.bs)
  old : ∀ k ∈ X.B, k < X.w0.w.heap.size ∧ k ∉ X.w0.M
theorem Holds.put {X : Cx} {s : St} {w : World} (h : Holds X s w) (d : Option Nat) (v : Value) : Holds X (s.put d v) w := by
  cases d with
  | none => exact h
  | some d => exact ⟨h.below, h.box, h.new, h.nodup, h.fact, h.old⟩
theorem Holds.env {X : Cx} {s : St} {w : World} (h : Holds X s w) (e : List (Nat × Value)) : Holds X ⟨e, s.bs, s.fs⟩ w := ⟨h.below, h.box, h.new, h.nodup, h.fact, h.old⟩
theorem Holds.drew {X : Cx} {s : St} {w : World} (h : Holds X s w) : Holds X s w.drew :=
  ⟨h.below.drew, h.box, h.new, h.nodup, fun F hF => (h.fact F hF).step (fun _ _ _ => rfl), h.old⟩
theorem Holds.ext {X : Cx} {s : St} {w w' : World} (h : Holds X s w) {bs' : List Box} (he : Ext s.bs bs' w w') (e : List (Nat × Value)) : Holds X ⟨e, bs', s.fs⟩ w' := by
  have hsz := h.below.size
  refine ⟨⟨he.os.trans h.below.os, he.tape.trans h.below.tape, he.output.trans h.below.output, Nat.le_trans hsz he.size, fun k hk hm => ?_⟩, he.wb, fun b hb => ?_, he.nodup, fun F hF => ?_, h.old⟩
  · exact (he.far k (Nat.lt_of_lt_of_le hk hsz) (fun b hb e => (h.new b hb).elim (fun z => by omega) (fun z => hm (e ▸ z)))).trans (h.below.block k hk hm)
  · rcases he.ids b hb with ⟨c, hc, e⟩ | e
    · rw [← e]; exact h.new c hc
    · exact .inl (by omega)
  · intro W' hW
    refine h.fact F hF W' (fun k hk hlt => ?_)
    refine (hW k ⟨hk.1, fun b hb e => ?_⟩ (Nat.lt_of_lt_of_le hlt he.size)).trans (he.far k hlt hk.2)
    rcases he.ids b hb with ⟨c, hc, e'⟩ | e'
    · exact hk.2 c hc (e.trans e'.symm)
    · omega
theorem Holds.call {X : Cx} {s : St} {w w' : World} (h : Holds X s w) (hb : Below w.heap.size w w') : Holds X s w' := by
  refine ⟨?_, fun b hm => (hb.block b.id (wb_lt h.box b hm)).trans (h.box b hm), h.new, h.nodup, fun F hF => (h.fact F hF).step (fun k _ hlt => hb.block k hlt), h.old⟩
  exact h.below.then hb
theorem Holds.facts {X : Cx} {s : St} {w : World} (h : Holds X s w) (fs : List Fact) (hf : ∀ F ∈ fs, Foot F w (away X.B s.bs)) : Holds X ⟨s.env, s.bs, fs ++ s.fs⟩ w :=
  ⟨h.below, h.box, h.new, h.nodup, fun F hF => (List.mem_append.1 hF).elim (hf F) (h.fact F), h.old⟩
def Ct (P : Program) (f : FuncId) (args : List Value) (pre : List Fact) {γ : Type} (val : γ → Value) (post : γ → List Fact) : Prop :=
  ∀ (B : List Nat) (w : World), (∀ k ∈ B, k < w.heap.size) → (∀ F ∈ pre, Foot F w (fun k => k ∉ B)) →
    Calls P f args.toArray w fun e w' => ∃ g : γ, e = .returned (val g) ∧ (∀ F ∈ post g, Foot F w' (fun k => k ∉ B)) ∧ Below w.heap.size w w'
def Lift (X : Cx) (K : Exit → St → Prop) : Exit → Act → World → Prop := fun e a w => ∃ s, Agree X.fr s a ∧ Holds X s w ∧ K e s
def SW (X : Cx) (c : Code) (s : St) (K : Exit → St → Prop) : Prop := ∀ a w, Agree X.fr s a → Holds X s w → c.wpIn X.F 0 X.P (Lift X K) a w
def thenK (M : St → Prop) (K : Exit → St → Prop) : Exit → St → Prop
  | .normal, s => M s
  | e, s => K e s
def blockK (id : Nat) (K : Exit → St → Prop) : Exit → St → Prop
  | .exit i, s => if i = id then K .normal s else K (.exit i) s
  | e, s => K e s
def Calm (K : Exit → St → Prop) : Prop := ∀ c s, ¬ K (.panic c) s
theorem Calm.then_ {K : Exit → St → Prop} (h : Calm K) (M : St → Prop) : Calm (thenK M K) := fun c s hk => h c s hk
theorem Calm.block_ {K : Exit → St → Prop} (h : Calm K) (id : Nat) : Calm (blockK id K) := fun c s hk => h c s hk
section
variable {X : Cx} {s : St} {K : Exit → St → Prop}
theorem SW_seq {x y : Code} (h : SW X x s (thenK (fun s' => SW X y s' K) K)) : SW X (.seq x y) s K := by
  intro a w ha hw
  refine wpIn_seq (wpIn_mono (h a w ha hw) (fun e a' w' hq => ?_))
  obtain ⟨s', ha', hw', hk⟩ := hq
  cases e with
  | normal => exact hk a' w' ha' hw'
  | _ => exact ⟨s', ha', hw', hk⟩
theorem SW_cut {x y : Code} (M : St → Prop) (h : SW X x s (thenK M K)) (h2 : ∀ s', M s' → SW X y s' K) : SW X (.seq x y) s K := by
  intro a w ha hw
  refine wpIn_seq (wpIn_mono (h a w ha hw) (fun e a' w' hq => ?_))
  obtain ⟨s', ha', hw', hk⟩ := hq
  cases e with
  | normal => exact h2 s' hk a' w' ha' hw'
  | _ => exact ⟨s', ha', hw', hk⟩
theorem SW_mono {c : Code} {K' : Exit → St → Prop} (h : SW X c s K') (hk : ∀ e s, K' e s → K e s) : SW X c s K := fun a w ha hw => wpIn_mono (h a w ha hw) (fun e _ _ ⟨s', h1, h2, h3⟩ => ⟨s', h1, h2, hk e s' h3⟩)
theorem SW_skip (h : K .normal s) : SW X .skip s K := fun a w ha hw => wpIn_skip ⟨s, ha, hw, h⟩
theorem SW_label {l : Nat} (h : K .normal s) : SW X (.label l) s K := fun a w ha hw => wpIn_label ⟨s, ha, hw, h⟩
theorem SW_exit {id : Nat} (h : K (.exit id) s) : SW X (.exit id) s K := fun a w ha hw => wpIn_exit ⟨s, ha, hw, h⟩
theorem SW_ret (h : K .ret s) : SW X .ret s K := fun a w ha hw => wpIn_ret ⟨s, ha, hw, h⟩
theorem SW_block {id : Nat} {c : Code} (h : SW X c s (blockK id K)) : SW X (.block id c) s K := by
  intro a w ha hw
  refine wpIn_block (wpIn_mono (h a w ha hw) (fun e a' w' hq => ?_))
  obtain ⟨s', ha', hw', hk⟩ := hq
  cases e with
  | exit i =>
    simp only [Exit.inBlock]
    simp only [blockK] at hk
    by_cases hi : i = id
    · rw [if_pos hi] at hk ⊢; exact ⟨s', ha', hw', hk⟩
    · rw [if_neg hi] at hk ⊢; exact ⟨s', ha', hw', hk⟩
  | _ => exact ⟨s', ha', hw', hk⟩
theorem SW_cond (t : Bool) {c : Operand} {x y : Code} (he : ev s.env c = some (.bool t)) (ht : t = true → SW X x s K) (hf : t = false → SW X y s K) : SW X (.cond c x y) s K := by
  intro a w ha hw
  refine wpIn_cond (t := t) (ha.ev he) ?_
  cases t with
  | true => exact ht rfl a w ha hw
  | false => exact hf rfl a w ha hw
theorem SW_loopn {c : Code} (I : Nat → St → Prop) (n : Nat) (h0 : I n s) (hr : ∀ n s, I n s → SW X c s (thenK (fun s' => ∃ m, m < n ∧ I m s') K)) : SW X (.loop c) s K := by
  intro a w ha hw b k cs hro hb hrm
  have key : ∀ n s a w, I n s → Agree X.fr s a → Holds X s w →
      ∃ e a' w', Lift X K e a' w' ∧ ArrivesIn (Machine.fenced X.P X.F) X.P (lone (b.atR a (.code c :: .inLoop c :: k)) cs w) b k cs e a' w' := by
    intro n
    induction n using Nat.strongRecOn with
    | _ n ih =>
      intro s a w hI ha hw
      obtain ⟨e, a₁, w₁, ⟨s', ha', hw', hq⟩, harr⟩ := hr n s hI a w ha hw b (.inLoop c :: k) cs hro hb hrm
      cases e with
      | normal =>
        obtain ⟨m, hlt, hI₁⟩ := hq
        obtain ⟨e₂, a₂, w₂, hq₂, harr₂⟩ := ih m hlt s' a₁ w₁ hI₁ ha' hw'
        exact ⟨e₂, a₂, w₂, hq₂, .of_steps (StepsIn.trans harr (.one (fenced_calm hb hrm rfl) stepR_inLoop)) harr₂⟩
      | _ => exact ⟨_, a₁, w₁, ⟨s', ha', hw', hq⟩, .pass (x := .inLoop c) rfl (fun _ _ => .inl (by simp)) harr⟩
  obtain ⟨e, a', w', hq, harr⟩ := key n s a w h0 ha hw
  exact ⟨e, a', w', hq, .of_steps (.one (fenced_calm hb hrm rfl) stepR_loop) harr⟩
end
def dstOk (n : Nat) (o : Oper) : Bool := match o.dst with
  | none => true
  | some d => Nat.blt d n
theorem dstOk_lt {n : Nat} {o : Oper} (h : dstOk n o = true) : ∀ t, o.dst = some t → t < n := by
  intro t ht
  unfold dstOk at h
  rw [ht] at h
  exact Nat.lt_of_lt_of_eq (by simpa [Nat.blt_eq] using h) rfl
def dup (l : List Nat) : List (Nat × Nat) := l.map fun g => (g, g)
theorem AllEq_dup : ∀ l : List Nat, AllEq (dup l)
  | [] => trivial
  | _ :: r => ⟨rfl, AllEq_dup r⟩
theorem AllEq_append : ∀ {a b : List (Nat × Nat)}, AllEq (a ++ b) → AllEq a ∧ AllEq b
  | [], _, h => ⟨trivial, h⟩
  | (_, _) :: _, _, h => ⟨⟨h.1, (AllEq_append h.2).1⟩, (AllEq_append h.2).2⟩
def NW (X : Cx) (ops : Array Oper) (i : Nat) (s : St) (K : Exit → St → Prop) : Prop := ∀ a w, Agree X.fr s a → Holds X s w → wpOpsIn X.F 0 X.P ops (Lift X K) (List.range' i (ops.size - i)) a w
section
variable {X : Cx} {s : St} {K : Exit → St → Prop} {ops : Array Oper}
theorem SW_region {id : Nat} (h : NW X ops 0 s K) : SW X (.region id ops false) s K := fun a w ha hw => wpIn_region (by rw [List.range_eq_range']; exact h a w ha hw)
theorem NW_nil (i : Nat) (hi : Nat.ble ops.size i = true) (h : K .normal s) : NW X ops i s K := by
  intro a w ha hw
  have : ops.size - i = 0 := by have := Nat.le_of_ble_eq_true hi; omega
  rw [this]
  exact ⟨s, ha, hw, h⟩
def fitO (n : Nat) (env : List (Nat × Value)) (o : Oper) : Bool := match dstOk n o with
  | false => false
  | true => match plainOp o.op with
    | false => false
    | true => allD env o.op.operands.toList
theorem NW_off {i : Nat} {o : Oper} (ho : ops[i]? = some o) (hg : guardD ops s.env o = some false) (hd : dstOk X.n o = true) (h : NW X ops (i + 1) (s.put o.dst undef) K) : NW X ops i s K := by
  intro a w ha hw
  have hlt : i < ops.size := (Array.getElem?_eq_some_iff.1 ho).1
  have : ops.size - i = (ops.size - (i + 1)) + 1 := by omega
  rw [this, List.range'_succ]
  simp only [wpOpsIn, ho, ha.guard hg]
  exact ⟨fun _ _ => trivial, h _ _ (ha.put _ (dstOk_lt hd) _) (hw.put _ _)⟩
theorem NW_on {i : Nat} {o : Oper} (ho : ops[i]? = some o) (hg : guardD ops s.env o = some true) (h : ∀ a w, Agree X.fr s a → Holds X s w → o.wpIn X.F 0 X.P a w (fun a' w' => wpOpsIn X.F 0 X.P ops (Lift X K) (List.range' (i + 1) (ops.size - (i + 1))) a' w') (Lift X K)) : NW X ops i s K := by
  intro a w ha hw
  have hlt : i < ops.size := (Array.getElem?_eq_some_iff.1 ho).1
  have : ops.size - i = (ops.size - (i + 1)) + 1 := by omega
  rw [this, List.range'_succ]
  simp only [wpOpsIn, ho, ha.guard hg]
  exact h a w ha hw
theorem fitO_spec {n : Nat} {env : List (Nat × Value)} {o : Oper} (h : fitO n env o = true) : dstOk n o = true ∧ plainOp o.op = true ∧ allD env o.op.operands.toList = true := by
  unfold fitO at h
  cases h1 : dstOk n o with
  | false => rw [h1] at h; cases h
  | true =>
    rw [h1] at h
    cases h2 : plainOp o.op with
    | false => rw [h2] at h; cases h
    | true => rw [h2] at h; exact ⟨rfl, rfl, h⟩
theorem NW_val {i : Nat} {o : Oper} (v : Value) (ho : ops[i]? = some o) (hg : guardD ops s.env o = some true) (hf : fitO X.n s.env o = true)
    (hv : ∀ w, WB s.bs w → (∀ F ∈ s.fs, F w) → (execOp (evD s.env) o).run X.P w = .ok (.value v) w) (h : NW X ops (i + 1) (s.put o.dst v) K) : NW X ops i s K := by
  obtain ⟨h1, h2, h3⟩ := fitO_spec hf
  refine NW_on ho hg (fun a w ha hw => ?_)
  refine opV h2 (by rw [ha.exec h2 h3]; exact hv w hw.box (fun F hF => (hw.fact F hF).now)) ?_
  exact h _ _ (ha.put _ (dstOk_lt h1) _) (hw.put _ _)
theorem NW_run {i : Nat} {o : Oper} {hs : List Nat} {v : Value} {bs' : List Box} {ps : List (Nat × Nat)} (ho : ops[i]? = some o) (hg : guardD ops s.env o = some true) (hf : fitO X.n s.env o = true)
    (hr : runA X.P (execOp (evD s.env) o) s.bs hs none = some (.value v, bs', ps) ∨ (runA X.P (execOp (evD s.env) o) s.bs hs none = some (.skip, bs', ps) ∧ v = undef)) (hp : AllEq ps) (h : NW X ops (i + 1) ((⟨s.env, bs', s.fs⟩ : St).put o.dst v) K) : NW X ops i s K := by
  obtain ⟨h1, h2, h3⟩ := fitO_spec hf
  refine NW_on ho hg (fun a w ha hw => ?_)
  have ha' : Agree X.fr ⟨s.env, bs', s.fs⟩ a := ⟨ha.size, ha.defers, ha.env⟩
  rcases hr with hr | ⟨hr, rfl⟩
  · obtain ⟨w', hrun, hext⟩ := runA_sound X.P _ hr hp hw.box hw.nodup (fun i hi => by cases hi)
    refine opV h2 (by rw [ha.exec h2 h3]; exact hrun) ?_
    exact h _ _ (ha'.put _ (dstOk_lt h1) _) ((hw.ext hext _).put _ _)
  · obtain ⟨w', hrun, hext⟩ := runA_sound X.P _ hr hp hw.box hw.nodup (fun i hi => by cases hi)
    refine opS h2 (by rw [ha.exec h2 h3]; exact hrun) ?_
    exact h _ _ (ha'.put _ (dstOk_lt h1) _) ((hw.ext hext _).put _ _)
theorem NW_new' {i : Nat} {o : Oper} {v : Nat → Value} {bs' : Nat → List Box} {ps : Nat → List (Nat × Nat)} (ho : ops[i]? = some o) (hg : guardD ops s.env o = some true) (hf : fitO X.n s.env o = true)
    (hr : ∀ g, runA X.P (execOp (evD s.env) o) s.bs [] (some g) = some (.value (v g), bs' g, ps g)) (hp : ∀ g, AllEq (ps g)) (h : ∀ g, NW X ops (i + 1) ((⟨s.env, bs' g, s.fs⟩ : St).put o.dst (v g)) K) : NW X ops i s K := by
  obtain ⟨h1, h2, h3⟩ := fitO_spec hf
  refine NW_on ho hg (fun a w ha hw => ?_)
  obtain ⟨w', hrun, hext⟩ := runA_sound X.P _ (hr w.heap.size) (hp _) hw.box hw.nodup (fun i hi => by cases hi; rfl)
  have ha' : Agree X.fr ⟨s.env, bs' w.heap.size, s.fs⟩ a := ⟨ha.size, ha.defers, ha.env⟩
  refine opV h2 (by rw [ha.exec h2 h3]; exact hrun) ?_
  exact h _ _ _ (ha'.put _ (dstOk_lt h1) _) ((hw.ext hext _).put _ _)
def hintOf : List (Nat × List Nat) → Nat → List Nat
  | [], _ => []
  | (k, h) :: r, t => match Nat.beq k t with
    | true => h
    | false => hintOf r t
def segN (P : Program) (n : Nat) (ops : Array Oper) (hs : List (Nat × List Nat)) : Nat → Nat → St → Option (St × List (Nat × Nat))
  | _, 0, s => some (s, [])
  | i, m + 1, s => match ops[i]? with
    | none => none
    | some o => match guardD ops s.env o with
      | none => none
      | some false => match dstOk n o with
        | false => none
        | true => segN P n ops hs (i + 1) m (s.put o.dst undef)
      | some true => match fitO n s.env o with
        | false => none
        | true => match runA P (execOp (evD s.env) o) s.bs (hintOf hs i) none with
          | some (.value v, bs', ps) => match segN P n ops hs (i + 1) m ((⟨s.env, bs', s.fs⟩ : St).put o.dst v) with
            | none => none
            | some (s', qs) => some (s', ps ++ qs)
          | some (.skip, bs', ps) => match segN P n ops hs (i + 1) m ((⟨s.env, bs', s.fs⟩ : St).put o.dst undef) with
            | none => none
            | some (s', qs) => some (s', ps ++ qs)
          | _ => none
theorem segN_sound {hs : List (Nat × List Nat)} {s' : St} : ∀ (m i : Nat) (s : St) (ps : List (Nat × Nat)), segN X.P X.n ops hs i m s = some (s', ps) → AllEq ps → NW X ops (i + m) s' K → NW X ops i s K
  | 0, i, s, ps, h, _, hk => by
    cases h
    exact hk
  | m + 1, i, s, ps, h, he, hk => by
    have hk' : NW X ops ((i + 1) + m) s' K := by rw [show i + 1 + m = i + (m + 1) by omega]; exact hk
    simp only [segN] at h
    cases ho : ops[i]? with
    | none => rw [ho] at h; cases h
    | some o =>
      rw [ho] at h
      dsimp only at h
      cases hg : guardD ops s.env o with
      | none => rw [hg] at h; cases h
      | some b =>
        rw [hg] at h
        cases b with
        | false =>
          dsimp only at h
          cases hd : dstOk X.n o with
          | false => rw [hd] at h; cases h
          | true =>
            rw [hd] at h
            exact NW_off ho hg hd (segN_sound m (i + 1) _ ps h he hk')
        | true =>
          dsimp only at h
          cases hf : fitO X.n s.env o with
          | false => rw [hf] at h; cases h
          | true =>
            rw [hf] at h
            dsimp only at h
            cases hr : runA X.P (execOp (evD s.env) o) s.bs (hintOf hs i) none with
            | none => rw [hr] at h; cases h
            | some r =>
              obtain ⟨nx, bs', qs⟩ := r
              rw [hr] at h
              cases nx with
              | value v =>
                dsimp only at h
                cases hq : segN X.P X.n ops hs (i + 1) m ((⟨s.env, bs', s.fs⟩ : St).put o.dst v) with
                | none => rw [hq] at h; cases h
                | some z =>
                  obtain ⟨s2, zs⟩ := z
                  rw [hq] at h
                  cases h
                  obtain ⟨e1, e2⟩ := AllEq_append he
                  exact NW_run ho hg hf (.inl hr) e1 (segN_sound m (i + 1) _ zs hq e2 hk')
              | skip =>
                dsimp only at h
                cases hq : segN X.P X.n ops hs (i + 1) m ((⟨s.env, bs', s.fs⟩ : St).put o.dst undef) with
                | none => rw [hq] at h; cases h
                | some z =>
                  obtain ⟨s2, zs⟩ := z
                  rw [hq] at h
                  cases h
                  obtain ⟨e1, e2⟩ := AllEq_append he
                  exact NW_run ho hg hf (.inr ⟨hr, rfl⟩) e1 (segN_sound m (i + 1) _ zs hq e2 hk')
              | _ => cases h
end
end Go.Proofs.YtgknelgplmohoaaDoor.X
end
section
namespace Go.Proofs.YtgknelgplmohoaaDoor.X
open Go.RowKit Go.Proofs.YtgknelgplmohoaaDoorV.PrintWords Go.Proofs.YtgknelgplmohoaaDoorV.PrintLast
set_option linter.unusedVariables false
set_option linter.unusedSimpArgs false
def In (F : Fact) : List Fact → Prop
  | [] => False
  | G :: r => F = G ∨ In F r
def Sub : List Fact → List Fact → Prop
  | [], _ => True
  | F :: r, fs => In F fs ∧ Sub r fs
theorem In.mem {F : Fact} : ∀ {fs : List Fact}, In F fs → F ∈ fs
  | _ :: _, h => h.elim (fun e => e ▸ List.mem_cons_self ..) (fun h => List.mem_cons_of_mem _ (In.mem h))
theorem Sub.mem : ∀ {a fs : List Fact}, Sub a fs → ∀ F ∈ a, F ∈ fs
  | _ :: _, _, h, F, hF => (List.mem_cons.1 hF).elim (fun e => e ▸ In.mem h.1) (fun hF => Sub.mem h.2 F hF)
def callN (P : Program) (n : Nat) (env : List (Nat × Value)) (o : Oper) : Option (FuncId × List Value) := match fitO n env o with
  | false => none
  | true => match runR P (execOp (evD env) o) [] [] with
    | some (.enter f args, []) => some (f, args.toList)
    | _ => none
theorem Ct.call {P : Program} {f : FuncId} {args : List Value} {pre : List Fact} {γ : Type} {val : γ → Value} {post : γ → List Fact} (hc : Ct P f args pre val post) {X : Cx} {s : St} {w : World} (hw : Holds X s w) (hp : Sub pre s.fs) :
    Calls P f args.toArray w fun e w' => ∃ g : γ, e = .returned (val g) ∧ Holds X ⟨s.env, s.bs, post g ++ s.fs⟩ w' ∧ Below w.heap.size w w' := by
  have hB : ∀ k ∈ X.B ++ s.bs.map Box.id, k < w.heap.size := fun k hk => by
    rcases List.mem_append.1 hk with hk | hk
    · exact Nat.lt_of_lt_of_le (hw.old k hk).1 hw.below.size
    · obtain ⟨b, hb, rfl⟩ := List.mem_map.1 hk
      exact wb_lt hw.box b hb
  have hto : ∀ k, k ∉ X.B ++ s.bs.map Box.id → away X.B s.bs k := fun k hk => ⟨fun h => hk (List.mem_append_left _ h), fun b hb e => hk (List.mem_append_right _ (e ▸ List.mem_map_of_mem hb))⟩
  have hof : ∀ k, away X.B s.bs k → k ∉ X.B ++ s.bs.map Box.id := fun k hk h => by
    rcases List.mem_append.1 h with h | h
    · exact hk.1 h
    · obtain ⟨b, hb, rfl⟩ := List.mem_map.1 h
      exact hk.2 b hb rfl
  refine (hc (X.B ++ s.bs.map Box.id) w hB (fun F hF => (hw.fact F (hp.mem F hF)).mono hof)).mono ?_
  rintro e w' ⟨g, rfl, hpost, hb⟩
  refine ⟨g, rfl, (hw.call hb).facts _ (fun F hF => (hpost F hF).mono hto), hb⟩
theorem callN_spec {P : Program} {n : Nat} {env : List (Nat × Value)} {o : Oper} {f : FuncId} {args : List Value} (h : callN P n env o = some (f, args)) : dstOk n o = true ∧ plainOp o.op = true ∧ allD env o.op.operands.toList = true ∧ ∀ w, (execOp (evD env) o).run P w = .ok (.enter f args.toArray) w := by
  unfold callN at h
  cases hf : fitO n env o with
  | false => rw [hf] at h; cases h
  | true =>
    rw [hf] at h
    obtain ⟨h1, h2, h3⟩ := fitO_spec hf
    refine ⟨h1, h2, h3, fun w => ?_⟩
    dsimp only at h
    cases hr : runR P (execOp (evD env) o) [] [] with
    | none => rw [hr] at h; cases h
    | some r =>
      obtain ⟨nx, ps⟩ := r
      rw [hr] at h
      cases nx with
      | enter f' ars =>
        cases ps with
        | nil =>
          cases h
          simpa using runR_sound P _ hr trivial (fun b hb => by cases hb)
        | cons _ _ => cases h
      | _ => cases h
section
variable {X : Cx} {s : St} {K : Exit → St → Prop} {ops : Array Oper}
theorem NW_call {i : Nat} {f : FuncId} {args : List Value} {pre : List Fact} {γ : Type} {val : γ → Value} {post : γ → List Fact} {d : Option Nat} (hc : Ct X.P f args pre val post)
    (hr : (match ops[i]? with
      | none => none
      | some o => match guardD ops s.env o with
        | some true => (callN X.P X.n s.env o).map fun r => (r, o.dst)
        | _ => none) = some ((f, args), d)) (hp : Sub pre s.fs) (h : ∀ g, NW X ops (i + 1) ((⟨s.env, s.bs, post g ++ s.fs⟩ : St).put d (val g)) K) : NW X ops i s K := by
  cases ho : ops[i]? with
  | none => rw [ho] at hr; cases hr
  | some o =>
    rw [ho] at hr
    dsimp only at hr
    cases hg : guardD ops s.env o with
    | none => rw [hg] at hr; cases hr
    | some b =>
      rw [hg] at hr
      cases b with
      | false => cases hr
      | true =>
        dsimp only at hr
        cases hcl : callN X.P X.n s.env o with
        | none => rw [hcl] at hr; cases hr
        | some r =>
          rw [hcl] at hr
          cases hr
          obtain ⟨h1, h2, h3, hrun⟩ := callN_spec hcl
          refine NW_on ho hg (fun a w ha hw => ?_)
          refine opE h2 (by rw [ha.exec h2 h3]; exact hrun w) ((hc.call hw hp).mono ?_)
          rintro e w' ⟨g, rfl, hw', hb⟩
          have ha' : Agree X.fr ⟨s.env, s.bs, post g ++ s.fs⟩ a := ⟨ha.size, ha.defers, ha.env⟩
          exact h g _ _ (ha'.put _ (dstOk_lt h1) _) (hw'.put _ _)
theorem NW_seg (j : Nat) (hs : List (Nat × List Nat)) (d : List (Nat × Value)) (bs' : List Box) (gs : List Nat) {i : Nat} (hr : segN X.P X.n ops hs i (j - i) s = some (⟨d ++ s.env, bs', s.fs⟩, dup gs)) (hj : i + (j - i) = j) (h : NW X ops j ⟨d ++ s.env, bs', s.fs⟩ K) : NW X ops i s K :=
  segN_sound (j - i) i s _ hr (AllEq_dup gs) (by rw [hj]; exact h)
def newN (P : Program) (n : Nat) (s : St) (o : Oper) (g : Nat) : Option (Option Nat × Value × List Box × List (Nat × Nat)) := match fitO n s.env o with
  | false => none
  | true => match runA P (execOp (evD s.env) o) s.bs [] (some g) with
    | some (.value v, bs', ps) => some (o.dst, v, bs', ps)
    | _ => none
theorem NW_new (t : Nat) (cs : List Value) (ty : TypeId) {i : Nat} (hr : ∀ g, (match ops[i]? with
      | none => none
      | some o => match guardD ops s.env o with
        | some true => newN X.P X.n s o g
        | _ => none) = some (some t, .pointer (some ⟨g, 0, none⟩), s.bs ++ [⟨g, cs, ty⟩], [])) (h : ∀ g, NW X ops (i + 1) ⟨(t, .pointer (some ⟨g, 0, none⟩)) :: s.env, s.bs ++ [⟨g, cs, ty⟩], s.fs⟩ K) : NW X ops i s K := by
  cases ho : ops[i]? with
  | none => rw [ho] at hr; cases hr 0
  | some o =>
    rw [ho] at hr
    dsimp only at hr
    cases hg : guardD ops s.env o with
    | none => rw [hg] at hr; cases hr 0
    | some b =>
      rw [hg] at hr
      cases b with
      | false => cases hr 0
      | true =>
        dsimp only at hr
        have hf : fitO X.n s.env o = true := by
          have := hr 0
          unfold newN at this
          cases hf : fitO X.n s.env o with
          | false => rw [hf] at this; cases this
          | true => rfl
        have hd : o.dst = some t := by
          have := hr 0
          unfold newN at this
          rw [hf] at this
          dsimp only at this
          split at this
          · injection this with e; injection e with e
          · cases this
        refine NW_new' ho hg hf (v := fun g => .pointer (some ⟨g, 0, none⟩)) (bs' := fun g => s.bs ++ [⟨g, cs, ty⟩]) (ps := fun _ => []) (fun g => ?_) (fun _ => trivial) (fun g => ?_)
        · have := hr g
          unfold newN at this
          rw [hf] at this
          dsimp only at this
          split at this
          · rename_i v bs' ps he
            rw [he]
            injection this with e
            injection e with e1 e2
            injection e2 with e2 e3
            injection e3 with e3 e4
            rw [e2, e3, e4]
          · cases this
        · rw [hd]; exact h g
theorem NW_case (t : Nat) (b : Bool) {i : Nat} (hl : look s.env t = some (.bool b)) (h1 : b = true → NW X ops i ⟨(t, .bool true) :: s.env, s.bs, s.fs⟩ K) (h2 : b = false → NW X ops i ⟨(t, .bool false) :: s.env, s.bs, s.fs⟩ K) : NW X ops i s K := by
  have hx : NW X ops i ⟨(t, .bool b) :: s.env, s.bs, s.fs⟩ K := by
    cases b with
    | true => exact h1 rfl
    | false => exact h2 rfl
  intro a w ha hw
  refine hx a w ⟨ha.size, ha.defers, fun k v hk => ?_⟩ (hw.env _)
  rw [look_cons] at hk
  split at hk
  · rename_i he; subst he; cases hk; exact ha.env t _ hl
  · exact ha.env k v hk
def argEnv : List Value → Nat → List (Nat × Value)
  | [], _ => []
  | v :: r, i => (i, v) :: argEnv r (i + 1)
theorem look_arg : ∀ (l : List Value) (i t : Nat) (v : Value), look (argEnv l i) t = some v → i ≤ t ∧ l[t - i]? = some v
  | [], _, _, _, h => by cases h
  | u :: r, i, t, v, h => by
    simp only [argEnv, look_cons] at h
    split at h
    · rename_i he; subst he; cases h; simp
    · rename_i he
      obtain ⟨h1, h2⟩ := look_arg r (i + 1) t v h
      refine ⟨by omega, ?_⟩
      have : t - i = (t - (i + 1)) + 1 := by omega
      rw [this]
      simpa using h2
def resS (env : List (Nat × Value)) : ResultVar → Sem Value
  | .tmp t => .pure (evD env (.tmp t))
  | .cell a t => (asAddr (evD env (.tmp a))).bind (loadVar t)
def resAll (env : List (Nat × Value)) : List ResultVar → Sem (List Value)
  | [] => .pure []
  | r :: rs => (resS env r).bind fun v => (resAll env rs).bind fun vs => .pure (v :: vs)
def resV : List Value → Value
  | [v] => v
  | vs => .tuple vs.toArray
def knownR (env : List (Nat × Value)) : List ResultVar → Bool
  | [] => true
  | .tmp t :: r => match look env t with
    | none => false
    | some _ => knownR env r
  | .cell t _ :: r => match look env t with
    | none => false
    | some _ => knownR env r
def outN (P : Program) (fn : Func) (s : St) (hs : List Nat) : Option (Value × List (Nat × Nat)) := match knownR s.env fn.results.toList with
  | false => none
  | true => match runR P (resAll s.env fn.results.toList) s.bs hs with
    | some (vs, ps) => some (resV vs, ps)
    | none => none
theorem look_getD {n : Nat × List Deferred} {s : St} {a : Act} (h : Agree n s a) {t : Nat} {v : Value} (hl : look s.env t = some v) : a.tmps.getD t undef = v := by
  simp [Array.getD_eq_getD_getElem?, h.env t v hl]
theorem resAll_run {P : Program} {n : Nat × List Deferred} {s : St} {a : Act} (h : Agree n s a) (f : ResultVar → Sem Value) (hf : ∀ r, f r = match r with
    | .tmp t => pure (a.tmps.getD t undef)
    | .cell p t => do loadVar t (← asAddr (a.tmps.getD p undef))) : ∀ {rs : List ResultVar} {vs : List Value} {w w' : World}, knownR s.env rs = true → (resAll s.env rs).run P w = .ok vs w' → (rs.mapM f).run P w = .ok vs w'
  | [], vs, w, w', _, hr => by rw [List.mapM_nil]; exact hr
  | r :: rs, vs, w, w', hk, hr => by
    have e1 : f r = resS s.env r ∧ knownR s.env rs = true := by
      rw [hf]
      cases r with
      | tmp t =>
        simp only [knownR] at hk
        cases hl : look s.env t with
        | none => rw [hl] at hk; cases hk
        | some v => rw [hl] at hk; exact ⟨by simp only [resS, evD, X.ev, hl, look_getD h hl]; rfl, hk⟩
      | cell p t =>
        simp only [knownR] at hk
        cases hl : look s.env p with
        | none => rw [hl] at hk; cases hk
        | some v => rw [hl] at hk; exact ⟨by simp only [resS, evD, X.ev, hl, look_getD h hl]; rfl, hk⟩
    have hb : (resAll s.env (r :: rs)) = (resS s.env r).bind fun v => (resAll s.env rs).bind fun vs => .pure (v :: vs) := rfl
    rw [hb] at hr
    rw [List.mapM_cons, e1.1]
    have run_b : ∀ {α β : Type} (m : Sem α) (k : α → Sem β), (m.bind k) = (m >>= k) := fun _ _ => rfl
    simp only [run_b, Sem.run_bind] at hr ⊢
    cases h1 : (resS s.env r).run P w with
    | halt x w1 => rw [h1] at hr; simp [Result.andThen] at hr
    | ok v w1 =>
      rw [h1] at hr
      simp only [Result.andThen] at hr ⊢
      cases h2 : (resAll s.env rs).run P w1 with
      | halt x w2 => rw [h2] at hr; simp at hr
      | ok us w2 =>
        rw [h2] at hr
        rw [resAll_run h f hf e1.2 h2]
        exact hr
theorem resV_of (vs : List Value) : (if h : vs.toArray.size = 1 then vs.toArray[0] else .tuple vs.toArray) = resV vs := by
  match vs with
  | [] => rfl
  | [_] => rfl
  | _ :: _ :: _ => rfl
theorem outN_spec {P : Program} {fn : Func} {n : Nat × List Deferred} {s : St} {a : Act} {hs : List Nat} {v : Value} {gs : List Nat} {w : World} (h : outN P fn s hs = some (v, dup gs)) (ha : Agree n s a) (hw : WB s.bs w) : (results fn a.tmps).run P w = .ok v w := by
  unfold outN at h
  cases hk : knownR s.env fn.results.toList with
  | false => rw [hk] at h; cases h
  | true =>
    rw [hk] at h
    dsimp only at h
    cases hr : runR P (resAll s.env fn.results.toList) s.bs hs with
    | none => rw [hr] at h; cases h
    | some r =>
      obtain ⟨vs, ps⟩ := r
      rw [hr] at h
      injection h with h
      injection h with h1 h2
      subst h1
      subst h2
      have hrun := runR_sound P _ hr (AllEq_dup gs) hw
      have key : ∀ f : ResultVar → Sem Value, (∀ r, f r = match r with
        | .tmp t => pure (a.tmps.getD t undef)
        | .cell p t => do loadVar t (← asAddr (a.tmps.getD p undef))) → Sem.run P (do
          let vs ← fn.results.mapM f
          pure (if h : vs.size = 1 then vs[0] else .tuple vs)) w = .ok (resV vs) w := by
        intro f hf
        rw [Array.mapM_eq_mapM_toList]
        simp only [Sem.run_bind, map_eq_pure_bind]
        rw [resAll_run ha f hf hk hrun]
        simp only [Result.andThen]
        show Result.ok _ w = Result.ok _ w
        rw [← resV_of]
      exact key _ (fun r => by cases r <;> rfl)
theorem foot_from {F : Fact} {w : World} {B : List Nat} {bs : List Box} (h : Foot F w (away B bs)) : Foot F w (fun k => k ∉ B) := h.mono (fun _ hk => hk.1)
def RetK (X : Cx) (fn : Func) {γ : Type} (val : γ → Value) (post : γ → List Fact) : Exit → St → Prop
  | .normal, s => ∃ g hs gs, outN X.P fn s hs = some (val g, dup gs) ∧ Sub (post g) s.fs
  | .ret, s => ∃ g hs gs, outN X.P fn s hs = some (val g, dup gs) ∧ Sub (post g) s.fs
  | _, _ => False
theorem RetK.calm {X : Cx} {fn : Func} {γ : Type} {val : γ → Value} {post : γ → List Fact} : Calm (RetK X fn val post) := fun _ _ h => h
theorem Holds.init {P : Program} {n : Nat} {B : List Nat} {w : World} {env : List (Nat × Value)} {pre : List Fact} (hB : ∀ k ∈ B, k < w.heap.size) (hp : ∀ F ∈ pre, Foot F w (fun k => k ∉ B)) : Holds ⟨P, n, B, ⟨w, [], []⟩, none⟩ ⟨env, [], pre⟩ w :=
  ⟨Kept.of (Below.refl _ _), (fun b hb => (by cases hb)), (fun b hb => (by cases hb)), by simp, fun F hF => (hp F hF).mono (fun _ hk => ⟨hk, fun b hb => (by cases hb)⟩), fun k hk => ⟨hB k hk, by simp⟩⟩
theorem ct_of {P : Program} {f : FuncId} {fn : Func} {c : Code} {args : List Value} {pre : List Fact} {γ : Type} {val : γ → Value} {post : γ → List Fact} (hf : P.funcs[f]? = some fn) (hb : fn.body = some c) (hn : Nat.ble args.length fn.ntmps = true)
    (h : ∀ B w0, SW ⟨P, fn.ntmps, B, w0, none⟩ c ⟨argEnv args 0, [], pre⟩ (RetK ⟨P, fn.ntmps, B, w0, none⟩ fn val post)) : Ct P f args pre val post := by
  intro B w hB hp
  have hn' := Nat.le_of_ble_eq_true hn
  refine calls_of_wp hf hb ?_
  have hag : Agree (fn.ntmps, []) ⟨argEnv args 0, [], pre⟩ { tmps := args.toArray ++ Array.replicate (fn.ntmps - args.toArray.size) undef, defers := [] } := by
    refine ⟨by simp; omega, rfl, fun t v hl => ?_⟩
    obtain ⟨_, h2⟩ := look_arg args 0 t v hl
    have hlt : t < args.length := (List.getElem?_eq_some_iff.1 (by simpa using h2)).1
    rw [Array.getElem?_append_left (by simpa using hlt)]
    simpa using h2
  refine wp_mono (wpIn_wide.1 (h B ⟨w, [], []⟩ _ w hag (Holds.init hB hp))) (fun e a' w' hq => ?_)
  obtain ⟨s, ha, hw, hk⟩ := hq
  cases e with
  | normal =>
    obtain ⟨g, hs, gs, ho, hsub⟩ := hk
    exact ⟨ha.defers, val g, outN_spec ho ha hw.box, g, rfl, fun F hF => foot_from (hw.fact F (hsub.mem F hF)), hw.below.out⟩
  | ret =>
    obtain ⟨g, hs, gs, ho, hsub⟩ := hk
    exact ⟨ha.defers, val g, outN_spec ho ha hw.box, g, rfl, fun F hF => foot_from (hw.fact F (hsub.mem F hF)), hw.below.out⟩
  | _ => exact hk.elim
structure Weak (s t : St) : Prop where
  env : ∀ k v, look t.env k = some v → look s.env k = some v
  bs : s.bs = t.bs
  fs : Sub t.fs s.fs
theorem SW_weak {X : Cx} {c : Code} {s t : St} {K : Exit → St → Prop} (h : Weak s t) (k : SW X c t K) : SW X c s K := by
  intro a w ha hw
  refine k a w ⟨ha.size, ha.defers, fun i v hv => ha.env i v (h.env i v hv)⟩ ⟨hw.below, h.bs ▸ hw.box, h.bs ▸ hw.new, h.bs ▸ hw.nodup, fun F hF => ?_, hw.old⟩
  have := hw.fact F (h.fs.mem F hF)
  rw [h.bs] at this
  exact this
def lookAll (e : List (Nat × Value)) : List (Nat × Value) → Prop
  | [] => True
  | (k, v) :: r => look e k = some v ∧ lookAll e r
theorem Weak.of {s t : St} (he : lookAll s.env t.env) (hb : s.bs = t.bs) (hf : Sub t.fs s.fs) : Weak s t := by
  refine ⟨?_, hb, hf⟩
  have key : ∀ (l : List (Nat × Value)), lookAll s.env l → ∀ k v, look l k = some v → look s.env k = some v := by
    intro l
    induction l with
    | nil => intro _ k v h; cases h
    | cons p r ih =>
      obtain ⟨a, b⟩ := p
      intro hl k v h
      rw [look_cons] at h
      split at h
      · rename_i e; subst e; cases h; exact hl.1
      · exact ih hl.2 k v h
  exact key t.env he
end
def pick : List Box → List Bool → List Box
  | b :: l, true :: m => b :: pick l m
  | _ :: l, false :: m => pick l m
  | _, _ => []
def RetM (X : Cx) (fn : Func) {γ : Type} (val : γ → Value) (bs' : γ → List Box) (post : γ → List Fact) : Exit → St → Prop
  | .normal, s => ∃ g m hs gs, outN X.P fn s hs = some (val g, dup gs) ∧ bs' g = pick s.bs m ∧ Sub (post g) s.fs
  | .ret, s => ∃ g m hs gs, outN X.P fn s hs = some (val g, dup gs) ∧ bs' g = pick s.bs m ∧ Sub (post g) s.fs
  | _, _ => False
theorem RetM.calm {X : Cx} {fn : Func} {γ : Type} {val : γ → Value} {bs' : γ → List Box} {post : γ → List Fact} : Calm (RetM X fn val bs' post) := fun _ _ h => h
def RetL (X : Cx) (fn : Func) (Z : Act → World → Prop) : Exit → St → Prop
  | .normal, s => ∀ a w, Agree X.fr s a → Holds X s w → Z a w
  | .ret, s => ∀ a w, Agree X.fr s a → Holds X s w → Z a w
  | _, _ => False
theorem RetL.calm {X : Cx} {fn : Func} {Z : Act → World → Prop} : Calm (RetL X fn Z) := fun _ _ h => h
end Go.Proofs.YtgknelgplmohoaaDoor.X
end
section
namespace Go.Proofs.YtgknelgplmohoaaDoor.X
open Go.RowKit Go.Proofs.YtgknelgplmohoaaDoorV.PrintWords Go.Proofs.YtgknelgplmohoaaDoorV.PrintLast
set_option linter.unusedVariables false
set_option linter.unusedSimpArgs false
def cnt : List Bool → Nat
  | [] => 0
  | true :: r => cnt r
  | false :: r => cnt r + 1
theorem cnt_set : ∀ (l : List Bool) (i : Nat), l.getD i true = false → cnt l = cnt (l.set i true) + 1
  | [], i, h => by simp at h
  | true :: r, 0, h => by simp at h
  | false :: r, 0, _ => rfl
  | true :: r, i + 1, h => by simpa [cnt] using cnt_set r i (by simpa using h)
  | false :: r, i + 1, h => by
    have := cnt_set r i (by simpa using h)
    simp only [List.set, cnt]
    omega
theorem cnt_rep : ∀ n : Nat, cnt (List.replicate n false) = n
  | 0 => rfl
  | n + 1 => by simp [List.replicate_succ, cnt, cnt_rep n]
abbrev Tb := Bool × List (List Nat × List Nat)
def RW (X : Cx) (ops : Array Oper) (ds : List Nat) (s0 : St) (lv : Bool) (l : List Bool) (s : St) (K : Exit → St → Prop) : Prop :=
  ∀ a w, Agree X.fr s a → Holds X s w → (lv = true → Holds X s0 w) → wpAnyLast X.P .any ops (Lift X K) (Holds X s0) ds (cnt l) l.toArray a w
section
variable {X : Cx} {s s0 : St} {K : Exit → St → Prop} {ops : Array Oper} {ds : List Nat} {lv : Bool} {l : List Bool} {T : Tb} {BB : List Nat}
theorem wideX {X : Cx} {c : Code} {s : St} {K : Exit → St → Prop} (hrd : X.rd = none) (h : ∀ a w, Agree X.fr s a → Holds X s w → c.wp X.P (Lift X K) a w) : SW X c s K := by
  obtain ⟨P, n, B, w0, rd⟩ := X
  cases hrd
  exact fun a w ha hw => wpIn_wide.2 (h a w ha hw)
theorem SW_draw {id : Nat} (T : Tb) (BB ds : List Nat) (l : List Bool) (hrd : X.rd = none) (hm : X.P.follows .mixedOrders = true) (hT : rtab .any ops = T) (hB : waitsOk T.2 BB = true) (hl : List.replicate ops.size false = l)
    (h : rtab .any ops = T → waitsOk T.2 BB = true → RW X ops ds s true l s K) : SW X (.region id ops true) s K := by
  refine wideX hrd ?_
  intro a w ha hw
  refine start_ (S := Holds X s) (ds := ds) l.toArray hm rfl ?_ hw.drew (fun hS => ?_)
  · rw [← hl]; simp
  · have := h hT hB a w.drew ha hw.drew (fun _ => hS)
    rw [← hl, cnt_rep] at this
    rw [← hl]
    exact this
theorem ready_un {i : Nat} (h : readyAt T.2 l i = true) : l.getD i true = false := by
  unfold readyAt at h
  rw [Bool.and_eq_true] at h
  simpa using h.1
theorem calm_lift {X : Cx} {K : Exit → St → Prop} (hK : Calm K) (c : List PanicEntry) (a : Act) (w : World) : ¬ Lift X K (.panic c) a w := fun ⟨s, _, _, h⟩ => hK c s h
theorem RW_float {i : Nat} {o : Oper} {v : Value} (hK : Calm K) (hT : rtab .any ops = T) (hB : waitsOk T.2 BB = true) (ho : ops[i]? = some o) (hd : dstOk X.n o = true)
    (hc : takeW T BB ds l (l.set i true) i = true) (hy : ∀ a, Agree X.fr s a → YieldsIf X.P ops (Holds X s0) o v a) (h : RW X ops ds s0 true (l.set i true) (s.put o.dst v) K) (hlv : lv = true) : RW X ops ds s0 lv l s K := by
  intro a w ha hw hS
  have hr : readyAt T.2 l i = true := by
    simp only [takeW, Bool.and_eq_true] at hc
    exact hc.1.1.1.2
  rw [cnt_set l i (ready_un hr)]
  exact take_ (l := l.toArray) (l.set i true).toArray ho rfl (take_ofW hT hB hc) (fun c a w hq => absurd hq (calm_lift hK c _ w)) (hy a ha) (hS hlv) rfl (h _ _ (ha.put _ (dstOk_lt hd) _) (hw.put _ _) (fun _ => hS hlv))
theorem RW_any {i : Nat} {o : Oper} {v : Value} (hK : Calm K) (hT : rtab .any ops = T) (ho : ops[i]? = some o) (hd : dstOk X.n o = true)
    (hc : anyT T l (l.set i true) i = true) (hy : ∀ a, Agree X.fr s a → Yields X.P ops o v a) (h : RW X ops ds s0 lv (l.set i true) (s.put o.dst v) K) : RW X ops ds s0 lv l s K := by
  intro a w ha hw hS
  have hr : readyAt T.2 l i = true := by
    simp only [anyT, Bool.and_eq_true] at hc
    exact hc.1.2
  rw [cnt_set l i (ready_un hr)]
  exact pure_ (l := l.toArray) (l.set i true).toArray ho rfl (any_of hT hc) (fun c a w hq => absurd hq (calm_lift hK c _ w)) (hy a ha) rfl (h _ _ (ha.put _ (dstOk_lt hd) _) (hw.put _ _) hS)
theorem ready_one {i : Nat} (hT : rtab .any ops = T) (h : (readyT T.2 l == [i]) = true) : Region.ready .any ops l.toArray = [i] ∧ l.getD i true = false := by
  subst hT
  have h' : readyT (rtab .any ops).2 l = [i] := by simpa using h
  refine ⟨by rw [ready_eq]; exact h', ?_⟩
  have hm : i ∈ readyT (rtab .any ops).2 l := by rw [h']; simp
  unfold readyT at hm
  exact ready_un (T := rtab .any ops) (List.mem_filter.1 hm).2
def RWs (X : Cx) (ops : Array Oper) (ds : List Nat) (s0 : St) (lv : Bool) (l : List Bool) (s : St) (K : Exit → St → Prop) (i : Nat) : Prop :=
  ∀ a w, Agree X.fr s a → Holds X s w → (lv = true → Holds X s0 w) → wpOp X.P ops (Lift X K) i (fun a' w' => (i ∉ ds → Holds X s0 w → Holds X s0 w') ∧ wpAnyLast X.P .any ops (Lift X K) (Holds X s0) ds (cnt (l.set i true)) (l.set i true).toArray a' w') a w
theorem RW_one {i : Nat} (hT : rtab .any ops = T) (hr : (readyT T.2 l == [i]) = true) (h : RWs X ops ds s0 lv l s K i) : RW X ops ds s0 lv l s K := by
  intro a w ha hw hS
  obtain ⟨h1, h2⟩ := ready_one hT hr
  rw [cnt_set l i h2]
  refine wpAnyLast_all h1 (by simp) (fun j hj => ?_)
  have : j = i := by simpa using hj
  subst this
  have hh := h a w ha hw hS
  simpa using hh
theorem RW_two {i j : Nat} (hT : rtab .any ops = T) (hr : (readyT T.2 l == [i, j]) = true) (h1 : RWs X ops ds s0 lv l s K i) (h2 : RWs X ops ds s0 lv l s K j) : RW X ops ds s0 lv l s K := by
  intro a w ha hw hS
  subst hT
  have h' : readyT (rtab .any ops).2 l = [i, j] := by simpa using hr
  have hun : ∀ k ∈ [i, j], l.getD k true = false := by
    intro k hk
    rw [← h'] at hk
    unfold readyT at hk
    exact ready_un (T := rtab .any ops) (List.mem_filter.1 hk).2
  have hc : cnt (l.set i true) = cnt (l.set j true) := by
    have e1 := cnt_set l i (hun i (by simp))
    have e2 := cnt_set l j (hun j (by simp))
    omega
  rw [cnt_set l i (hun i (by simp))]
  refine wpAnyLast_all (rs := [i, j]) (by rw [ready_eq]; exact h') (by simp) (fun k hk => ?_)
  rcases List.mem_cons.1 hk with rfl | hk
  · have hh := h1 a w ha hw hS
    simpa using hh
  · have : k = j := by simpa using hk
    subst this
    have hh := h2 a w ha hw hS
    rw [hc]
    simpa using hh
theorem RWs_on {i : Nat} {o : Oper} (ho : ops[i]? = some o) (hg : guardD ops s.env o = some true)
    (h : ∀ a w, Agree X.fr s a → Holds X s w → (lv = true → Holds X s0 w) → o.wp X.P a w (fun a' w' => (i ∉ ds → Holds X s0 w → Holds X s0 w') ∧ wpAnyLast X.P .any ops (Lift X K) (Holds X s0) ds (cnt (l.set i true)) (l.set i true).toArray a' w') (Lift X K)) : RWs X ops ds s0 lv l s K i := by
  intro a w ha hw hS
  unfold wpOp
  simp only [ho, ha.guard hg, if_true]
  exact .inl (h a w ha hw hS)
theorem RW_on {i : Nat} {o : Oper} (hT : rtab .any ops = T) (ho : ops[i]? = some o) (hg : guardD ops s.env o = some true) (hr : (readyT T.2 l == [i]) = true)
    (h : ∀ a w, Agree X.fr s a → Holds X s w → (lv = true → Holds X s0 w) → o.wp X.P a w (fun a' w' => (i ∉ ds → Holds X s0 w → Holds X s0 w') ∧ wpAnyLast X.P .any ops (Lift X K) (Holds X s0) ds (cnt (l.set i true)) (l.set i true).toArray a' w') (Lift X K)) : RW X ops ds s0 lv l s K :=
  RW_one hT hr (RWs_on ho hg h)
theorem ext_below {bs bs' : List Box} {w w' : World} (he : Ext bs bs' w w') (hk : ∀ b ∈ bs, b ∈ bs') (hw : WB bs w) : Below w.heap.size w w' := by
  refine ⟨he.os, he.tape, he.output, he.size, fun k hlt => ?_⟩
  by_cases h : ∃ b ∈ bs, k = b.id
  · obtain ⟨b, hb, rfl⟩ := h
    exact (he.wb b (hk b hb)).trans (hw b hb).symm
  · exact he.far k hlt (fun b hb e => h ⟨b, hb, e⟩)
theorem RWs_new {i : Nat} {o : Oper} {v : Nat → Value} {nb : Nat → Box} (ho : ops[i]? = some o) (hg : guardD ops s.env o = some true) (hf : fitO X.n s.env o = true)
    (hr : ∀ g, runA X.P (execOp (evD s.env) o) s.bs [] (some g) = some (.value (v g), s.bs ++ [nb g], [])) (h : ∀ g, RW X ops ds s0 lv (l.set i true) ((⟨s.env, s.bs ++ [nb g], s.fs⟩ : St).put o.dst (v g)) K) : RWs X ops ds s0 lv l s K i := by
  obtain ⟨h1, h2, h3⟩ := fitO_spec hf
  refine RWs_on ho hg (fun a w ha hw hS => ?_)
  obtain ⟨w', hrun, hext⟩ := runA_sound X.P _ (hr w.heap.size) trivial hw.box hw.nodup (fun i hi => by cases hi; rfl)
  have hb := ext_below hext (fun b hb => List.mem_append_left _ hb) hw.box
  have ha' : Agree X.fr ⟨s.env, s.bs ++ [nb w.heap.size], s.fs⟩ a := ⟨ha.size, ha.defers, ha.env⟩
  unfold Oper.wp
  rw [ha.exec h2 h3, hrun, Oper.upon_value]
  exact ⟨fun _ h0 => h0.call hb, h _ _ _ (ha'.put _ (dstOk_lt h1) _) ((hw.ext hext _).put _ _) (fun hl => (hS hl).call hb)⟩
theorem RWs_call {i : Nat} {f : FuncId} {args : List Value} {pre : List Fact} {γ : Type} {val : γ → Value} {post : γ → List Fact} {d : Option Nat} (hc : Ct X.P f args pre val post)
    (hr : (match ops[i]? with
      | none => none
      | some o => match guardD ops s.env o with
        | some true => (callN X.P X.n s.env o).map fun r => (r, o.dst)
        | _ => none) = some ((f, args), d)) (hp : Sub pre s.fs) (h : ∀ g, RW X ops ds s0 lv (l.set i true) ((⟨s.env, s.bs, post g ++ s.fs⟩ : St).put d (val g)) K) : RWs X ops ds s0 lv l s K i := by
  cases ho : ops[i]? with
  | none => rw [ho] at hr; cases hr
  | some o =>
    rw [ho] at hr
    dsimp only at hr
    cases hg : guardD ops s.env o with
    | none => rw [hg] at hr; cases hr
    | some b =>
      rw [hg] at hr
      cases b with
      | false => cases hr
      | true =>
        dsimp only at hr
        cases hcl : callN X.P X.n s.env o with
        | none => rw [hcl] at hr; cases hr
        | some r =>
          rw [hcl] at hr
          cases hr
          obtain ⟨h1, h2, h3, hrun⟩ := callN_spec hcl
          refine RWs_on ho hg (fun a w ha hw hS => ?_)
          unfold Oper.wp
          rw [ha.exec h2 h3, hrun, Oper.upon_enter]
          refine (hc.call hw hp).mono ?_
          rintro e w' ⟨g, rfl, hw', hb⟩
          have ha' : Agree X.fr ⟨s.env, s.bs, post g ++ s.fs⟩ a := ⟨ha.size, ha.defers, ha.env⟩
          exact ⟨fun _ h0 => h0.call hb, h g _ _ (ha'.put _ (dstOk_lt h1) _) (hw'.put _ _) (fun hl => (hS hl).call hb)⟩
theorem RW_call {i : Nat} {f : FuncId} {args : List Value} {pre : List Fact} {γ : Type} {val : γ → Value} {post : γ → List Fact} {d : Option Nat} (hT : rtab .any ops = T) (hc : Ct X.P f args pre val post)
    (hr : (match readyT T.2 l == [i] with
      | false => none
      | true => match ops[i]? with
      | none => none
      | some o => match guardD ops s.env o with
        | some true => (callN X.P X.n s.env o).map fun r => (r, o.dst)
        | _ => none) = some ((f, args), d)) (hp : Sub pre s.fs) (h : ∀ g, RW X ops ds s0 lv (l.set i true) ((⟨s.env, s.bs, post g ++ s.fs⟩ : St).put d (val g)) K) : RW X ops ds s0 lv l s K := by
  cases hrd : (readyT T.2 l == [i]) with
  | false => rw [hrd] at hr; cases hr
  | true =>
    rw [hrd] at hr
    exact RW_one hT hrd (RWs_call hc hr hp h)
theorem RW_store {i : Nat} {o : Oper} {hs : List Nat} {bs' : List Box} {ps : List (Nat × Nat)} (hT : rtab .any ops = T) (ho : ops[i]? = some o) (hi : i ∈ ds) (hg : guardD ops s.env o = some true) (hf : fitO X.n s.env o = true) (hrd : (readyT T.2 l == [i]) = true)
    (hr : runA X.P (execOp (evD s.env) o) s.bs hs none = some (.skip, bs', ps)) (hp : AllEq ps) (h : RW X ops ds s0 false (l.set i true) ((⟨s.env, bs', s.fs⟩ : St).put o.dst undef) K) : RW X ops ds s0 lv l s K := by
  obtain ⟨h1, h2, h3⟩ := fitO_spec hf
  refine RW_on hT ho hg hrd (fun a w ha hw hS => ?_)
  have ha' : Agree X.fr ⟨s.env, bs', s.fs⟩ a := ⟨ha.size, ha.defers, ha.env⟩
  unfold Oper.wp
  rw [ha.exec h2 h3]
  obtain ⟨w', hrun, hext⟩ := runA_sound X.P _ hr hp hw.box hw.nodup (fun i hi => by cases hi)
  rw [hrun, Oper.upon_skip]
  exact ⟨fun hn => absurd hi hn, h _ _ (ha'.put _ (dstOk_lt h1) _) ((hw.ext hext _).put _ _) (fun hl => by cases hl)⟩
theorem RW_done (hT : rtab .any ops = T) (hr : (readyT T.2 l == []) = true) (h : K .normal s) : RW X ops ds s0 lv l s K := fun a w ha hw _ => done_ (l := l.toArray) (done_of hT hr) ⟨s, ha, hw, h⟩
def segD (P : Program) (n : Nat) (ops : Array Oper) (T : Tb) (BB ds : List Nat) (bs0 : List Box) (lv : Bool) : List (Nat × List Nat) → List Bool → St → Option (St × List Bool × List (Nat × Nat))
  | [], l, s => some (s, l, [])
  | (i, hs) :: r, l, s => match ops[i]? with
    | none => none
    | some o => match fitO n s.env o with
      | false => match dstOk n o with
        | false => none
        | true => match guardD ops s.env o with
          | some false => match anyT T l (l.set i true) i with
            | false => none
            | true => segD P n ops T BB ds bs0 lv r (l.set i true) (s.put o.dst undef)
          | _ => none
      | true => match guardD ops s.env o with
        | none => none
        | some false => match anyT T l (l.set i true) i with
          | false => none
          | true => segD P n ops T BB ds bs0 lv r (l.set i true) (s.put o.dst undef)
        | some true => match lv && takeW T BB ds l (l.set i true) i with
          | true => match runR P (execOp (evD s.env) o) bs0 hs with
            | some (.value v, ps) => match segD P n ops T BB ds bs0 lv r (l.set i true) (s.put o.dst v) with
              | none => none
              | some (s', l', qs) => some (s', l', ps ++ qs)
            | _ => none
          | false => match anyT T l (l.set i true) i with
            | false => none
            | true => match runR P (execOp (evD s.env) o) [] [] with
              | some (.value v, ps) => match segD P n ops T BB ds bs0 lv r (l.set i true) (s.put o.dst v) with
                | none => none
                | some (s', l', qs) => some (s', l', ps ++ qs)
              | _ => none
theorem segD_sound (hK : Calm K) (hT : rtab .any ops = T) (hB : waitsOk T.2 BB = true) {s' : St} {l' : List Bool} : ∀ (m : List (Nat × List Nat)) (l : List Bool) (s : St) (ps : List (Nat × Nat)), segD X.P X.n ops T BB ds s0.bs lv m l s = some (s', l', ps) → AllEq ps → RW X ops ds s0 lv l' s' K → RW X ops ds s0 lv l s K
  | [], l, s, ps, h, _, hk => by cases h; exact hk
  | (i, hs) :: r, l, s, ps, h, he, hk => by
    have off : ∀ (o : Oper), ops[i]? = some o → dstOk X.n o = true → guardD ops s.env o = some false → anyT T l (l.set i true) i = true → segD X.P X.n ops T BB ds s0.bs lv r (l.set i true) (s.put o.dst undef) = some (s', l', ps) → RW X ops ds s0 lv l s K := fun o ho hd hg hc h =>
      RW_any hK hT ho hd hc (fun a ha => .inr ⟨ha.guard hg, rfl⟩) (segD_sound hK hT hB r _ _ ps h he hk)
    simp only [segD] at h
    cases ho : ops[i]? with
    | none => rw [ho] at h; cases h
    | some o =>
      rw [ho] at h
      dsimp only at h
      cases hf : fitO X.n s.env o with
      | false =>
        rw [hf] at h
        dsimp only at h
        cases hd : dstOk X.n o with
        | false => rw [hd] at h; cases h
        | true =>
          rw [hd] at h
          dsimp only at h
          cases hg : guardD ops s.env o with
          | none => rw [hg] at h; cases h
          | some b =>
            rw [hg] at h
            cases b with
            | true => cases h
            | false =>
              dsimp only at h
              cases hc : anyT T l (l.set i true) i with
              | false => rw [hc] at h; cases h
              | true => rw [hc] at h; exact off o ho hd hg hc h
      | true =>
        rw [hf] at h
        obtain ⟨h1, h2, h3⟩ := fitO_spec hf
        dsimp only at h
        cases hg : guardD ops s.env o with
        | none => rw [hg] at h; cases h
        | some b =>
          rw [hg] at h
          cases b with
          | false =>
            dsimp only at h
            cases hc : anyT T l (l.set i true) i with
            | false => rw [hc] at h; cases h
            | true => rw [hc] at h; exact off o ho h1 hg hc h
          | true =>
            dsimp only at h
            cases ht : lv && takeW T BB ds l (l.set i true) i with
            | true =>
              rw [ht] at h
              rw [Bool.and_eq_true] at ht
              obtain ⟨ht1, ht2⟩ := ht
              dsimp only at h
              cases hr : runR X.P (execOp (evD s.env) o) s0.bs hs with
              | none => rw [hr] at h; cases h
              | some q =>
                obtain ⟨nx, qs⟩ := q
                rw [hr] at h
                cases nx with
                | value v =>
                  dsimp only at h
                  cases hq : segD X.P X.n ops T BB ds s0.bs lv r (l.set i true) (s.put o.dst v) with
                  | none => rw [hq] at h; cases h
                  | some z =>
                    obtain ⟨s2, l2, zs⟩ := z
                    rw [hq] at h
                    cases h
                    obtain ⟨e1, e2⟩ := AllEq_append he
                    have hk2 := segD_sound hK hT hB r _ _ zs hq e2 hk
                    rw [ht1] at hk2
                    exact RW_float hK hT hB ho h1 ht2 (fun a ha => .inl ⟨ha.guard hg, fun w hS => by rw [ha.exec h2 h3]; exact runR_sound X.P _ hr e1 hS.box⟩) hk2 ht1
                | _ => cases h
            | false =>
              rw [ht] at h
              dsimp only at h
              cases hc : anyT T l (l.set i true) i with
              | false => rw [hc] at h; cases h
              | true =>
                rw [hc] at h
                dsimp only at h
                cases hr : runR X.P (execOp (evD s.env) o) [] [] with
                | none => rw [hr] at h; cases h
                | some q =>
                  obtain ⟨nx, qs⟩ := q
                  rw [hr] at h
                  cases nx with
                  | value v =>
                    dsimp only at h
                    cases hq : segD X.P X.n ops T BB ds s0.bs lv r (l.set i true) (s.put o.dst v) with
                    | none => rw [hq] at h; cases h
                    | some z =>
                      obtain ⟨s2, l2, zs⟩ := z
                      rw [hq] at h
                      cases h
                      obtain ⟨e1, e2⟩ := AllEq_append he
                      exact RW_any hK hT ho h1 hc (fun a ha => .inl ⟨ha.guard hg, fun w => by rw [ha.exec h2 h3]; exact runR_sound X.P _ hr e1 (fun b hb => by cases hb)⟩) (segD_sound hK hT hB r _ _ zs hq e2 hk)
                  | _ => cases h
theorem RW_seg (m : List (Nat × List Nat)) (d : List (Nat × Value)) (l' : List Bool) (gs : List Nat) (hK : Calm K) (hT : rtab .any ops = T) (hB : waitsOk T.2 BB = true) (hr : segD X.P X.n ops T BB ds s0.bs lv m l s = some (⟨d ++ s.env, s.bs, s.fs⟩, l', dup gs)) (h : RW X ops ds s0 lv l' ⟨d ++ s.env, s.bs, s.fs⟩ K) : RW X ops ds s0 lv l s K :=
  segD_sound hK hT hB m l s _ hr (AllEq_dup gs) h
theorem RW_val {i : Nat} {o : Oper} (v : Value) (hK : Calm K) (hT : rtab .any ops = T) (hB : waitsOk T.2 BB = true) (ho : ops[i]? = some o) (hg : guardD ops s.env o = some true) (hf : fitO X.n s.env o = true) (hc : takeW T BB ds l (l.set i true) i = true)
    (hv : ∀ w, WB s0.bs w → (∀ F ∈ s0.fs, F w) → (execOp (evD s.env) o).run X.P w = .ok (.value v) w) (h : RW X ops ds s0 true (l.set i true) (s.put o.dst v) K) : RW X ops ds s0 true l s K := by
  obtain ⟨h1, h2, h3⟩ := fitO_spec hf
  exact RW_float hK hT hB ho h1 hc (fun a ha => .inl ⟨ha.guard hg, fun w hS => by rw [ha.exec h2 h3]; exact hv w hS.box (fun F hF => (hS.fact F hF).now)⟩) h rfl
theorem RW_case (t : Nat) (b : Bool) (hl : look s.env t = some (.bool b)) (h1 : b = true → RW X ops ds s0 lv l ⟨(t, .bool true) :: s.env, s.bs, s.fs⟩ K) (h2 : b = false → RW X ops ds s0 lv l ⟨(t, .bool false) :: s.env, s.bs, s.fs⟩ K) : RW X ops ds s0 lv l s K := by
  have hx : RW X ops ds s0 lv l ⟨(t, .bool b) :: s.env, s.bs, s.fs⟩ K := by
    cases b with
    | true => exact h1 rfl
    | false => exact h2 rfl
  intro a w ha hw
  refine hx a w ⟨ha.size, ha.defers, fun k v hk => ?_⟩ (hw.env _)
  rw [look_cons] at hk
  split at hk
  · rename_i he; subst he; cases hk; exact ha.env t _ hl
  · exact ha.env k v hk
end
end Go.Proofs.YtgknelgplmohoaaDoor.X
end
section
namespace Go.Proofs.YtgknelgplmohoaaDoor.X
open Go.RowKit Go.Proofs.YtgknelgplmohoaaDoorV.PrintWords Go.Proofs.YtgknelgplmohoaaDoorV.PrintLast
set_option linter.unusedVariables false
set_option linter.unusedSimpArgs false
def Row (k : IntKind) (A : Option Addr) (c : Nat) (xs : List Int) : Fact := fun w => (Kd.int k).C w A xs.length xs ∧ xs.length ≤ c
theorem Ct_drop {P : Program} {f : FuncId} {args : List Value} {F : Fact} {pre : List Fact} {γ : Type} {val : γ → Value} {post : γ → List Fact} (hF : ∀ w, F w) (h : Ct P f args (F :: pre) val post) : Ct P f args pre val post := fun B w hB hp =>
  h B w hB (fun G hG => (List.mem_cons.1 hG).elim (fun e => e ▸ fun W' _ => hF W') (hp G))
theorem Row_nil (k : IntKind) (c : Nat) (w : World) : Row k none c [] w := ⟨Kd.C_nil _ w, Nat.zero_le _⟩
def CtV (P : Program) (f : FuncId) (args : List Value) (pre : List Fact) (v : Value) : Prop := Ct P f args pre (γ := Unit) (fun _ => v) (fun _ => [])
def CtR (P : Program) (f : FuncId) (args : List Value) (pre : List Fact) (k : IntKind) (r : List Int) : Prop := Ct P f args pre (γ := Option Addr × Nat) (fun g => .slice g.1 r.length g.2) (fun g => [Row k g.1 g.2 r])
theorem ctV_of {P : Program} {f : FuncId} {args : List Value} {pre : List Fact} {v : Value} (h : ∀ w, (∀ F ∈ pre, F w) → Calls P f args.toArray w fun e w' => e = .returned v ∧ Below w.heap.size w w') : CtV P f args pre v := fun _ w _ hp =>
  (h w (fun F hF => (hp F hF).now)).mono (fun e w' ⟨h1, h2⟩ => ⟨(), h1, (fun F hF => (by cases hF)), h2⟩)
theorem ctV1 {P : Program} {f : FuncId} {args : List Value} {F : Fact} {v : Value} (h : ∀ w, F w → Calls P f args.toArray w fun e w' => e = .returned v ∧ Below w.heap.size w w') : CtV P f args [F] v := ctV_of (fun w hp => h w (hp F (List.mem_cons_self ..)))
section
variable {X : Cx} {env : List (Nat × Value)} {bs : List Box} {fs : List Fact} {K : Exit → St → Prop} {ops : Array Oper} {i : Nat}
theorem nq (j : Nat) (hs : List (Nat × List Nat)) (d : List (Nat × Value)) (bs' : List Box) (gs : List Nat) (hr : segN X.P X.n ops hs i (j - i) ⟨env, bs, fs⟩ = some (⟨d ++ env, bs', fs⟩, dup gs)) (hj : Nat.add i (Nat.sub j i) = j) (h : NW X ops j ⟨d ++ env, bs', fs⟩ K) : NW X ops i ⟨env, bs, fs⟩ K := NW_seg (s := ⟨env, bs, fs⟩) j hs d bs' gs hr hj h
theorem nr (j : Nat) (hs : List (Nat × List Nat)) (d : List (Nat × Value)) (gs : List Nat) (hr : segN X.P X.n ops hs i (j - i) ⟨env, bs, fs⟩ = some (⟨d ++ env, bs, fs⟩, dup gs)) (hj : Nat.add i (Nat.sub j i) = j) (h : NW X ops j ⟨d ++ env, bs, fs⟩ K) : NW X ops i ⟨env, bs, fs⟩ K := NW_seg (s := ⟨env, bs, fs⟩) j hs d bs gs hr hj h
def callAt (P : Program) (n : Nat) (ops : Array Oper) (i : Nat) (s : St) : Option ((FuncId × List Value) × Option Nat) := match ops[i]? with
  | none => none
  | some o => match guardD ops s.env o with
    | some true => (callN P n s.env o).map fun r => (r, o.dst)
    | _ => none
theorem nc (j d : Nat) {f : FuncId} {args : List Value} {pre : List Fact} {γ : Type} {val : γ → Value} {post : γ → List Fact} (hc : Ct X.P f args pre val post)
    (hr : callAt X.P X.n ops i ⟨env, bs, fs⟩ = some ((f, args), some d)) (hj : Nat.succ i = j) (hp : Sub pre fs) (h : ∀ g, NW X ops j ⟨(d, val g) :: env, bs, post g ++ fs⟩ K) : NW X ops i ⟨env, bs, fs⟩ K := by
  subst hj
  exact NW_call (s := ⟨env, bs, fs⟩) hc hr hp h
theorem nn (j t : Nat) (cs : List Value) (ty : TypeId) (hr : ∀ g, (match ops[i]? with
      | none => none
      | some o => match guardD ops env o with
        | some true => newN X.P X.n ⟨env, bs, fs⟩ o g
        | _ => none) = some (some t, .pointer (some ⟨g, 0, none⟩), bs ++ [⟨g, cs, ty⟩], [])) (hj : Nat.succ i = j) (h : ∀ g, NW X ops j ⟨(t, .pointer (some ⟨g, 0, none⟩)) :: env, bs ++ [⟨g, cs, ty⟩], fs⟩ K) : NW X ops i ⟨env, bs, fs⟩ K := by
  subst hj
  exact NW_new (s := ⟨env, bs, fs⟩) t cs ty hr h
theorem nv (j d : Nat) (v : Value) {o : Oper} (ho : ops[i]? = some o) (hg : guardD ops env o = some true) (hf : fitO X.n env o = true) (hd : o.dst = some d)
    (hv : ∀ w, WB bs w → (∀ F ∈ fs, F w) → (execOp (evD env) o).run X.P w = .ok (.value v) w) (hj : Nat.succ i = j) (h : NW X ops j ⟨(d, v) :: env, bs, fs⟩ K) : NW X ops i ⟨env, bs, fs⟩ K := by
  subst hj
  refine NW_val (s := ⟨env, bs, fs⟩) v ho hg hf hv ?_
  rw [hd]
  exact h
theorem ncase (t : Nat) (b : Bool) (hl : look env t = some (.bool b)) (h1 : b = true → NW X ops i ⟨(t, .bool true) :: env, bs, fs⟩ K) (h2 : b = false → NW X ops i ⟨(t, .bool false) :: env, bs, fs⟩ K) : NW X ops i ⟨env, bs, fs⟩ K := NW_case (s := ⟨env, bs, fs⟩) t b hl h1 h2
theorem sc (t : Bool) {c : Operand} {x y : Code} (he : ev env c = some (.bool t)) (ht : t = true → SW X x ⟨env, bs, fs⟩ K) (hf : t = false → SW X y ⟨env, bs, fs⟩ K) : SW X (.cond c x y) ⟨env, bs, fs⟩ K := SW_cond (s := ⟨env, bs, fs⟩) t he ht hf
theorem sct {c : Operand} {x y : Code} (he : ev env c = some (.bool true)) (ht : SW X x ⟨env, bs, fs⟩ K) : SW X (.cond c x y) ⟨env, bs, fs⟩ K := SW_cond (s := ⟨env, bs, fs⟩) true he (fun _ => ht) (fun h => by cases h)
theorem scf {c : Operand} {x y : Code} (he : ev env c = some (.bool false)) (ht : SW X y ⟨env, bs, fs⟩ K) : SW X (.cond c x y) ⟨env, bs, fs⟩ K := SW_cond (s := ⟨env, bs, fs⟩) false he (fun h => by cases h) (fun _ => ht)
theorem zs0 {fs : List Fact} : Sub [] fs := trivial
theorem zsS {F : Fact} {l fs : List Fact} (h : In F fs) (r : Sub l fs) : Sub (F :: l) fs := ⟨h, r⟩
theorem zi0 {F : Fact} {r : List Fact} : In F (F :: r) := .inl rfl
theorem ziS {F G : Fact} {r : List Fact} (h : In F r) : In F (G :: r) := .inr h
theorem ncv (j d : Nat) {f : FuncId} {args : List Value} {pre : List Fact} {v : Value} (hc : CtV X.P f args pre v)
    (hr : callAt X.P X.n ops i ⟨env, bs, fs⟩ = some ((f, args), some d)) (hj : Nat.succ i = j) (hp : Sub pre fs) (h : NW X ops j ⟨(d, v) :: env, bs, fs⟩ K) : NW X ops i ⟨env, bs, fs⟩ K := nc j d hc hr hj hp (fun _ => h)
theorem ncr (j d : Nat) {f : FuncId} {args : List Value} {pre : List Fact} {k : IntKind} {r : List Int} (hc : CtR X.P f args pre k r)
    (hr : callAt X.P X.n ops i ⟨env, bs, fs⟩ = some ((f, args), some d)) (hj : Nat.succ i = j) (hp : Sub pre fs) (h : ∀ A c, NW X ops j ⟨(d, .slice A r.length c) :: env, bs, Row k A c r :: fs⟩ K) : NW X ops i ⟨env, bs, fs⟩ K := nc j d hc hr hj hp (fun g => h g.1 g.2)
variable {s0 : St} {ds : List Nat} {lv : Bool} {l : List Bool} {T : Tb} {BB : List Nat}
theorem dr (m : List (Nat × List Nat)) (d : List (Nat × Value)) (l' : List Bool) (gs : List Nat) (hK : Calm K) (hT : rtab .any ops = T) (hB : waitsOk T.2 BB = true) (hr : segD X.P X.n ops T BB ds s0.bs lv m l ⟨env, bs, fs⟩ = some (⟨d ++ env, bs, fs⟩, l', dup gs)) (h : RW X ops ds s0 lv l' ⟨d ++ env, bs, fs⟩ K) : RW X ops ds s0 lv l ⟨env, bs, fs⟩ K := RW_seg (s := ⟨env, bs, fs⟩) m d l' gs hK hT hB hr h
def callAtD (P : Program) (n : Nat) (ops : Array Oper) (T : Tb) (l : List Bool) (i : Nat) (s : St) : Option ((FuncId × List Value) × Option Nat) := match readyT T.2 l == [i] with
  | false => none
  | true => match ops[i]? with
    | none => none
    | some o => match guardD ops s.env o with
      | some true => (callN P n s.env o).map fun r => (r, o.dst)
      | _ => none
theorem dc (l' : List Bool) (i d : Nat) {f : FuncId} {args : List Value} {pre : List Fact} {γ : Type} {val : γ → Value} {post : γ → List Fact} (hT : rtab .any ops = T) (hc : Ct X.P f args pre val post)
    (hr : callAtD X.P X.n ops T l i ⟨env, bs, fs⟩ = some ((f, args), some d)) (hl : l.set i true = l') (hp : Sub pre fs) (h : ∀ g, RW X ops ds s0 lv l' ⟨(d, val g) :: env, bs, post g ++ fs⟩ K) : RW X ops ds s0 lv l ⟨env, bs, fs⟩ K := by
  subst hl
  exact RW_call (s := ⟨env, bs, fs⟩) hT hc hr hp h
theorem dcv (l' : List Bool) (i d : Nat) {f : FuncId} {args : List Value} {pre : List Fact} {v : Value} (hT : rtab .any ops = T) (hc : CtV X.P f args pre v)
    (hr : callAtD X.P X.n ops T l i ⟨env, bs, fs⟩ = some ((f, args), some d)) (hl : l.set i true = l') (hp : Sub pre fs) (h : RW X ops ds s0 lv l' ⟨(d, v) :: env, bs, fs⟩ K) : RW X ops ds s0 lv l ⟨env, bs, fs⟩ K := dc l' i d hT hc hr hl hp (fun _ => h)
theorem dcr (l' : List Bool) (i d : Nat) {f : FuncId} {args : List Value} {pre : List Fact} {k : IntKind} {r : List Int} (hT : rtab .any ops = T) (hc : CtR X.P f args pre k r)
    (hr : callAtD X.P X.n ops T l i ⟨env, bs, fs⟩ = some ((f, args), some d)) (hl : l.set i true = l') (hp : Sub pre fs) (h : ∀ A c, RW X ops ds s0 lv l' ⟨(d, .slice A r.length c) :: env, bs, Row k A c r :: fs⟩ K) : RW X ops ds s0 lv l ⟨env, bs, fs⟩ K := dc l' i d hT hc hr hl hp (fun g => h g.1 g.2)
theorem dv (l' : List Bool) (i d : Nat) (v : Value) {o : Oper} (hK : Calm K) (hT : rtab .any ops = T) (hB : waitsOk T.2 BB = true) (ho : ops[i]? = some o) (hg : guardD ops env o = some true) (hf : fitO X.n env o = true) (hd : o.dst = some d) (hc : takeW T BB ds l (l.set i true) i = true) (hl : l.set i true = l')
    (hv : ∀ w, WB s0.bs w → (∀ F ∈ s0.fs, F w) → (execOp (evD env) o).run X.P w = .ok (.value v) w) (h : RW X ops ds s0 true l' ⟨(d, v) :: env, bs, fs⟩ K) : RW X ops ds s0 true l ⟨env, bs, fs⟩ K := by
  subst hl
  refine RW_val (s := ⟨env, bs, fs⟩) v hK hT hB ho hg hf hc hv ?_
  rw [hd]
  exact h
theorem dcase (t : Nat) (b : Bool) (hl : look env t = some (.bool b)) (h1 : b = true → RW X ops ds s0 lv l ⟨(t, .bool true) :: env, bs, fs⟩ K) (h2 : b = false → RW X ops ds s0 lv l ⟨(t, .bool false) :: env, bs, fs⟩ K) : RW X ops ds s0 lv l ⟨env, bs, fs⟩ K := RW_case (s := ⟨env, bs, fs⟩) t b hl h1 h2
end
section
variable {X : Cx} {env : List (Nat × Value)} {bs : List Box} {fs : List Fact} {K : Exit → St → Prop} {ops : Array Oper} {s0 : St} {ds : List Nat} {lv : Bool} {l : List Bool} {T : Tb} {i : Nat}
theorem ec (l' : List Bool) (d : Nat) {f : FuncId} {args : List Value} {pre : List Fact} {γ : Type} {val : γ → Value} {post : γ → List Fact} (hc : Ct X.P f args pre val post)
    (hr : callAt X.P X.n ops i ⟨env, bs, fs⟩ = some ((f, args), some d)) (hl : l.set i true = l') (hp : Sub pre fs) (h : ∀ g, RW X ops ds s0 lv l' ⟨(d, val g) :: env, bs, post g ++ fs⟩ K) : RWs X ops ds s0 lv l ⟨env, bs, fs⟩ K i := by
  subst hl
  exact RWs_call (s := ⟨env, bs, fs⟩) hc hr hp h
theorem en (l' : List Bool) (t : Nat) (cs : List Value) (ty : TypeId) {o : Oper} (ho : ops[i]? = some o) (hg : guardD ops env o = some true) (hf : fitO X.n env o = true) (hd : o.dst = some t)
    (hr : ∀ g, runA X.P (execOp (evD env) o) bs [] (some g) = some (.value (.pointer (some ⟨g, 0, none⟩)), bs ++ [⟨g, cs, ty⟩], [])) (hl : l.set i true = l') (h : ∀ g, RW X ops ds s0 lv l' ⟨(t, .pointer (some ⟨g, 0, none⟩)) :: env, bs ++ [⟨g, cs, ty⟩], fs⟩ K) : RWs X ops ds s0 lv l ⟨env, bs, fs⟩ K i := by
  subst hl
  refine RWs_new (s := ⟨env, bs, fs⟩) (v := fun g => .pointer (some ⟨g, 0, none⟩)) (nb := fun g => ⟨g, cs, ty⟩) ho hg hf hr (fun g => ?_)
  rw [hd]
  exact h g
theorem SW_know {c : Code} {s : St} {F : Fact} {φ : Prop} (hF : In F s.fs) (h : ∀ w, F w → φ) (k : φ → SW X c s K) : SW X c s K := fun a w ha hw => k (h w (hw.fact F hF.mem).now) a w ha hw
theorem NW_know {s : St} {F : Fact} {φ : Prop} {j : Nat} (hF : In F s.fs) (h : ∀ w, F w → φ) (k : φ → NW X ops j s K) : NW X ops j s K := fun a w ha hw => k (h w (hw.fact F hF.mem).now) a w ha hw
end
end Go.Proofs.YtgknelgplmohoaaDoor.X
end
section
namespace Go.Proofs.YtgknelgplmohoaaDoor.X
open Go.RowKit Go.Proofs.YtgknelgplmohoaaDoorV.PrintWords Go.Proofs.YtgknelgplmohoaaDoorV.PrintLast
set_option linter.unusedVariables false
set_option linter.unusedSimpArgs false
def getE (env : List (Nat × Value)) : List (Nat × Value) → Option (List (Nat × Value))
  | [] => some []
  | (k, _) :: r => match look env k with
    | none => none
    | some v => match getE env r with
      | none => none
      | some l => some ((k, v) :: l)
def fsts (ps : List (Nat × Nat)) : List (Nat × Nat) := ps.map fun p => (p.1, p.1)
theorem AllEq_fsts : ∀ l : List (Nat × Nat), AllEq (fsts l)
  | [] => trivial
  | _ :: r => ⟨rfl, AllEq_fsts r⟩
def upC : List Box → Nat → List Value → List Box
  | [], _, _ => []
  | b :: r, 0, cs => ⟨b.id, cs, b.ty⟩ :: r
  | b :: r, i + 1, cs => b :: upC r i cs
def upB : List Box → List (Nat × List Value) → List Box
  | bs, [] => bs
  | bs, (i, cs) :: r => upB (upC bs i cs) r
def segG (P : Program) (n : Nat) (ops : Array Oper) (hs : List (Nat × List Nat)) (i m : Nat) (s : St) (ks : List (Nat × Value)) : Option ((List (Nat × Value) × List Box) × List (Nat × Nat)) := match segN P n ops hs i m s with
  | none => none
  | some (s', ps) => match getE s'.env ks with
    | none => none
    | some d => some ((d, s'.bs), ps)
def psG (r : Option ((List (Nat × Value) × List Box) × List (Nat × Nat))) : List (Nat × Nat) := match r with
  | none => []
  | some (_, ps) => ps
theorem getE_all {e : List (Nat × Value)} : ∀ {ks d : List (Nat × Value)}, getE e ks = some d → lookAll e d
  | [], d, h => by cases h; trivial
  | (k, v) :: r, d, h => by
    simp only [getE] at h
    cases hl : look e k with
    | none => rw [hl] at h; cases h
    | some u =>
      rw [hl] at h
      dsimp only at h
      cases hg : getE e r with
      | none => rw [hg] at h; cases h
      | some l => rw [hg] at h; cases h; exact ⟨hl, getE_all hg⟩
theorem segN_keep {P : Program} {n : Nat} {ops : Array Oper} {hs : List (Nat × List Nat)} {s' : St} : ∀ (m i : Nat) (s : St) (ps : List (Nat × Nat)), segN P n ops hs i m s = some (s', ps) → s'.fs = s.fs
  | 0, i, s, ps, h => by cases h; rfl
  | m + 1, i, s, ps, h => by
    have pf : ∀ (t : St) (d : Option Nat) (v : Value), (t.put d v).fs = t.fs := fun t d v => by cases d <;> rfl
    simp only [segN] at h
    cases ho : ops[i]? with
    | none => rw [ho] at h; cases h
    | some o =>
      rw [ho] at h
      dsimp only at h
      cases hg : guardD ops s.env o with
      | none => rw [hg] at h; cases h
      | some b =>
        rw [hg] at h
        cases b with
        | false =>
          dsimp only at h
          cases hd : dstOk n o with
          | false => rw [hd] at h; cases h
          | true => rw [hd] at h; exact (segN_keep m (i + 1) _ ps h).trans (pf _ _ _)
        | true =>
          dsimp only at h
          cases hf : fitO n s.env o with
          | false => rw [hf] at h; cases h
          | true =>
            rw [hf] at h
            dsimp only at h
            split at h
            · split at h
              · cases h
              · rename_i hq; cases h; exact (segN_keep m (i + 1) _ _ hq).trans (pf _ _ _)
            · split at h
              · cases h
              · rename_i hq; cases h; exact (segN_keep m (i + 1) _ _ hq).trans (pf _ _ _)
            · cases h
def hasK : List (Nat × Value) → Nat → Bool
  | [], _ => false
  | (k, _) :: r, t => match Nat.beq k t with
    | true => true
    | false => hasK r t
theorem hasK_cons (k : Nat) (v : Value) (r : List (Nat × Value)) (t : Nat) : hasK ((k, v) :: r) t = if k = t then true else hasK r t := by
  show (match Nat.beq k t with
    | true => true
    | false => hasK r t) = _
  by_cases h : k = t
  · subst h
    rw [Nat.beq_refl k, if_pos rfl]
  · rw [if_neg h]
    have : Nat.beq k t = false := by
      cases hb : Nat.beq k t with
      | false => rfl
      | true => exact absurd (Nat.eq_of_beq_eq_true hb) h
    rw [this]
theorem hasK_look {e : List (Nat × Value)} {k : Nat} {v : Value} (h : look e k = some v) : hasK e k = true := by
  induction e with
  | nil => cases h
  | cons p r ih =>
    obtain ⟨a, b⟩ := p
    rw [look_cons] at h
    rw [hasK_cons]
    by_cases he : a = k
    · rw [if_pos he]
    · rw [if_neg he] at h ⊢; exact ih h
theorem over {env d e' : List (Nat × Value)} {k : Nat} {v : Value} (h : lookAll e' d) (hk : hasK d k = false → look env k = some v → look e' k = some v) (hv : look (d ++ env) k = some v) : look e' k = some v := by
  induction d with
  | nil => exact hk rfl hv
  | cons p r ih =>
    obtain ⟨a, b⟩ := p
    rw [List.cons_append, look_cons] at hv
    by_cases he : a = k
    · rw [if_pos he] at hv
      cases hv
      subst he
      exact h.1
    · rw [if_neg he] at hv
      refine ih h.2 (fun hf hl => hk ?_ hl) hv
      rw [hasK_cons, if_neg he]
      exact hf
def wr1 (ops : Array Oper) (env d : List (Nat × Value)) (i : Nat) : Bool := match ops[i]? with
  | none => false
  | some o => match o.dst with
    | none => true
    | some t => match hasK d t with
      | true => true
      | false => !hasK env t
def wrOk (ops : Array Oper) (env d : List (Nat × Value)) : Nat → Nat → Bool
  | _, 0 => true
  | i, m + 1 => match wr1 ops env d i with
    | false => false
    | true => wrOk ops env d (i + 1) m
theorem wr1_put {ops : Array Oper} {env d : List (Nat × Value)} {i : Nat} {o : Oper} (h : wr1 ops env d i = true) (ho : ops[i]? = some o) {k : Nat} {v : Value} (hd : hasK d k = false) (hl : look env k = some v) (s : St) (u : Value) : look (s.put o.dst u).env k = look s.env k := by
  unfold wr1 at h
  rw [ho] at h
  dsimp only at h
  cases hdst : o.dst with
  | none => rfl
  | some t =>
    rw [hdst] at h
    dsimp only at h
    show look ((t, u) :: s.env) k = _
    rw [look_cons, if_neg]
    rintro rfl
    rw [hd] at h
    dsimp only at h
    rw [hasK_look hl] at h
    cases h
theorem segN_look {P : Program} {n : Nat} {ops : Array Oper} {hs : List (Nat × List Nat)} {s' : St} {env d : List (Nat × Value)} {k : Nat} {v : Value} (hd : hasK d k = false) (hl : look env k = some v) : ∀ (m i : Nat) (s : St) (ps : List (Nat × Nat)), segN P n ops hs i m s = some (s', ps) → wrOk ops env d i m = true → look s'.env k = look s.env k
  | 0, i, s, ps, h, _ => by cases h; rfl
  | m + 1, i, s, ps, h, hw => by
    simp only [wrOk] at hw
    cases h1 : wr1 ops env d i with
    | false => rw [h1] at hw; cases hw
    | true =>
      rw [h1] at hw
      dsimp only at hw
      simp only [segN] at h
      cases ho : ops[i]? with
      | none => rw [ho] at h; cases h
      | some o =>
        rw [ho] at h
        dsimp only at h
        have hp := fun (s : St) u => wr1_put h1 ho hd hl s u
        cases hg : guardD ops s.env o with
        | none => rw [hg] at h; cases h
        | some b =>
          rw [hg] at h
          cases b with
          | false =>
            dsimp only at h
            cases hdo : dstOk n o with
            | false => rw [hdo] at h; cases h
            | true => rw [hdo] at h; exact (segN_look hd hl m (i + 1) _ ps h hw).trans (hp _ _)
          | true =>
            dsimp only at h
            cases hf : fitO n s.env o with
            | false => rw [hf] at h; cases h
            | true =>
              rw [hf] at h
              dsimp only at h
              split at h
              · split at h
                · cases h
                · rename_i hq; cases h; exact (segN_look hd hl m (i + 1) _ _ hq hw).trans (hp _ _)
              · split at h
                · cases h
                · rename_i hq; cases h; exact (segN_look hd hl m (i + 1) _ _ hq hw).trans (hp _ _)
              · cases h
theorem NW_env {X : Cx} {ops : Array Oper} {j : Nat} {e e' : List (Nat × Value)} {bs : List Box} {fs : List Fact} {K : Exit → St → Prop} (h : ∀ k v, look e k = some v → look e' k = some v) (hk : NW X ops j ⟨e, bs, fs⟩ K) : NW X ops j ⟨e', bs, fs⟩ K := fun a w ha hw => hk a w ⟨ha.size, ha.defers, fun k v hv => ha.env k v (h k v hv)⟩ (hw.env _)
theorem RW_env {X : Cx} {ops : Array Oper} {ds : List Nat} {s0 : St} {lv : Bool} {l : List Bool} {e e' : List (Nat × Value)} {bs : List Box} {fs : List Fact} {K : Exit → St → Prop} (h : ∀ k v, look e k = some v → look e' k = some v) (hk : RW X ops ds s0 lv l ⟨e, bs, fs⟩ K) : RW X ops ds s0 lv l ⟨e', bs, fs⟩ K := fun a w ha hw => hk a w ⟨ha.size, ha.defers, fun k v hv => ha.env k v (h k v hv)⟩ (hw.env _)
section
variable {X : Cx} {env : List (Nat × Value)} {bs : List Box} {fs : List Fact} {K : Exit → St → Prop} {ops : Array Oper} {i : Nat}
theorem seg_go {m : Nat} {hs : List (Nat × List Nat)} {d : List (Nat × Value)} {bs' : List Box} (hr : segG X.P X.n ops hs i m ⟨env, bs, fs⟩ d = some ((d, bs'), fsts (psG (segG X.P X.n ops hs i m ⟨env, bs, fs⟩ d)))) (hw : wrOk ops env d i m = true) (h : NW X ops (i + m) ⟨d ++ env, bs', fs⟩ K) : NW X ops i ⟨env, bs, fs⟩ K := by
  generalize hq : fsts (psG (segG X.P X.n ops hs i m ⟨env, bs, fs⟩ d)) = qs at hr
  have hall : AllEq qs := hq ▸ AllEq_fsts _
  unfold segG at hr
  cases hs1 : segN X.P X.n ops hs i m ⟨env, bs, fs⟩ with
  | none => rw [hs1] at hr; cases hr
  | some r =>
    obtain ⟨s', ps⟩ := r
    rw [hs1] at hr
    dsimp only at hr
    cases hg : getE s'.env d with
    | none => rw [hg] at hr; cases hr
    | some d' =>
      rw [hg] at hr
      injection hr with hr
      injection hr with h1 h2
      injection h1 with h1 h3
      subst h1 h2 h3
      have hfs : s'.fs = fs := segN_keep m i _ _ hs1
      refine segN_sound m i _ _ hs1 hall ?_
      obtain ⟨e', b', f'⟩ := s'
      cases hfs
      exact NW_env (fun k v hv => over (getE_all hg) (fun hf hl => (segN_look hf hl m i _ _ hs1 hw).trans hl) hv) h
theorem xn (j : Nat) (hs : List (Nat × List Nat)) (d : List (Nat × Value)) (h : NW X ops (Nat.add i (Nat.sub j i)) ⟨d ++ env, bs, fs⟩ K) (hr : segG X.P X.n ops hs i (Nat.sub j i) ⟨env, bs, fs⟩ d = some ((d, bs), fsts (psG (segG X.P X.n ops hs i (Nat.sub j i) ⟨env, bs, fs⟩ d))) := by kernel_rfl) (hw : wrOk ops env d i (Nat.sub j i) = true := by kernel_rfl) : NW X ops i ⟨env, bs, fs⟩ K := seg_go hr hw h
theorem xz (hs : List (Nat × List Nat)) (d : List (Nat × Value)) (h : K .normal ⟨d ++ env, bs, fs⟩) (hr : segG X.P X.n ops hs i (Nat.sub ops.size i) ⟨env, bs, fs⟩ d = some ((d, bs), fsts (psG (segG X.P X.n ops hs i (Nat.sub ops.size i) ⟨env, bs, fs⟩ d))) := by kernel_rfl) (hw : wrOk ops env d i (Nat.sub ops.size i) = true := by kernel_rfl) : NW X ops i ⟨env, bs, fs⟩ K :=
  seg_go hr hw (NW_nil _ (Nat.ble_eq_true_of_le (show ops.size ≤ i + (ops.size - i) by omega)) h)
theorem xy (hs : List (Nat × List Nat)) (d : List (Nat × Value)) (u : List (Nat × List Value)) (h : K .normal ⟨d ++ env, upB bs u, fs⟩) (hr : segG X.P X.n ops hs i (Nat.sub ops.size i) ⟨env, bs, fs⟩ d = some ((d, upB bs u), fsts (psG (segG X.P X.n ops hs i (Nat.sub ops.size i) ⟨env, bs, fs⟩ d))) := by kernel_rfl) (hw : wrOk ops env d i (Nat.sub ops.size i) = true := by kernel_rfl) : NW X ops i ⟨env, bs, fs⟩ K :=
  seg_go hr hw (NW_nil _ (Nat.ble_eq_true_of_le (show ops.size ≤ i + (ops.size - i) by omega)) h)
theorem xg {id : Nat} {c : Code} (h : NW X ops 0 ⟨env, bs, fs⟩ (thenK (fun s' => SW X c s' K) K)) : SW X (.seq (.region id ops false) c) ⟨env, bs, fs⟩ K := SW_seq (SW_region h)
theorem xr {id : Nat} {c : Code} (hs : List (Nat × List Nat)) (d : List (Nat × Value)) (h : SW X c ⟨d ++ env, bs, fs⟩ K) (hr : segG X.P X.n ops hs 0 ops.size ⟨env, bs, fs⟩ d = some ((d, bs), fsts (psG (segG X.P X.n ops hs 0 ops.size ⟨env, bs, fs⟩ d))) := by kernel_rfl) (hw : wrOk ops env d 0 ops.size = true := by kernel_rfl) : SW X (.seq (.region id ops false) c) ⟨env, bs, fs⟩ K := xg (xz hs d h hr hw)
theorem xq {id : Nat} {c : Code} (hs : List (Nat × List Nat)) (d : List (Nat × Value)) (u : List (Nat × List Value)) (h : SW X c ⟨d ++ env, upB bs u, fs⟩ K) (hr : segG X.P X.n ops hs 0 ops.size ⟨env, bs, fs⟩ d = some ((d, upB bs u), fsts (psG (segG X.P X.n ops hs 0 ops.size ⟨env, bs, fs⟩ d))) := by kernel_rfl) (hw : wrOk ops env d 0 ops.size = true := by kernel_rfl) : SW X (.seq (.region id ops false) c) ⟨env, bs, fs⟩ K := xg (xy hs d u h hr hw)
theorem xrl {id : Nat} (hs : List (Nat × List Nat)) (d : List (Nat × Value)) (h : K .normal ⟨d ++ env, bs, fs⟩) (hr : segG X.P X.n ops hs 0 ops.size ⟨env, bs, fs⟩ d = some ((d, bs), fsts (psG (segG X.P X.n ops hs 0 ops.size ⟨env, bs, fs⟩ d))) := by kernel_rfl) (hw : wrOk ops env d 0 ops.size = true := by kernel_rfl) : SW X (.region id ops false) ⟨env, bs, fs⟩ K := SW_region (xz hs d h hr hw)
theorem xql {id : Nat} (hs : List (Nat × List Nat)) (d : List (Nat × Value)) (u : List (Nat × List Value)) (h : K .normal ⟨d ++ env, upB bs u, fs⟩) (hr : segG X.P X.n ops hs 0 ops.size ⟨env, bs, fs⟩ d = some ((d, upB bs u), fsts (psG (segG X.P X.n ops hs 0 ops.size ⟨env, bs, fs⟩ d))) := by kernel_rfl) (hw : wrOk ops env d 0 ops.size = true := by kernel_rfl) : SW X (.region id ops false) ⟨env, bs, fs⟩ K := SW_region (xy hs d u h hr hw)
theorem xck (d : Nat) {f : FuncId} {args : List Value} {pre : List Fact} {γ : Type} {val : γ → Value} {post : γ → List Fact} (hc : Ct X.P f args pre val post) (hp : Sub pre fs) (h : ∀ g, NW X ops (Nat.succ i) ⟨(d, val g) :: env, bs, post g ++ fs⟩ K)
    (hr : callAt X.P X.n ops i ⟨env, bs, fs⟩ = some ((f, args), some d) := by kernel_rfl) : NW X ops i ⟨env, bs, fs⟩ K := nc _ d hc hr rfl hp h
theorem xcv (d : Nat) {f : FuncId} {args : List Value} {pre : List Fact} {v : Value} (hc : CtV X.P f args pre v) (hp : Sub pre fs) (h : NW X ops (Nat.succ i) ⟨(d, v) :: env, bs, fs⟩ K)
    (hr : callAt X.P X.n ops i ⟨env, bs, fs⟩ = some ((f, args), some d) := by kernel_rfl) : NW X ops i ⟨env, bs, fs⟩ K := ncv _ d hc hr rfl hp h
theorem xcr (d : Nat) {f : FuncId} {args : List Value} {pre : List Fact} {k : IntKind} {r : List Int} (hc : CtR X.P f args pre k r) (hp : Sub pre fs) (h : ∀ A c, NW X ops (Nat.succ i) ⟨(d, .slice A r.length c) :: env, bs, Row k A c r :: fs⟩ K)
    (hr : callAt X.P X.n ops i ⟨env, bs, fs⟩ = some ((f, args), some d) := by kernel_rfl) : NW X ops i ⟨env, bs, fs⟩ K := ncr _ d hc hr rfl hp h
theorem xb (t : Nat) (cs : List Value) (ty : TypeId) (h : ∀ g, NW X ops (Nat.succ i) ⟨(t, .pointer (some ⟨g, 0, none⟩)) :: env, bs ++ [⟨g, cs, ty⟩], fs⟩ K)
    (hr : ∀ g, (match ops[i]? with
      | none => none
      | some o => match guardD ops env o with
        | some true => newN X.P X.n ⟨env, bs, fs⟩ o g
        | _ => none) = some (some t, .pointer (some ⟨g, 0, none⟩), bs ++ [⟨g, cs, ty⟩], []) := by intro g; kernel_rfl) : NW X ops i ⟨env, bs, fs⟩ K := nn _ t cs ty hr rfl h
theorem xv (d : Nat) (v : Value) {o : Oper} (hv : ∀ w, WB bs w → (∀ F ∈ fs, F w) → (execOp (evD env) o).run X.P w = .ok (.value v) w) (h : NW X ops (Nat.succ i) ⟨(d, v) :: env, bs, fs⟩ K)
    (ho : ops[i]? = some o := by rfl) (hg : guardD ops env o = some true := by kernel_rfl) (hf : fitO X.n env o = true := by kernel_rfl) (hd : o.dst = some d := by rfl) : NW X ops i ⟨env, bs, fs⟩ K := nv _ d v ho hg hf hd hv rfl h
theorem xkt (t : Nat) {b : Bool} (hb : b = true) (h1 : NW X ops i ⟨(t, .bool true) :: env, bs, fs⟩ K) (hl : look env t = some (.bool b) := by kernel_rfl) : NW X ops i ⟨env, bs, fs⟩ K := ncase t b hl (fun _ => h1) (fun h => by rw [hb] at h; cases h)
theorem xkf (t : Nat) {b : Bool} (hb : b = false) (h1 : NW X ops i ⟨(t, .bool false) :: env, bs, fs⟩ K) (hl : look env t = some (.bool b) := by kernel_rfl) : NW X ops i ⟨env, bs, fs⟩ K := ncase t b hl (fun h => by rw [hb] at h; cases h) (fun _ => h1)
theorem xs (t : Bool) {c : Operand} {x y : Code} (ht : t = true → SW X x ⟨env, bs, fs⟩ K) (hf : t = false → SW X y ⟨env, bs, fs⟩ K) (he : ev env c = some (.bool t) := by kernel_rfl) : SW X (.cond c x y) ⟨env, bs, fs⟩ K := sc t he ht hf
theorem xst {t : Bool} (hb : t = true) {c : Operand} {x y : Code} (ht : SW X x ⟨env, bs, fs⟩ K) (he : ev env c = some (.bool t) := by kernel_rfl) : SW X (.cond c x y) ⟨env, bs, fs⟩ K := sc t he (fun _ => ht) (fun h => by rw [hb] at h; cases h)
theorem xsf {t : Bool} (hb : t = false) {c : Operand} {x y : Code} (ht : SW X y ⟨env, bs, fs⟩ K) (he : ev env c = some (.bool t) := by kernel_rfl) : SW X (.cond c x y) ⟨env, bs, fs⟩ K := sc t he (fun h => by rw [hb] at h; cases h) (fun _ => ht)
theorem xs1 {c : Operand} {x y : Code} (ht : SW X x ⟨env, bs, fs⟩ K) (he : ev env c = some (.bool true) := by kernel_rfl) : SW X (.cond c x y) ⟨env, bs, fs⟩ K := sct he ht
theorem xs0 {c : Operand} {x y : Code} (ht : SW X y ⟨env, bs, fs⟩ K) (he : ev env c = some (.bool false) := by kernel_rfl) : SW X (.cond c x y) ⟨env, bs, fs⟩ K := scf he ht
def psO (r : Option (Value × List (Nat × Nat))) : List (Nat × Nat) := match r with
  | none => []
  | some (_, ps) => ps
theorem fsts_dup (l : List (Nat × Nat)) : fsts l = dup (l.map Prod.fst) := by simp [fsts, dup]
theorem xe {fn : Func} {γ : Type} {val : γ → Value} {post : γ → List Fact} (g : γ) (v : Value) (hs : List Nat) (hv : v = val g) (hsub : Sub (post g) fs) (ho : outN X.P fn ⟨env, bs, fs⟩ hs = some (v, fsts (psO (outN X.P fn ⟨env, bs, fs⟩ hs))) := by kernel_rfl) : RetK X fn val post .ret ⟨env, bs, fs⟩ := ⟨g, hs, _, by rw [← fsts_dup, ← hv]; exact ho, hsub⟩
end
end Go.Proofs.YtgknelgplmohoaaDoor.X
end
section
namespace Go.Proofs.YtgknelgplmohoaaDoor.X
open Go.RowKit Go.Proofs.YtgknelgplmohoaaDoorV.PrintWords Go.Proofs.YtgknelgplmohoaaDoorV.PrintLast
set_option linter.unusedVariables false
set_option linter.unusedSimpArgs false
def bbGo : List (List Nat × List Nat) → List Nat → List Nat
  | [], acc => acc
  | (need, _) :: r, acc => bbGo r (acc ++ [need.foldl (fun b n => Nat.lor (Nat.lor b (2 ^ n)) (acc.getD n 0)) 0])
def bbOf (ops : Array Oper) : List Nat := bbGo (rtab .any ops).2 []
def stGo : List Oper → Nat → List Nat
  | [], _ => []
  | o :: r, i => match o.op with
    | .store .. => i :: stGo r (i + 1)
    | .mapUpdate .. => i :: stGo r (i + 1)
    | _ => stGo r (i + 1)
def stOf (ops : Array Oper) : List Nat := stGo ops.toList 0
def marks : List Bool → List (Nat × List Nat) → List Bool
  | l, [] => l
  | l, (i, _) :: r => marks (l.set i true) r
def segDG (P : Program) (n : Nat) (ops : Array Oper) (T : Tb) (BB ds : List Nat) (bs0 : List Box) (lv : Bool) (m : List (Nat × List Nat)) (l : List Bool) (s : St) (ks : List (Nat × Value)) : Option ((List (Nat × Value) × List Bool) × List (Nat × Nat)) := match segD P n ops T BB ds bs0 lv m l s with
  | none => none
  | some (s', l', ps) => match getE s'.env ks with
    | none => none
    | some d => some ((d, l'), ps)
def psD (r : Option ((List (Nat × Value) × List Bool) × List (Nat × Nat))) : List (Nat × Nat) := match r with
  | none => []
  | some (_, ps) => ps
def wrM (ops : Array Oper) (env d : List (Nat × Value)) : List (Nat × List Nat) → Bool
  | [] => true
  | (i, _) :: r => match wr1 ops env d i with
    | false => false
    | true => wrM ops env d r
theorem put_bs (t : St) (d : Option Nat) (v : Value) : (t.put d v).bs = t.bs := by cases d <;> rfl
theorem put_fs (t : St) (d : Option Nat) (v : Value) : (t.put d v).fs = t.fs := by cases d <;> rfl
theorem segD_keep {P : Program} {n : Nat} {ops : Array Oper} {T : Tb} {BB ds : List Nat} {bs0 : List Box} {lv : Bool} {s' : St} {l' : List Bool} {env d : List (Nat × Value)} : ∀ (m : List (Nat × List Nat)) (l : List Bool) (s : St) (ps : List (Nat × Nat)), segD P n ops T BB ds bs0 lv m l s = some (s', l', ps) →
    s'.bs = s.bs ∧ s'.fs = s.fs ∧ (wrM ops env d m = true → ∀ k v, hasK d k = false → look env k = some v → look s'.env k = look s.env k)
  | [], l, s, ps, h => by cases h; exact ⟨rfl, rfl, fun _ _ _ _ _ => rfl⟩
  | (i, hs) :: r, l, s, ps, h => by
    have go : ∀ (o : Oper) (v : Value) (qs : List (Nat × Nat)), ops[i]? = some o → segD P n ops T BB ds bs0 lv r (l.set i true) (s.put o.dst v) = some (s', l', qs) →
        s'.bs = s.bs ∧ s'.fs = s.fs ∧ (wrM ops env d ((i, hs) :: r) = true → ∀ k v, hasK d k = false → look env k = some v → look s'.env k = look s.env k) := by
      intro o v qs ho h
      obtain ⟨h1, h2, h3⟩ := segD_keep (env := env) (d := d) r _ _ qs h
      refine ⟨h1.trans (put_bs _ _ _), h2.trans (put_fs _ _ _), fun hw k u hd hl => ?_⟩
      simp only [wrM] at hw
      cases h4 : wr1 ops env d i with
      | false => rw [h4] at hw; cases hw
      | true =>
        rw [h4] at hw
        exact (h3 hw k u hd hl).trans (wr1_put h4 ho hd hl s v)
    simp only [segD] at h
    cases ho : ops[i]? with
    | none => rw [ho] at h; cases h
    | some o =>
      rw [ho] at h
      dsimp only at h
      split at h
      · split at h
        · cases h
        · split at h
          · split at h
            · cases h
            · exact go o _ _ ho h
          · cases h
      · split at h
        · cases h
        · split at h
          · cases h
          · exact go o _ _ ho h
        · split at h
          · split at h
            · split at h
              · cases h
              · rename_i hq; cases h; exact go o _ _ ho hq
            · cases h
          · split at h
            · cases h
            · split at h
              · split at h
                · cases h
                · rename_i hq; cases h; exact go o _ _ ho hq
              · cases h
section
variable {X : Cx} {env : List (Nat × Value)} {bs : List Box} {fs : List Fact} {K : Exit → St → Prop} {ops : Array Oper} {s0 : St} {ds : List Nat} {lv : Bool} {l : List Bool} {BB : List Nat}
theorem xd {id : Nat} {c : Code} (h : waitsOk (rtab .any ops).2 (bbOf ops) = true → RW X ops (stOf ops) ⟨env, bs, fs⟩ true (List.replicate ops.size false) ⟨env, bs, fs⟩ (thenK (fun s' => SW X c s' K) K)) (hm : X.P.follows .mixedOrders = true := by kernel_rfl) (hrd : X.rd = none := by rfl) (hB : waitsOk (rtab .any ops).2 (bbOf ops) = true := by kernel_rfl) : SW X (.seq (.region id ops true) c) ⟨env, bs, fs⟩ K := SW_seq (SW_draw _ _ _ _ hrd hm rfl hB rfl (fun _ h1 => h h1))
theorem xdl {id : Nat} (h : waitsOk (rtab .any ops).2 (bbOf ops) = true → RW X ops (stOf ops) ⟨env, bs, fs⟩ true (List.replicate ops.size false) ⟨env, bs, fs⟩ K) (hm : X.P.follows .mixedOrders = true := by kernel_rfl) (hrd : X.rd = none := by rfl) (hB : waitsOk (rtab .any ops).2 (bbOf ops) = true := by kernel_rfl) : SW X (.region id ops true) ⟨env, bs, fs⟩ K := SW_draw _ _ _ _ hrd hm rfl hB rfl (fun _ h1 => h h1)
theorem xdk (m : List (Nat × List Nat)) (d : List (Nat × Value)) (hB : waitsOk (rtab .any ops).2 BB = true) (h : RW X ops ds s0 lv (marks l m) ⟨d ++ env, bs, fs⟩ K)
    (hr : segDG X.P X.n ops (rtab .any ops) BB ds s0.bs lv m l ⟨env, bs, fs⟩ d = some ((d, marks l m), fsts (psD (segDG X.P X.n ops (rtab .any ops) BB ds s0.bs lv m l ⟨env, bs, fs⟩ d))) := by kernel_rfl) (hw : wrM ops env d m = true := by kernel_rfl)
    (hK : Calm K := by repeat (first | with_reducible refine Calm.then_ ?_ _ | with_reducible refine Calm.block_ ?_ _ | with_reducible exact RetK.calm | with_reducible exact RetM.calm | with_reducible exact RetL.calm | exact RetK.calm)) : RW X ops ds s0 lv l ⟨env, bs, fs⟩ K := by
  generalize hq : fsts (psD (segDG X.P X.n ops (rtab .any ops) BB ds s0.bs lv m l ⟨env, bs, fs⟩ d)) = qs at hr
  have hall : AllEq qs := hq ▸ AllEq_fsts _
  unfold segDG at hr
  cases hs1 : segD X.P X.n ops (rtab .any ops) BB ds s0.bs lv m l ⟨env, bs, fs⟩ with
  | none => rw [hs1] at hr; cases hr
  | some r =>
    obtain ⟨s', l', ps⟩ := r
    rw [hs1] at hr
    dsimp only at hr
    cases hg : getE s'.env d with
    | none => rw [hg] at hr; cases hr
    | some d' =>
      rw [hg] at hr
      injection hr with hr
      injection hr with h1 h2
      injection h1 with h1 h3
      subst h1 h2
      obtain ⟨k1, k2, k3⟩ := segD_keep (env := env) (d := d') m _ _ _ hs1
      refine segD_sound hK rfl hB m l _ _ hs1 hall ?_
      obtain ⟨e', b', f'⟩ := s'
      cases k1
      cases k2
      rw [h3]
      exact RW_env (fun k v hv => over (getE_all hg) (fun hf hl => (k3 hw k v hf hl).trans hl) hv) h
theorem xdc (i d : Nat) {f : FuncId} {args : List Value} {pre : List Fact} {γ : Type} {val : γ → Value} {post : γ → List Fact} (hc : Ct X.P f args pre val post) (hp : Sub pre fs) (h : ∀ g, RW X ops ds s0 lv (l.set i true) ⟨(d, val g) :: env, bs, post g ++ fs⟩ K)
    (hr : callAtD X.P X.n ops (rtab .any ops) l i ⟨env, bs, fs⟩ = some ((f, args), some d) := by kernel_rfl) : RW X ops ds s0 lv l ⟨env, bs, fs⟩ K := dc _ i d rfl hc hr rfl hp h
theorem xdv (i d : Nat) {f : FuncId} {args : List Value} {pre : List Fact} {v : Value} (hc : CtV X.P f args pre v) (hp : Sub pre fs) (h : RW X ops ds s0 lv (l.set i true) ⟨(d, v) :: env, bs, fs⟩ K)
    (hr : callAtD X.P X.n ops (rtab .any ops) l i ⟨env, bs, fs⟩ = some ((f, args), some d) := by kernel_rfl) : RW X ops ds s0 lv l ⟨env, bs, fs⟩ K := dcv _ i d rfl hc hr rfl hp h
theorem xdr (i d : Nat) {f : FuncId} {args : List Value} {pre : List Fact} {k : IntKind} {r : List Int} (hc : CtR X.P f args pre k r) (hp : Sub pre fs) (h : ∀ A c, RW X ops ds s0 lv (l.set i true) ⟨(d, .slice A r.length c) :: env, bs, Row k A c r :: fs⟩ K)
    (hr : callAtD X.P X.n ops (rtab .any ops) l i ⟨env, bs, fs⟩ = some ((f, args), some d) := by kernel_rfl) : RW X ops ds s0 lv l ⟨env, bs, fs⟩ K := dcr _ i d rfl hc hr rfl hp h
theorem xds (i : Nat) (hs : List Nat) (u : List (Nat × List Value)) {o : Oper} (h : RW X ops ds s0 false (l.set i true) ⟨env, upB bs u, fs⟩ K)
    (ho : ops[i]? = some o := by rfl) (hd : o.dst = none := by rfl) (hi : ds.contains i = true := by kernel_rfl) (hg : guardD ops env o = some true := by kernel_rfl) (hf : fitO X.n env o = true := by kernel_rfl) (hrd : (readyT (rtab .any ops).2 l == [i]) = true := by kernel_rfl)
    (hr : ((runA X.P (execOp (evD env) o) bs hs none).map fun r => (r.1, r.2.1)) = some (.skip, upB bs u) := by kernel_rfl) (hps : ((runA X.P (execOp (evD env) o) bs hs none).map fun r => r.2.2) = ((runA X.P (execOp (evD env) o) bs hs none).map fun r => fsts r.2.2) := by kernel_rfl) : RW X ops ds s0 lv l ⟨env, bs, fs⟩ K := by
  cases hq : runA X.P (execOp (evD env) o) bs hs none with
  | none => rw [hq] at hr; cases hr
  | some r =>
    obtain ⟨nx, b', ps⟩ := r
    rw [hq] at hr hps
    simp only [Option.map_some, Option.some.injEq, Prod.mk.injEq] at hr hps
    obtain ⟨h1, h2⟩ := hr
    subst h1 h2
    refine RW_store (s := ⟨env, bs, fs⟩) rfl ho (by simpa using hi) hg hf hrd hq (hps ▸ AllEq_fsts _) ?_
    rw [hd]
    exact h
theorem xdn (t : Nat) (b : Bool) (h1 : b = true → RW X ops ds s0 lv l ⟨(t, .bool true) :: env, bs, fs⟩ K) (h2 : b = false → RW X ops ds s0 lv l ⟨(t, .bool false) :: env, bs, fs⟩ K) (hl : look env t = some (.bool b) := by kernel_rfl) : RW X ops ds s0 lv l ⟨env, bs, fs⟩ K := dcase t b hl h1 h2
theorem xdnt (t : Nat) {b : Bool} (hb : b = true) (h1 : RW X ops ds s0 lv l ⟨(t, .bool true) :: env, bs, fs⟩ K) (hl : look env t = some (.bool b) := by kernel_rfl) : RW X ops ds s0 lv l ⟨env, bs, fs⟩ K := dcase t b hl (fun _ => h1) (fun h => by rw [hb] at h; cases h)
theorem xdnf (t : Nat) {b : Bool} (hb : b = false) (h1 : RW X ops ds s0 lv l ⟨(t, .bool false) :: env, bs, fs⟩ K) (hl : look env t = some (.bool b) := by kernel_rfl) : RW X ops ds s0 lv l ⟨env, bs, fs⟩ K := dcase t b hl (fun h => by rw [hb] at h; cases h) (fun _ => h1)
theorem xdw (i d : Nat) (v : Value) {o : Oper} (hB : waitsOk (rtab .any ops).2 BB = true) (hv : ∀ w, WB s0.bs w → (∀ F ∈ s0.fs, F w) → (execOp (evD env) o).run X.P w = .ok (.value v) w) (h : RW X ops ds s0 true (l.set i true) ⟨(d, v) :: env, bs, fs⟩ K)
    (ho : ops[i]? = some o := by rfl) (hg : guardD ops env o = some true := by kernel_rfl) (hf : fitO X.n env o = true := by kernel_rfl) (hd : o.dst = some d := by rfl) (hc : takeW (rtab .any ops) BB ds l (l.set i true) i = true := by kernel_rfl)
    (hK : Calm K := by repeat (first | with_reducible refine Calm.then_ ?_ _ | with_reducible refine Calm.block_ ?_ _ | with_reducible exact RetK.calm | with_reducible exact RetM.calm | with_reducible exact RetL.calm | exact RetK.calm)) : RW X ops ds s0 true l ⟨env, bs, fs⟩ K := dv _ i d v hK rfl hB ho hg hf hd hc rfl hv h
theorem xdz {s : St} (h : K .normal s) (hr : (readyT (rtab .any ops).2 l == []) = true := by kernel_rfl) : RW X ops ds s0 lv l s K := RW_done rfl hr h
theorem xd2 {s : St} (i j : Nat) (h1 : RWs X ops ds s0 lv l s K i) (h2 : RWs X ops ds s0 lv l s K j) (hr : (readyT (rtab .any ops).2 l == [i, j]) = true := by kernel_rfl) : RW X ops ds s0 lv l s K := RW_two rfl hr h1 h2
end
theorem xw {s t : St} (hf : Sub t.fs s.fs) (he : t.env.map (fun p => X.look s.env p.1) = t.env.map (fun p => some p.2) := by kernel_rfl) (hb : s.bs = t.bs := by kernel_rfl) : Weak s t := by
  refine Weak.of ?_ hb hf
  have key : ∀ (l : List (Nat × Value)), l.map (fun p => X.look s.env p.1) = l.map (fun p => some p.2) → lookAll s.env l := by
    intro l
    induction l with
    | nil => intro _; trivial
    | cons p r ih =>
      intro h
      simp only [List.map_cons, List.cons.injEq] at h
      exact ⟨h.1, ih h.2⟩
  exact key _ he
end Go.Proofs.YtgknelgplmohoaaDoor.X
end
