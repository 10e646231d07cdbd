import Derived.Deep.AppendSrc
import Derived.Laws.CopyRow
import Derived.Test.YtgknelgplmohoaaDoorQFnShortestf
section
namespace Go.Proofs.YtgknelgplmohoaaDoor.X
open Go.RowKit Go.Proofs.YtgknelgplmohoaaDoorV.PrintWords Go.Proofs.YtgknelgplmohoaaDoorV.PrintLast
set_option linter.unusedVariables false
set_option linter.unusedSimpArgs false
def cl (k : IntKind) (xs : List Int) (r : List Value) : List Value := xs.map (.int k) ++ r
theorem cl_len (k : IntKind) (xs : List Int) (r : List Value) : (cl k xs r).length = xs.length + r.length := by simp [cl]
theorem rd_some {xs : List Int} {i : Nat} (h : i < xs.length) : xs[i]? = some (rd xs (i : Int)) := by
  simp [rd, List.getD_eq_getElem?_getD, h]
theorem cl_get {k : IntKind} {xs : List Int} {r : List Value} {i : Nat} (h : i < xs.length) : (cl k xs r)[i]? = some (.int k (rd xs (i : Int))) := by
  unfold cl
  rw [List.getElem?_append_left (by simpa using h), List.getElem?_map, rd_some h]
  rfl
theorem cl_set {k : IntKind} {xs : List Int} {r : List Value} {i : Nat} (h : i < xs.length) (x : Int) : (cl k xs r).set i (.int k x) = cl k (xs.set i x) r := by
  unfold cl
  rw [List.set_append_left _ _ (by simpa using h), List.map_set]
def puB : List Box → Nat → Box → List Box
  | [], _, _ => []
  | _ :: r, 0, x => x :: r
  | b :: r, i + 1, x => b :: puB r i x
def delB : List Box → Nat → List Box
  | [], _ => []
  | _ :: r, 0 => r
  | b :: r, i + 1 => b :: delB r i
theorem setB_up : ∀ {bs : List Box} {h o : Nat} {v : Value} {b : Box} {cs : List Value}, bs[h]? = some b → b.cells.set o v = cs → setB bs h o v = upC bs h cs
  | [], _, _, _, _, _, hb, _ => by cases hb
  | c :: r, 0, o, v, b, cs, hb, hc => by cases hb; simp only [setB, upC, hc]
  | c :: r, h + 1, o, v, b, cs, hb, hc => by simp only [setB, upC]; rw [setB_up (b := b) (by simpa using hb) hc]
theorem upC_ids : ∀ (bs : List Box) (h : Nat) (cs : List Value), (upC bs h cs).map Box.id = bs.map Box.id
  | [], _, _ => rfl
  | b :: r, 0, cs => rfl
  | b :: r, h + 1, cs => by simp only [upC, List.map_cons, upC_ids r h cs]
theorem upC_mem : ∀ {bs : List Box} {h : Nat} {cs : List Value} {b x : Box}, bs[h]? = some b → x ∈ upC bs h cs → x = ⟨b.id, cs, b.ty⟩ ∨ (x ∈ bs ∧ ∃ j, bs[j]? = some x ∧ j ≠ h)
  | [], _, _, _, _, hb, _ => by cases hb
  | c :: r, 0, cs, b, x, hb, hx => by
    cases hb
    rcases List.mem_cons.1 hx with rfl | hx
    · exact .inl rfl
    · obtain ⟨j, hj⟩ := List.mem_iff_getElem?.1 hx
      exact .inr ⟨List.mem_cons_of_mem _ hx, j + 1, hj, by omega⟩
  | c :: r, h + 1, cs, b, x, hb, hx => by
    simp only [upC] at hx
    rcases List.mem_cons.1 hx with rfl | hx
    · exact .inr ⟨List.mem_cons_self .., 0, rfl, by omega⟩
    · rcases upC_mem (b := b) (by simpa using hb) hx with e | ⟨hm, j, hj, hne⟩
      · exact .inl e
      · exact .inr ⟨List.mem_cons_of_mem _ hm, j + 1, hj, by omega⟩
theorem puB_mem : ∀ {bs : List Box} {h : Nat} {x y : Box}, y ∈ puB bs h x → y = x ∨ y ∈ bs
  | [], _, _, _, hy => by cases hy
  | c :: r, 0, x, y, hy => by
    rcases List.mem_cons.1 hy with rfl | hy
    · exact .inl rfl
    · exact .inr (List.mem_cons_of_mem _ hy)
  | c :: r, h + 1, x, y, hy => by
    simp only [puB] at hy
    rcases List.mem_cons.1 hy with rfl | hy
    · exact .inr (List.mem_cons_self ..)
    · rcases puB_mem hy with e | e
      · exact .inl e
      · exact .inr (List.mem_cons_of_mem _ e)
theorem puB_nodup : ∀ {bs : List Box} {h : Nat} {x : Box}, (bs.map Box.id).Nodup → (∀ b ∈ bs, b.id ≠ x.id) → ((puB bs h x).map Box.id).Nodup
  | [], _, _, hn, _ => by simp [puB]
  | c :: r, 0, x, hn, hx => by
    simp only [puB, List.map_cons, List.nodup_cons] at hn ⊢
    refine ⟨fun hm => ?_, hn.2⟩
    obtain ⟨b, hb, e⟩ := List.mem_map.1 hm
    exact hx b (List.mem_cons_of_mem _ hb) e
  | c :: r, h + 1, x, hn, hx => by
    simp only [puB, List.map_cons, List.nodup_cons] at hn ⊢
    refine ⟨fun hm => ?_, puB_nodup hn.2 (fun b hb => hx b (List.mem_cons_of_mem _ hb))⟩
    obtain ⟨b, hb, e⟩ := List.mem_map.1 hm
    rcases puB_mem hb with rfl | hb
    · exact hx c (List.mem_cons_self ..) e.symm
    · exact hn.1 (List.mem_map.2 ⟨b, hb, e⟩)
theorem delB_sub : ∀ {bs : List Box} {h : Nat}, List.Sublist (delB bs h) bs
  | [], _ => List.Sublist.refl _
  | c :: r, 0 => List.sublist_cons_self c r
  | c :: r, h + 1 => List.Sublist.cons_cons c delB_sub
section
variable {X : Cx} {env : List (Nat × Value)} {bs bs' : List Box} {fs : List Fact} {w w' : World}
theorem Holds.sub {s : St} (h : Holds X s w) (hs : ∀ b ∈ bs', b ∈ s.bs) (hn : (bs'.map Box.id).Nodup) (e : List (Nat × Value)) : Holds X ⟨e, bs', s.fs⟩ w :=
  ⟨h.below, fun b hb => h.box b (hs b hb), fun b hb => h.new b (hs b hb), hn, fun F hF => (h.fact F hF).mono (fun k hk => ⟨hk.1, fun b hb => hk.2 b (hs b hb)⟩), h.old⟩
theorem Holds.del {s : St} (h : Holds X s w) (i : Nat) (e : List (Nat × Value)) : Holds X ⟨e, delB s.bs i, s.fs⟩ w :=
  h.sub (fun b hb => delB_sub.subset hb) ((delB_sub.map Box.id).nodup h.nodup) e
theorem upd_ext {h : Nat} {b : Box} {cs : List Value} (hb : bs[h]? = some b) (hw : WB bs w) (hn : (bs.map Box.id).Nodup) (h1 : w'.os = w.os) (h2 : w'.tape = w.tape) (h3 : w'.output = w.output) (h4 : w'.heap.size = w.heap.size)
    (h5 : ∀ k, k ≠ b.id → w'.heap[k]? = w.heap[k]?) (h6 : w'.heap[b.id]? = some (Box.ob ⟨b.id, cs, b.ty⟩)) : Ext bs (upC bs h cs) w w' := by
  refine ⟨h1, h2, h3, by omega, fun k hk hf => h5 k (fun e => hf b (List.mem_of_getElem? hb) e), fun x hx => ?_, fun x hx => ?_, fun x hx => ?_, by rw [upC_ids]; exact hn⟩
  · rcases upC_mem hb hx with rfl | ⟨hm, j, hj, hne⟩
    · exact h6
    · rw [h5 _ (nodup_idx hn hj hb hne)]
      exact hw x hm
  · have : x.id ∈ bs.map Box.id := by rw [← upC_ids bs h cs]; exact List.mem_map_of_mem hx
    obtain ⟨c, hc, e⟩ := List.mem_map.1 this
    exact .inl ⟨c, hc, e⟩
  · have : x.id ∈ (upC bs h cs).map Box.id := by rw [upC_ids]; exact List.mem_map_of_mem hx
    obtain ⟨c, hc, e⟩ := List.mem_map.1 this
    exact ⟨c, hc, e⟩
end
theorem blk_setCells {g t : Nat} : ∀ (vs : List Value) (o : Nat) (w : World) (cs : List Value), w.heap[g]? = some (.cells cs.toArray t (0, 0)) → o + vs.length ≤ cs.length → (w.setCells g o vs).heap[g]? = some (.cells (cs.take o ++ vs ++ cs.drop (o + vs.length)).toArray t (0, 0))
  | [], o, w, cs, hg, _ => by simp [World.setCells, hg]
  | v :: r, o, w, cs, hg, hl => by
    have h1 := blk_set (u := v) hg o
    rw [List.setIfInBounds_toArray] at h1
    have h2 := blk_setCells r (o + 1) _ (cs.set o v) h1 (by simp at hl ⊢; omega)
    rw [World.setCells, h2]
    have := list_seg_step cs o v r (by simpa using hl)
    rw [this]
    simp
theorem far_setCells {g : Nat} : ∀ (vs : List Value) (o : Nat) (w : World) (k : Nat), k ≠ g → (w.setCells g o vs).heap[k]? = w.heap[k]?
  | [], o, w, k, hk => rfl
  | v :: r, o, w, k, hk => by
    rw [World.setCells, far_setCells r (o + 1) _ k hk]
    exact Below.heap_setCell w _ v k hk
theorem same_setCells {g : Nat} : ∀ (vs : List Value) (o : Nat) (w : World), (w.setCells g o vs).os = w.os ∧ (w.setCells g o vs).tape = w.tape ∧ (w.setCells g o vs).output = w.output ∧ (w.setCells g o vs).heap.size = w.heap.size
  | [], o, w => ⟨rfl, rfl, rfl, rfl⟩
  | v :: r, o, w => by
    obtain ⟨h1, h2, h3, h4⟩ := same_setCells (g := g) r (o + 1) (w.setCell ⟨g, o, none⟩ v)
    exact ⟨h1, h2, h3, h4.trans (by simp [World.setCell])⟩
def OpV (X : Cx) (env : List (Nat × Value)) (bs : List Box) (fs : List Fact) (o : Oper) (Q : Value → List Box → List Fact → Prop) : Prop :=
  ∀ w, Holds X ⟨env, bs, fs⟩ w → ∃ v w' bs' fs', (execOp (evD env) o).run X.P w = .ok (.value v) w' ∧ Holds X ⟨env, bs', fs'⟩ w' ∧ Q v bs' fs'
section
variable {X : Cx} {env : List (Nat × Value)} {bs : List Box} {fs : List Fact} {K : Exit → St → Prop} {ops : Array Oper} {j : Nat}
theorem NW_op {o : Oper} (d : Nat) {Q : Value → List Box → List Fact → Prop} (ho : ops[j]? = some o) (hg : guardD ops env o = some true) (hf : fitO X.n env o = true) (hd : o.dst = some d) (hv : OpV X env bs fs o Q)
    (h : ∀ v bs' fs', Q v bs' fs' → NW X ops (Nat.succ j) ⟨(d, v) :: env, bs', fs'⟩ K) : NW X ops j ⟨env, bs, fs⟩ K := by
  obtain ⟨h1, h2, h3⟩ := fitO_spec hf
  refine NW_on (s := ⟨env, bs, fs⟩) ho hg (fun a w ha hw => ?_)
  obtain ⟨v, w', bs', fs', hrun, hh, hq⟩ := hv w hw
  refine opV h2 (by rw [ha.exec h2 h3]; exact hrun) ?_
  rw [hd]
  have ha' : Agree X.fr ⟨env, bs', fs'⟩ a := ⟨ha.size, ha.defers, ha.env⟩
  exact h v bs' fs' hq _ _ (ha'.put (some d) (by rw [← hd]; exact dstOk_lt h1) v) (hh.put (some d) v)
theorem NW_skip {o : Oper} {bs' : List Box} {fs' : List Fact} (ho : ops[j]? = some o) (hg : guardD ops env o = some true) (hf : fitO X.n env o = true) (hd : o.dst = none)
    (hv : ∀ w, Holds X ⟨env, bs, fs⟩ w → ∃ w', (execOp (evD env) o).run X.P w = .ok .skip w' ∧ Holds X ⟨env, bs', fs'⟩ w') (h : NW X ops (Nat.succ j) ⟨env, bs', fs'⟩ K) : NW X ops j ⟨env, bs, fs⟩ K := by
  obtain ⟨h1, h2, h3⟩ := fitO_spec hf
  refine NW_on (s := ⟨env, bs, fs⟩) ho hg (fun a w ha hw => ?_)
  obtain ⟨w', hrun, hh⟩ := hv w hw
  refine opS h2 (by rw [ha.exec h2 h3]; exact hrun) ?_
  rw [hd]
  exact h _ _ ⟨ha.size, ha.defers, ha.env⟩ hh
end
end Go.Proofs.YtgknelgplmohoaaDoor.X
end
section
namespace Go.Proofs.YtgknelgplmohoaaDoor.X
open Go.RowKit Go.Proofs.YtgknelgplmohoaaDoorV.PrintWords Go.Proofs.YtgknelgplmohoaaDoorV.PrintLast
set_option linter.unusedVariables false
set_option linter.unusedSimpArgs false
structure Nn (a : Int) (n : Nat) : Prop where
  out : a = (n : Int)
structure Ve (a b : Int) : Prop where
  out : a = b
theorem wrap_i64 {x : Int} (h : -9223372036854775808 ≤ x ∧ x ≤ 9223372036854775807) : IntKind.i64.wrap x = x := by
  simp [IntKind.wrap, IntKind.bits, IntKind.signed]
  omega
theorem Nn.wrap {x : Int} {n : Nat} (h : x = (n : Int)) (hn : n ≤ 9223372036854775807) : Nn (IntKind.i64.wrap x) n := ⟨by rw [wrap_i64 (by omega)]; exact h⟩
theorem Nn.w {x : Int} {n : Nat} (h : Nn x n) (hn : n ≤ 9223372036854775807) : Nn (IntKind.i64.wrap x) n := Nn.wrap h.out hn
theorem Nn.u {x : Int} {n : Nat} (h : Nn x n) (hn : n ≤ 18446744073709551615) : Nn (IntKind.u64.wrap x) n := ⟨by
  obtain ⟨rfl⟩ := h
  simp [IntKind.wrap, IntKind.bits, IntKind.signed]
  omega⟩
theorem Nn.add {x y : Int} {n m : Nat} (h : Nn x n) (k : Nn y m) : Nn (x + y) (n + m) := ⟨by rw [h.out, k.out]; rfl⟩
theorem Nn.sub {x y : Int} {n m : Nat} (h : Nn x n) (k : Nn y m) (hl : m ≤ n) : Nn (x - y) (n - m) := ⟨by rw [h.out, k.out]; omega⟩
theorem Nn.mul {x y : Int} {n m : Nat} (h : Nn x n) (k : Nn y m) : Nn (x * y) (n * m) := ⟨by rw [h.out, k.out]; exact (Int.natCast_mul n m).symm⟩
theorem Nn.div {x y : Int} {n m : Nat} (h : Nn x n) (k : Nn y m) : Nn (Int.tdiv x y) (n / m) := ⟨by rw [h.out, k.out, Int.tdiv_eq_ediv_of_nonneg (by omega)]; rfl⟩
theorem Nn.mod {x y : Int} {n m : Nat} (h : Nn x n) (k : Nn y m) : Nn (Int.tmod x y) (n % m) := ⟨by rw [h.out, k.out, Int.tmod_eq_emod_of_nonneg (by omega)]; rfl⟩
theorem add_base (g m : Nat) : (⟨g, 0, none⟩ : Addr).add m = ⟨g, m, none⟩ := by
  unfold Addr.add
  split <;> simp_all
theorem wb_cell {bs : List Box} {w : World} {h g : Nat} {cs : List Value} {ty : TypeId} (hw : WB bs w) (hb : bs[h]? = some ⟨g, cs, ty⟩) (j : Nat) : w.cell? ⟨g, j, none⟩ = cs[j]? := by
  rw [cell_of_row w g j _ ty (0, 0) (hw _ (List.mem_of_getElem? hb))]
  simp
section
variable {X : Cx} {env : List (Nat × Value)} {bs : List Box} {fs : List Fact} {K : Exit → St → Prop} {ops : Array Oper} {j : Nat}
theorem op_make {o : Oper} {t e : TypeId} {x y : Operand} {k : IntKind} {n bytes : Nat} {a : Int} (ho : o.op = .makeSlice t x y) (hx : evD env x = .int .i64 a) (hy : evD env y = .int .i64 a) (ha : Nn a n) (ht : X.P.underlying t = some (.slice e))
    (hi : (X.P.info? e).map (fun i => (i.zero, i.size, i.bytes)) = some (some (.int k 0), 1, bytes)) (hb0 : 0 < bytes) (hl : n * bytes ≤ 281474976710656) :
    OpV X env bs fs o (fun v bs' fs' => ∃ g, v = .slice (some ⟨g, 0, none⟩) n n ∧ bs' = bs ++ [⟨g, cl k (List.replicate n 0) [], e⟩] ∧ fs' = fs) := by
  obtain ⟨rfl⟩ := ha
  intro w hw
  have hr := print_make_int (P := X.P) t e (.int k 0) bytes ht hi rfl hb0 (n : Int) (by omega) (by simpa using hl) w
  refine ⟨_, _, _, _, ?_, hw.ext (new_ext (madeCells #[.int k 0] n) e hw.box hw.nodup) env, w.heap.size, rfl, ?_, rfl⟩
  · unfold execOp
    simp only [ho, hx, hy, Sem.run_bind, hr]
    simp [Result.andThen]
  · rw [toList_madeCells_one]
    simp [cl]
theorem xma (d e n : Nat) (k : IntKind) (bytes : Nat) (a : Int) {o : Oper} {t : TypeId} {x y : Operand} (ha : Nn a n) (hl : n * bytes ≤ 281474976710656) (h : ∀ g, NW X ops (Nat.succ j) ⟨(d, .slice (some ⟨g, 0, none⟩) n n) :: env, bs ++ [⟨g, cl k (List.replicate n 0) [], e⟩], fs⟩ K)
    (ho : ops[j]? = some o := by rfl) (hop : o.op = .makeSlice t x y := by rfl) (hg : guardD ops env o = some true := by kernel_rfl) (hf : fitO X.n env o = true := by kernel_rfl) (hd : o.dst = some d := by rfl)
    (hx : evD env x = .int .i64 a := by kernel_rfl) (hy : evD env y = .int .i64 a := by kernel_rfl) (ht : X.P.underlying t = some (.slice e) := by kernel_rfl)
    (hi : (X.P.info? e).map (fun i => (i.zero, i.size, i.bytes)) = some (some (.int k 0), 1, bytes) := by kernel_rfl) (hb0 : 0 < bytes := by decide) : NW X ops j ⟨env, bs, fs⟩ K :=
  NW_op d ho hg hf hd (op_make hop hx hy ha ht hi hb0 hl) (fun v bs' fs' ⟨g, h1, h2, h3⟩ => by subst h1 h2 h3; exact h g)
theorem xbl (d : Nat) (cs : List Value) (ty n : Nat) {o : Oper} (h : ∀ g, NW X ops (Nat.succ j) ⟨(d, .slice (some ⟨g, 0, none⟩) n n) :: env, bs ++ [⟨g, cs, ty⟩], fs⟩ K)
    (ho : ops[j]? = some o := by rfl) (hg : guardD ops env o = some true := by kernel_rfl) (hf : fitO X.n env o = true := by kernel_rfl) (hd : o.dst = some d := by rfl)
    (hr : ∀ g, runA X.P (execOp (evD env) o) bs [] (some g) = some (.value (.slice (some ⟨g, 0, none⟩) n n), bs ++ [⟨g, cs, ty⟩], []) := by intro g; kernel_rfl) : NW X ops j ⟨env, bs, fs⟩ K := by
  refine NW_new' (s := ⟨env, bs, fs⟩) (v := fun g => .slice (some ⟨g, 0, none⟩) n n) (bs' := fun g => bs ++ [⟨g, cs, ty⟩]) (ps := fun _ => []) ho hg hf hr (fun _ => trivial) (fun g => ?_)
  rw [hd]
  exact h g
theorem xoi (d e g n c m : Nat) (k : IntKind) (a : Int) {o : Oper} {t : TypeId} {x ix : Operand} (ha : Nn a m) (hm : m < n) (h : NW X ops (Nat.succ j) ⟨(d, .pointer (some ⟨g, m, none⟩)) :: env, bs, fs⟩ K)
    (ho : ops[j]? = some o := by rfl) (hop : o.op = .indexAddr t x ix := by rfl) (hg : guardD ops env o = some true := by kernel_rfl) (hf : fitO X.n env o = true := by kernel_rfl) (hd : o.dst = some d := by rfl)
    (hx : evD env x = .slice (some ⟨g, 0, none⟩) n c := by kernel_rfl) (hi : evD env ix = .int k a := by kernel_rfl) (ht : ∀ w, (underlying t).run X.P w = .ok (.slice e) w := by intro w; kernel_rfl) (hs : ∀ w, (sizeOf e).run X.P w = .ok 1 w := by intro w; kernel_rfl) : NW X ops j ⟨env, bs, fs⟩ K := by
  obtain ⟨rfl⟩ := ha
  exact nv _ d _ ho hg hf hd (fun w _ _ => by rw [run_idx hop hx hi ht hs (by omega) (by omega) w, Int.toNat_natCast, add_base]) rfl h
theorem xfi (d e : Nat) (ad : Addr) (n c m : Nat) (k : IntKind) (a : Int) {o : Oper} {t : TypeId} {x ix : Operand} (ha : Nn a m) (hm : m < n) (h : NW X ops (Nat.succ j) ⟨(d, .pointer (some (ad.add m))) :: env, bs, fs⟩ K)
    (ho : ops[j]? = some o := by rfl) (hop : o.op = .indexAddr t x ix := by rfl) (hg : guardD ops env o = some true := by kernel_rfl) (hf : fitO X.n env o = true := by kernel_rfl) (hd : o.dst = some d := by rfl)
    (hx : evD env x = .slice (some ad) n c := by kernel_rfl) (hi : evD env ix = .int k a := by kernel_rfl) (ht : ∀ w, (underlying t).run X.P w = .ok (.slice e) w := by intro w; kernel_rfl) (hs : ∀ w, (sizeOf e).run X.P w = .ok 1 w := by intro w; kernel_rfl) : NW X ops j ⟨env, bs, fs⟩ K := by
  obtain ⟨rfl⟩ := ha
  exact nv _ d _ ho hg hf hd (fun w _ _ => by rw [run_idx hop hx hi ht hs (by omega) (by omega) w, Int.toNat_natCast]) rfl h
theorem xfl (d : Nat) {k : IntKind} {ad : Addr} {c : Nat} {xs : List Int} (hF : In (Row k (some ad) c xs) fs) (m : Nat) {o : Oper} {t : TypeId} {a : Operand} (h1 : m < xs.length) (h : NW X ops (Nat.succ j) ⟨(d, .int k (rd xs m)) :: env, bs, fs⟩ K)
    (ho : ops[j]? = some o := by rfl) (hop : o.op = .load t a := by rfl) (hg : guardD ops env o = some true := by kernel_rfl) (hf : fitO X.n env o = true := by kernel_rfl) (hd : o.dst = some d := by rfl)
    (ha : evD env a = .pointer (some (ad.add m)) := by kernel_rfl) (ht : ∀ w, (isAgg t).run X.P w = .ok false w := by intro w; kernel_rfl) : NW X ops j ⟨env, bs, fs⟩ K :=
  nv _ d _ ho hg hf hd (fun w _ hw => run_rd hop ha ht w (by have := row_cell (hw _ hF.mem) (i := (m : Int)) (by omega) (by omega); rwa [Int.toNat_natCast] at this)) rfl h
theorem own_cell {h : Nat} {g : Nat} {k : IntKind} {xs : List Int} {r : List Value} {ty : TypeId} {w : World} (hw : WB bs w) (hb : bs[h]? = some ⟨g, cl k xs r, ty⟩) {m : Nat} (hm : m < xs.length) : w.cell? ⟨g, m, none⟩ = some (.int k (rd xs m)) :=
  (wb_cell hw hb m).trans (cl_get hm)
theorem xol (d h g m : Nat) (k : IntKind) (xs : List Int) (r : List Value) (ty : TypeId) {o : Oper} {t : TypeId} {a : Operand} (hm : m < xs.length) (hk : NW X ops (Nat.succ j) ⟨(d, .int k (rd xs m)) :: env, bs, fs⟩ K)
    (hb : bs[h]? = some ⟨g, cl k xs r, ty⟩ := by kernel_rfl) (ho : ops[j]? = some o := by rfl) (hop : o.op = .load t a := by rfl) (hg : guardD ops env o = some true := by kernel_rfl) (hf : fitO X.n env o = true := by kernel_rfl) (hd : o.dst = some d := by rfl)
    (ha : evD env a = .pointer (some ⟨g, m, none⟩) := by kernel_rfl) (ht : ∀ w, (isAgg t).run X.P w = .ok false w := by intro w; kernel_rfl) : NW X ops j ⟨env, bs, fs⟩ K :=
  nv _ d _ ho hg hf hd (fun w hw _ => run_rd hop ha ht w (own_cell hw hb hm)) rfl hk
theorem set_ext {h : Nat} {g : Nat} {k : IntKind} {xs : List Int} {r : List Value} {ty : TypeId} {w : World} (hw : WB bs w) (hn : (bs.map Box.id).Nodup) (hb : bs[h]? = some ⟨g, cl k xs r, ty⟩) {m : Nat} (hm : m < xs.length) (x : Int) :
    Ext bs (upC bs h (cl k (xs.set m x) r)) w (w.setCells g m [.int k x]) := by
  have := setB_ext (a := ⟨g, m, none⟩) (v := .int k x) hb rfl rfl (cl_get hm) (t := ty) rfl hw hn
  rw [setB_up hb (cl_set hm x)] at this
  exact this
theorem xos (h g m : Nat) (k : IntKind) (xs : List Int) (r : List Value) (ty : TypeId) (x : Int) {o : Oper} {t : TypeId} {a y : Operand} (hm : m < xs.length) (hk : NW X ops (Nat.succ j) ⟨env, upC bs h (cl k (xs.set m x) r), fs⟩ K)
    (hb : bs[h]? = some ⟨g, cl k xs r, ty⟩ := by kernel_rfl) (ho : ops[j]? = some o := by rfl) (hop : o.op = .store t a y := by rfl) (hg : guardD ops env o = some true := by kernel_rfl) (hf : fitO X.n env o = true := by kernel_rfl) (hd : o.dst = none := by rfl)
    (ha : evD env a = .pointer (some ⟨g, m, none⟩) := by kernel_rfl) (hx : evD env y = .int k x := by kernel_rfl) (ht : (X.P.info? t).map (·.size) = some 1 := by kernel_rfl) : NW X ops j ⟨env, bs, fs⟩ K :=
  NW_skip ho hg hf hd (fun w hw => ⟨_, by
    have := run_store_run (P := X.P) (w := w) (o := m) t (.int k x) [.int k x] (hw.box _ (List.mem_of_getElem? hb)) rfl ht (by simp [cl_len]; omega) (by simp [Value.oneCell'])
    unfold execOp
    simp only [hop, ha, hx, Sem.run_bind, this]
    rfl, hw.ext (set_ext hw.box hw.nodup hb hm x) env⟩) hk
theorem NW_fact {F G : Fact} (hF : In F fs) (h : ∀ w, F w → G w) (k : NW X ops j ⟨env, bs, G :: fs⟩ K) : NW X ops j ⟨env, bs, fs⟩ K := fun a w ha hw => k a w ⟨ha.size, ha.defers, ha.env⟩
  (hw.facts [G] (fun G' hG' => by rw [List.mem_singleton.1 hG']; exact fun W' hW => h W' (hw.fact F hF.mem W' hW)))
theorem SW_fact {c : Code} {F G : Fact} (hF : In F fs) (h : ∀ w, F w → G w) (k : SW X c ⟨env, bs, G :: fs⟩ K) : SW X c ⟨env, bs, fs⟩ K := fun a w ha hw => k a w ⟨ha.size, ha.defers, ha.env⟩
  (hw.facts [G] (fun G' hG' => by rw [List.mem_singleton.1 hG']; exact fun W' hW => h W' (hw.fact F hF.mem W' hW)))
theorem SW_tru {c : Code} {G : Fact} (h : ∀ w, G w) (k : SW X c ⟨env, bs, G :: fs⟩ K) : SW X c ⟨env, bs, fs⟩ K := fun a w ha hw => k a w ⟨ha.size, ha.defers, ha.env⟩
  (hw.facts [G] (fun G' hG' => by rw [List.mem_singleton.1 hG']; exact fun W' _ => h W'))
theorem cells_get {w : World} {g : Nat} {cs : List Value} {ty : TypeId} (h : w.heap[g]? = some (.cells cs.toArray ty (0, 0))) (i : Nat) : w.cell? ⟨g, i, none⟩ = cs[i]? := by
  rw [cell_of_row w g i _ ty (0, 0) h]
  simp
theorem delB_ne : ∀ {bs : List Box} {h : Nat} {b x : Box}, (bs.map Box.id).Nodup → bs[h]? = some b → x ∈ delB bs h → x.id ≠ b.id
  | [], _, _, _, _, hb, _ => by cases hb
  | c :: r, 0, b, x, hn, hb, hx => by
    cases hb
    simp only [List.map_cons, List.nodup_cons] at hn
    exact fun e => hn.1 (e ▸ List.mem_map_of_mem hx)
  | c :: r, h + 1, b, x, hn, hb, hx => by
    simp only [List.map_cons, List.nodup_cons] at hn
    have hb' : r[h]? = some b := by simpa using hb
    rcases List.mem_cons.1 hx with rfl | hx
    · exact fun e => hn.1 (e ▸ List.mem_map_of_mem (List.mem_of_getElem? hb'))
    · exact delB_ne hn.2 hb' hx
theorem row_block {w : World} {g c : Nat} {k : IntKind} {xs : List Int} {r : List Value} {ty : TypeId} (h : w.heap[g]? = some (.cells (cl k xs r).toArray ty (0, 0))) (hx : xs.length ≤ 9223372036854775807) (hc : xs.length ≤ c) : Row k (some ⟨g, 0, none⟩) c xs w := by
  refine ⟨⟨rfl, hx, fun hp => ⟨⟨g, 0, none⟩, rfl, fun i x hi => ⟨[.int k x], rfl, rfl, fun m u hu => ?_⟩⟩⟩, hc⟩
  match m, hu with
  | 0, hu =>
    cases hu
    rw [add_base, cells_get h, Nat.add_zero]
    have hlt := (List.getElem?_eq_some_iff.1 hi).1
    show (cl k xs r)[i * 1]? = _
    rw [Nat.mul_one, cl_get hlt]
    rw [rd_some hlt] at hi
    cases hi
    rfl
  | m + 1, hu => simp at hu
theorem Holds.fz {s : St} {w : World} (hw : Holds X s w) {h : Nat} {g c : Nat} {k : IntKind} {xs : List Int} {r : List Value} {ty : TypeId} (hb : s.bs[h]? = some ⟨g, cl k xs r, ty⟩) (hx : xs.length ≤ 9223372036854775807) (hc : xs.length ≤ c) (e : List (Nat × Value)) : Holds X ⟨e, delB s.bs h, Row k (some ⟨g, 0, none⟩) c xs :: s.fs⟩ w := by
  have h0 := hw.box _ (List.mem_of_getElem? hb)
  have hd := hw.del h e
  refine hd.facts [_] (fun G hG => ?_)
  rw [List.mem_singleton.1 hG]
  intro W' hW
  refine row_block (r := r) (ty := ty) ((hW g ⟨fun hB => ?_, fun b hm he => ?_⟩ (blk_lt h0)).trans h0) hx hc
  · have h1 := hw.old g hB
    exact (hw.new _ (List.mem_of_getElem? hb)).elim (fun h2 => absurd h1.1 (Nat.not_lt.2 h2)) h1.2
  · exact delB_ne hw.nodup hb hm he.symm
theorem NW_fz (h c g : Nat) (k : IntKind) (xs : List Int) (r : List Value) (ty : TypeId) (hx : xs.length ≤ 9223372036854775807) (hc : xs.length ≤ c) (hk : NW X ops j ⟨env, delB bs h, Row k (some ⟨g, 0, none⟩) c xs :: fs⟩ K) (hb : bs[h]? = some ⟨g, cl k xs r, ty⟩ := by kernel_rfl) : NW X ops j ⟨env, bs, fs⟩ K :=
  fun a w ha hw => hk a w ⟨ha.size, ha.defers, ha.env⟩ (hw.fz hb hx hc env)
theorem SW_fz (h c g : Nat) (k : IntKind) (xs : List Int) (r : List Value) (ty : TypeId) {code : Code} (hx : xs.length ≤ 9223372036854775807) (hc : xs.length ≤ c) (hk : SW X code ⟨env, delB bs h, Row k (some ⟨g, 0, none⟩) c xs :: fs⟩ K) (hb : bs[h]? = some ⟨g, cl k xs r, ty⟩ := by kernel_rfl) : SW X code ⟨env, bs, fs⟩ K :=
  fun a w ha hw => hk a w ⟨ha.size, ha.defers, ha.env⟩ (hw.fz hb hx hc env)
end
end Go.Proofs.YtgknelgplmohoaaDoor.X
end
section
namespace Go.Proofs.YtgknelgplmohoaaDoor.X
open Go.RowKit Go.Proofs.YtgknelgplmohoaaDoorV.PrintWords Go.Proofs.YtgknelgplmohoaaDoorV.PrintLast
set_option linter.unusedVariables false
set_option linter.unusedSimpArgs false
theorem news_one {k : IntKind} {ys : List Int} : ∀ u ∈ ys.map (Value.int k), u.oneCell' = true := fun u hu => by
  obtain ⟨y, _, rfl⟩ := List.mem_map.1 hu
  rfl
theorem cl_app (k : IntKind) (xs ys : List Int) (r : List Value) : ((cl k xs r).take xs.length ++ ys.map (.int k) ++ (cl k xs r).drop (xs.length + (ys.map (Value.int k)).length)) = cl k (xs ++ ys) (r.drop ys.length) := by
  unfold cl
  rw [List.take_left' (by simp), List.map_append, List.append_assoc, List.append_assoc]
  congr 2
  rw [List.length_map, List.drop_append, List.drop_eq_nil_of_le (by simp), List.nil_append]
  congr 1
  simp
section
variable {X : Cx} {env : List (Nat × Value)} {bs : List Box} {fs : List Fact} {K : Exit → St → Prop} {ops : Array Oper} {j : Nat}
theorem run_app {P : Program} {o : Oper} {t tx : TypeId} {s x : Operand} {ρ : Operand → Value} {v : Value} {w w' : World} (ho : o.op = .call { callee := .builtin .append, args := #[s, x], argTypes := #[t, tx] })
    (hr : (Builtin.append_ #[t, tx] o.type #[ρ s, ρ x]).run P w = .ok v w') : (execOp ρ o).run P w = .ok (.value v) w' := by
  unfold execOp
  simp only [ho, resolve, invoke, builtin, Sem.run_bind, Sem.run_pure, Result.andThen_ok, List.map_toArray, List.map_cons, List.map_nil, hr]
theorem grow_holds {s : St} {w : World} (hw : Holds X s w) (cs : List Value) (e : TypeId) (env : List (Nat × Value)) : Holds X ⟨env, s.bs ++ [⟨w.heap.size, cs, e⟩], s.fs⟩ (w.drew.alloc (.cells cs.toArray e)) := by
  have h1 := hw.drew
  exact h1.ext (new_ext cs.toArray e h1.box h1.nodup) env
theorem cl_zeros (k : IntKind) (xs ys : List Int) (m : Nat) : ((xs.map (Value.int k) ++ ys.map (Value.int k)).toArray ++ Builtin.zeroCells #[.int k 0] m) = (cl k (xs ++ ys) (Builtin.zeroCells #[.int k 0] m).toList).toArray := by
  unfold cl
  apply Array.ext'
  simp
theorem upC_pu : ∀ {bs : List Box} {h g : Nat} {cs cs' : List Value} {ty : TypeId}, bs[h]? = some ⟨g, cs, ty⟩ → upC bs h cs' = puB bs h ⟨g, cs', ty⟩
  | [], _, _, _, _, _, hb => by cases hb
  | c :: r, 0, g, cs, cs', ty, hb => by cases hb; rfl
  | c :: r, h + 1, g, cs, cs', ty, hb => by simp only [upC, puB]; rw [upC_pu (by simpa using hb)]
theorem op_app {o : Oper} {t tx e : TypeId} {s x : Operand} {k : IntKind} {bytes h g c : Nat} {xs ys : List Int} {r : List Value} (ho : o.op = .call { callee := .builtin .append, args := #[s, x], argTypes := #[t, tx] })
    (hs : evD env s = .slice (some ⟨g, 0, none⟩) xs.length c) (hb : bs[h]? = some ⟨g, cl k xs r, e⟩) (hc : xs.length + r.length = c)
    (hsrc : ∀ w, Holds X ⟨env, bs, fs⟩ w → Src X.P 1 tx (evD env x) ys.length (ys.map (.int k)) w) (ht : X.P.underlying t = some (.slice e))
    (hi : (X.P.info? e).map (fun i => (i.zero, i.size, i.bytes)) = some (some (.int k 0), 1, bytes)) (hb0 : 0 < bytes) (hl : (xs.length + ys.length) * bytes ≤ 140737488355328) :
    OpV X env bs fs o (fun v bs' fs' => ∃ g' r' c', (xs ++ ys).length + r'.length = c' ∧ v = .slice (some ⟨g', 0, none⟩) (xs ++ ys).length c' ∧ bs' = puB bs h ⟨g', cl k (xs ++ ys) r', e⟩ ∧ fs' = fs) := by
  intro w hw
  obtain ⟨i, hi1, hi2⟩ := Option.map_eq_some_iff.1 hi
  simp only [Prod.mk.injEq] at hi2
  obtain ⟨hz, hs1, hby⟩ := hi2
  have hh := hw.box _ (List.mem_of_getElem? hb)
  have hsr := hsrc w hw
  rw [← hs1] at hsr
  have hlen : xs.length + ys.length ≤ 140737488355328 := Nat.le_trans (Nat.le_mul_of_pos_right _ hb0) hl
  by_cases hroom : xs.length + ys.length ≤ c
  · have hr := run_append_room_src (P := X.P) w t tx o.type e i ht hi1 g 0 xs.length c (evD env x) ys.length _ hsr hroom
      (fun m hm => by rw [hs1, cells_get hh, List.getElem?_eq_getElem (by rw [cl_len]; simp at hm; omega)]; rfl) (fun m hm => by simp [World.frozen?, hh])
    rw [hs1, Nat.mul_one, Nat.zero_add] at hr
    refine ⟨_, _, puB bs h ⟨g, cl k (xs ++ ys) (r.drop ys.length), e⟩, fs, run_app ho (by rw [hs]; exact hr), ?_, g, r.drop ys.length, c, ?_, ?_, rfl, rfl⟩
    · obtain ⟨a1, a2, a3, a4⟩ := same_setCells (g := g) (ys.map (Value.int k)) xs.length w
      have hx := upd_ext (cs := cl k (xs ++ ys) (r.drop ys.length)) hb hw.box hw.nodup a1 a2 a3 a4 (fun q hq => far_setCells _ _ _ q hq) (by rw [blk_setCells _ _ _ _ hh (by rw [cl_len]; simp; omega), cl_app])
      rw [upC_pu hb] at hx
      exact hw.ext hx env
    · simp
      omega
    · rw [List.length_append]
  · have hold : (Builtin.firstCells i.size xs.length (.slice (some ⟨g, 0, none⟩) xs.length c)).run X.P w.drew = .ok (xs.map (Value.int k)).toArray w.drew := by
      rw [hs1]
      refine run_firstCells_some w.drew 1 xs.length ⟨g, 0, none⟩ xs.length c _ (by simp) (fun m u hu => ?_)
      have hm : m < xs.length := by have := (List.getElem?_eq_some_iff.1 hu).1; simpa using this
      rw [add_base, cells_get (w := w.drew) hh, cl_get hm]
      rw [List.getElem?_map, rd_some hm] at hu
      exact hu
    have hr := run_append_grow_src (P := X.P) w t tx o.type e i (.int k 0) ht hi1 hz (some ⟨g, 0, none⟩) xs.length c _ hold (evD env x) ys.length _ hsr (by omega) (by omega) (by rw [hby]; exact growslice_fits (by omega) hl)
    have hge := grownCap_ge w (xs.length + ys.length) c e
    rw [show (Value.int k 0).cells = #[Value.int k 0] from rfl, cl_zeros] at hr
    refine ⟨_, _, puB bs h ⟨w.heap.size, cl k (xs ++ ys) (Builtin.zeroCells #[.int k 0] (grownCap w (xs.length + ys.length) c e - (xs.length + ys.length))).toList, e⟩, fs, run_app ho (by rw [hs]; exact hr), ?_, w.heap.size, _, grownCap w (xs.length + ys.length) c e, ?_, ?_, rfl, rfl⟩
    · refine (grow_holds hw _ e env).sub (fun b hm => ?_) (puB_nodup hw.nodup (fun b hm => ?_)) env
      · rcases puB_mem hm with rfl | hm
        · exact List.mem_append_right _ (List.mem_singleton.2 rfl)
        · exact List.mem_append_left _ hm
      · exact Nat.ne_of_lt (wb_lt hw.box b hm)
    · have hz3 := size_zeroCells #[Value.int k 0] (grownCap w (xs.length + ys.length) c e - (xs.length + ys.length))
      rw [← Array.length_toList] at hz3
      rw [hz3, List.length_append]
      simp
      omega
    · rw [List.length_append]
theorem op_app0 {o : Oper} {t tx e : TypeId} {s x : Operand} {k : IntKind} {bytes : Nat} {ys : List Int} (ho : o.op = .call { callee := .builtin .append, args := #[s, x], argTypes := #[t, tx] })
    (hs : evD env s = .slice none 0 0) (hp : 0 < ys.length)
    (hsrc : ∀ w, Holds X ⟨env, bs, fs⟩ w → Src X.P 1 tx (evD env x) ys.length (ys.map (.int k)) w) (ht : X.P.underlying t = some (.slice e))
    (hi : (X.P.info? e).map (fun i => (i.zero, i.size, i.bytes)) = some (some (.int k 0), 1, bytes)) (hb0 : 0 < bytes) (hl : ys.length * bytes ≤ 140737488355328) :
    OpV X env bs fs o (fun v bs' fs' => ∃ g' r' c', ys.length + r'.length = c' ∧ v = .slice (some ⟨g', 0, none⟩) ys.length c' ∧ bs' = bs ++ [⟨g', cl k ys r', e⟩] ∧ fs' = fs) := by
  intro w hw
  obtain ⟨i, hi1, hi2⟩ := Option.map_eq_some_iff.1 hi
  simp only [Prod.mk.injEq] at hi2
  obtain ⟨hz, hs1, hby⟩ := hi2
  have hsr := hsrc w hw
  rw [← hs1] at hsr
  have hlen : ys.length ≤ 140737488355328 := Nat.le_trans (Nat.le_mul_of_pos_right _ hb0) hl
  have hold : (Builtin.firstCells i.size 0 (.slice none 0 0)).run X.P w.drew = .ok ([] : List Value).toArray w.drew := run_firstCells_none w.drew _ 0 0 0
  have hr := run_append_grow_src (P := X.P) w t tx o.type e i (.int k 0) ht hi1 hz none 0 0 _ hold (evD env x) ys.length _ hsr (by omega) (by omega) (by rw [hby]; exact growslice_fits (by omega) (by rw [Nat.zero_add]; exact hl))
  have hge := grownCap_ge w (0 + ys.length) 0 e
  have hz2 := cl_zeros k [] ys (grownCap w (0 + ys.length) 0 e - (0 + ys.length))
  rw [List.map_nil] at hz2
  rw [show (Value.int k 0).cells = #[Value.int k 0] from rfl, hz2, List.nil_append] at hr
  refine ⟨_, _, _, fs, run_app ho (by rw [hs]; exact hr), grow_holds hw _ e env, w.heap.size, _, grownCap w (0 + ys.length) 0 e, ?_, ?_, rfl, rfl⟩
  · have hz3 := size_zeroCells #[Value.int k 0] (grownCap w (0 + ys.length) 0 e - (0 + ys.length))
    rw [← Array.length_toList] at hz3
    rw [hz3]
    simp at hge ⊢
    omega
  · rw [Nat.zero_add]
theorem src_box {t : TypeId} {env : List (Nat × Value)} {x : Operand} {g h c : Nat} {k : IntKind} {ys : List Int} {e' ty : TypeId} (ht : X.P.underlying t = some (.slice e')) (hx : evD env x = .slice (some ⟨g, 0, none⟩) ys.length c) (hb : bs[h]? = some ⟨g, ys.map (.int k), ty⟩) :
    ∀ w, Holds X ⟨env, bs, fs⟩ w → Src X.P 1 t (evD env x) ys.length (ys.map (.int k)) w := fun w hw => by
  rw [hx]
  refine Src.ofSlice w ht ⟨g, 0, none⟩ ys.length c _ (by simp) (fun m u hu => ?_) news_one
  rw [add_base, cells_get (hw.box _ (List.mem_of_getElem? hb))]
  exact hu
theorem src_row {t : TypeId} {env : List (Nat × Value)} {x : Operand} {A : Option Addr} {c : Nat} {k : IntKind} {ys : List Int} {e' : TypeId} (ht : X.P.underlying t = some (.slice e')) (hx : evD env x = .slice A ys.length c) (hF : In (Row k A c ys) fs) (hp : 0 < ys.length) :
    ∀ w, Holds X ⟨env, bs, fs⟩ w → Src X.P 1 t (evD env x) ys.length (ys.map (.int k)) w := fun w hw => by
  rw [hx]
  have hr := (hw.fact _ hF.mem).now
  obtain ⟨ad, rfl⟩ := row_at hr hp
  refine Src.ofSlice w ht ad ys.length c _ (by simp) (fun m u hu => ?_) news_one
  have hm : m < ys.length := by have := (List.getElem?_eq_some_iff.1 hu).1; simpa using this
  have := row_cell hr (i := (m : Int)) (by omega) (by omega)
  rw [Int.toNat_natCast] at this
  rw [List.getElem?_map, rd_some hm] at hu
  rw [this]
  exact hu
theorem OpV.del {o : Oper} {Q : Value → List Box → List Fact → Prop} (h2 : Nat) (h : OpV X env bs fs o Q) : OpV X env bs fs o (fun v bs' fs' => ∃ b0, Q v b0 fs' ∧ bs' = delB b0 h2) := fun w hw => by
  obtain ⟨v, w', bs', fs', hr, hh, hq⟩ := h w hw
  exact ⟨v, w', _, fs', hr, hh.del h2 env, bs', hq, rfl⟩
theorem xap (d h h2 m e bytes g g2 c c2 : Nat) (k : IntKind) (ty : TypeId) (xs : List Int) (r : List Value) (ys : List Int) {o : Oper} {t : TypeId} {s x : Operand} (hc : xs.length + r.length = c) (hl : (xs.length + m) * bytes ≤ 140737488355328)
    (hk : ∀ g' r' c', (xs ++ ys).length + r'.length = c' → NW X ops (Nat.succ j) ⟨(d, .slice (some ⟨g', 0, none⟩) (xs ++ ys).length c') :: env, delB (puB bs h ⟨g', cl k (xs ++ ys) r', e⟩) h2, fs⟩ K)
    (hb : bs[h]? = some ⟨g, cl k xs r, e⟩ := by kernel_rfl) (hb2 : bs[h2]? = some ⟨g2, ys.map (.int k), ty⟩ := by kernel_rfl) (ho : ops[j]? = some o := by rfl) (hop : o.op = .call { callee := .builtin .append, args := #[s, x], argTypes := #[t, t] } := by rfl)
    (hg : guardD ops env o = some true := by kernel_rfl) (hf : fitO X.n env o = true := by kernel_rfl) (hd : o.dst = some d := by rfl)
    (hs : evD env s = .slice (some ⟨g, 0, none⟩) xs.length c := by kernel_rfl) (hx : evD env x = .slice (some ⟨g2, 0, none⟩) ys.length c2 := by kernel_rfl) (ht : X.P.underlying t = some (.slice e) := by kernel_rfl)
    (hi : (X.P.info? e).map (fun i => (i.zero, i.size, i.bytes)) = some (some (.int k 0), 1, bytes) := by kernel_rfl) (hb0 : 0 < bytes := by decide) (hm : ys.length = m := by rfl) : NW X ops j ⟨env, bs, fs⟩ K :=
  NW_op d ho hg hf hd ((op_app hop hs hb hc (src_box ht hx hb2) ht hi hb0 (by rw [hm]; exact hl)).del h2) (fun v bs' fs' ⟨b0, ⟨g', r', c', h1, h2, h3, h4⟩, h5⟩ => by subst h2 h3 h4 h5; exact hk g' r' c' h1)
theorem xa0 (d h2 e bytes g2 c2 : Nat) (k : IntKind) (ty : TypeId) (ys : List Int) {o : Oper} {t : TypeId} {s x : Operand}
    (hk : ∀ g' r' c', ys.length + r'.length = c' → NW X ops (Nat.succ j) ⟨(d, .slice (some ⟨g', 0, none⟩) ys.length c') :: env, delB (bs ++ [⟨g', cl k ys r', e⟩]) h2, fs⟩ K)
    (hb2 : bs[h2]? = some ⟨g2, ys.map (.int k), ty⟩ := by kernel_rfl) (ho : ops[j]? = some o := by rfl) (hop : o.op = .call { callee := .builtin .append, args := #[s, x], argTypes := #[t, t] } := by rfl)
    (hg : guardD ops env o = some true := by kernel_rfl) (hf : fitO X.n env o = true := by kernel_rfl) (hd : o.dst = some d := by rfl)
    (hs : evD env s = .slice none 0 0 := by kernel_rfl) (hp : 0 < ys.length := by decide) (hx : evD env x = .slice (some ⟨g2, 0, none⟩) ys.length c2 := by kernel_rfl) (ht : X.P.underlying t = some (.slice e) := by kernel_rfl)
    (hi : (X.P.info? e).map (fun i => (i.zero, i.size, i.bytes)) = some (some (.int k 0), 1, bytes) := by kernel_rfl) (hb0 : 0 < bytes := by decide) (hl : ys.length * bytes ≤ 140737488355328 := by decide) : NW X ops j ⟨env, bs, fs⟩ K :=
  NW_op d ho hg hf hd ((op_app0 hop hs hp (src_box ht hx hb2) ht hi hb0 hl).del h2) (fun v bs' fs' ⟨b0, ⟨g', r', c', h1, h2, h3, h4⟩, h5⟩ => by subst h2 h3 h4 h5; exact hk g' r' c' h1)
theorem sbound (P : Program) (w : World) (k : IntKind) (m y : Nat) (code : BoundsCode) (h : m ≤ y) : (Instr.sliceBound (.int k (m : Int)) y code).run P w = .ok m w := by
  unfold Instr.sliceBound
  have h1 : (0 : Int) ≤ (m : Int) ∧ (m : Int) ≤ (y : Int) := ⟨by omega, by omega⟩
  simp [Sem.run_bind, Result.andThen, asIntOf, h1]
theorem run_slice {P : Program} {o : Oper} {t e : TypeId} {x : Operand} {lo hi mx : Option Operand} {ρ : Operand → Value} {A : Option Addr} {n c l h m : Nat} (w : World) (ho : o.op = .slice t x lo hi mx) (hx : ρ x = .slice A n c) (ht : P.underlying t = some (.slice e)) (hs : (P.info? e).map (·.size) = some 1)
    (hb : (Instr.sliceBounds true n c (lo.map ρ) (hi.map ρ) (mx.map ρ)).run P w = .ok (l, h, m) w) : (execOp ρ o).run P w = .ok (.value (.slice (if m = l then A else A.map (·.add l)) (h - l) (m - l))) w := by
  obtain ⟨i, hi1, hi2⟩ := Option.map_eq_some_iff.1 hs
  unfold execOp
  simp only [ho, hx]
  simp [Instr.sliceAt, Instr.slice, run_underlying ht, hb, sizeOf, typeInfo, hi1, hi2]
theorem sb_lo (P : Program) (w : World) (n c l : Nat) (k : IntKind) (h1 : l ≤ n) : (Instr.sliceBounds true n c (some (.int k (l : Int))) none none).run P w = .ok (l, n, c) w := by
  simp [Instr.sliceBounds, sbound P w k l n _ h1]
theorem sb_hi (P : Program) (w : World) (n c h : Nat) (k : IntKind) (h1 : h ≤ c) : (Instr.sliceBounds true n c none (some (.int k (h : Int))) none).run P w = .ok (0, h, c) w := by
  simp [Instr.sliceBounds, sbound P w k h c _ h1]
theorem sb_himax (P : Program) (w : World) (n c h m : Nat) (k k2 : IntKind) (h0 : h ≤ m) (h1 : m ≤ c) : (Instr.sliceBounds true n c none (some (.int k (h : Int))) (some (.int k2 (m : Int)))).run P w = .ok (0, h, m) w := by
  simp [Instr.sliceBounds, sbound P w k h m _ h0, sbound P w k2 m c _ h1]
theorem add0 (A : Option Addr) (m : Nat) : (if m = 0 then A else A.map (·.add 0)) = A := by
  split
  · rfl
  · cases A <;> simp [Addr.add]
theorem xsh (d e : Nat) (A : Option Addr) (n c m : Nat) (k : IntKind) (a : Int) {o : Oper} {t : TypeId} {x y : Operand} (ha : Nn a m) (hm : m ≤ c) (hk : NW X ops (Nat.succ j) ⟨(d, .slice A m c) :: env, bs, fs⟩ K)
    (ho : ops[j]? = some o := by rfl) (hop : o.op = .slice t x none (some y) none := by rfl) (hg : guardD ops env o = some true := by kernel_rfl) (hf : fitO X.n env o = true := by kernel_rfl) (hd : o.dst = some d := by rfl)
    (hx : evD env x = .slice A n c := by kernel_rfl) (hy : evD env y = .int k a := by kernel_rfl) (ht : X.P.underlying t = some (.slice e) := by kernel_rfl) (hs : (X.P.info? e).map (·.size) = some 1 := by kernel_rfl) : NW X ops j ⟨env, bs, fs⟩ K := by
  obtain ⟨rfl⟩ := ha
  exact nv _ d _ ho hg hf hd (fun w _ _ => by
    have := run_slice (ρ := evD env) w hop hx ht hs (by simp only [Option.map_none, Option.map_some, hy]; exact sb_hi X.P w n c m k hm)
    rwa [add0, Nat.sub_zero, Nat.sub_zero] at this) rfl hk
theorem xsx (d e : Nat) (A : Option Addr) (n c m : Nat) (k k2 : IntKind) (a : Int) {o : Oper} {t : TypeId} {x y z : Operand} (ha : Nn a m) (hm : m ≤ c) (hk : NW X ops (Nat.succ j) ⟨(d, .slice A m m) :: env, bs, fs⟩ K)
    (ho : ops[j]? = some o := by rfl) (hop : o.op = .slice t x none (some y) (some z) := by rfl) (hg : guardD ops env o = some true := by kernel_rfl) (hf : fitO X.n env o = true := by kernel_rfl) (hd : o.dst = some d := by rfl)
    (hx : evD env x = .slice A n c := by kernel_rfl) (hy : evD env y = .int k a := by kernel_rfl) (hz : evD env z = .int k2 a := by kernel_rfl) (ht : X.P.underlying t = some (.slice e) := by kernel_rfl) (hs : (X.P.info? e).map (·.size) = some 1 := by kernel_rfl) : NW X ops j ⟨env, bs, fs⟩ K := by
  obtain ⟨rfl⟩ := ha
  exact nv _ d _ ho hg hf hd (fun w _ _ => by
    have := run_slice (ρ := evD env) w hop hx ht hs (by simp only [Option.map_none, Option.map_some, hy, hz]; exact sb_himax X.P w n c m m k k2 (Nat.le_refl _) hm)
    rwa [add0, Nat.sub_zero] at this) rfl hk
theorem row_take {k : IntKind} {A : Option Addr} {c : Nat} {xs : List Int} {w : World} (m c' : Nat) (hm : m ≤ c') (h : Row k A c xs w) : Row k A c' (xs.take m) w := by
  refine ⟨?_, by simp; omega⟩
  rcases Nat.le_total m xs.length with h1 | h1
  · exact Kd.C_take h.1 h1
  · rw [List.take_of_length_le h1]; exact h.1
theorem xsl (d e m : Nat) (k : IntKind) (a : Int) {o : Oper} {t : TypeId} {x y : Operand} {A : Option Addr} {c : Nat} {kk : IntKind} {xs : List Int} (hF : In (Row kk A c xs) fs) (ha : Nn a m) (hm : m ≤ xs.length) (hk : ∀ A', NW X ops (Nat.succ j) ⟨(d, .slice A' (xs.drop m).length (c - m)) :: env, bs, Row kk A' (c - m) (xs.drop m) :: fs⟩ K)
    (ho : ops[j]? = some o := by rfl) (hop : o.op = .slice t x (some y) none none := by rfl) (hg : guardD ops env o = some true := by kernel_rfl) (hf : fitO X.n env o = true := by kernel_rfl) (hd : o.dst = some d := by rfl)
    (hx : evD env x = .slice A xs.length c := by kernel_rfl) (hy : evD env y = .int k a := by kernel_rfl) (ht : X.P.underlying t = some (.slice e) := by kernel_rfl) (hs : (X.P.info? e).map (·.size) = some 1 := by kernel_rfl) : NW X ops j ⟨env, bs, fs⟩ K := by
  obtain ⟨rfl⟩ := ha
  refine NW_fact (G := Row kk (if c = m then A else A.map (·.add m)) (c - m) (xs.drop m)) hF (fun w h => ⟨?_, ?_⟩) ?_
  · have := Kd.C_drop (c := c) h.1 hm h.2
    rwa [show (Kd.int kk).sz = 1 from rfl, Nat.mul_one] at this
  · have := h.2
    rw [List.length_drop]
    omega
  · refine nv _ d _ ho hg hf hd (fun w _ _ => ?_) rfl (hk _)
    have := run_slice (ρ := evD env) w hop hx ht hs (by simp only [Option.map_none, Option.map_some, hy]; exact sb_lo X.P w xs.length c m k hm)
    rw [this, List.length_drop]
variable {s0 : St} {ds : List Nat} {l : List Bool} {BB : List Nat} {lv : Bool}
theorem xdoi (i : Nat) (hB : waitsOk (rtab .any ops).2 BB = true) (d e g n c m : Nat) (k : IntKind) (a : Int) {o : Oper} {t : TypeId} {x ix : Operand} (ha : Nn a m) (hm : m < n) (h : RW X ops ds s0 true (l.set i true) ⟨(d, .pointer (some ⟨g, m, none⟩)) :: env, bs, fs⟩ K)
    (ho : ops[i]? = some o := by rfl) (hop : o.op = .indexAddr t x ix := by rfl) (hg : guardD ops env o = some true := by kernel_rfl) (hf : fitO X.n env o = true := by kernel_rfl) (hd : o.dst = some d := by rfl) (hc : takeW (rtab .any ops) BB ds l (l.set i true) i = true := by kernel_rfl)
    (hx : evD env x = .slice (some ⟨g, 0, none⟩) n c := by kernel_rfl) (hi : evD env ix = .int k a := by kernel_rfl) (ht : ∀ w, (underlying t).run X.P w = .ok (.slice e) w := by intro w; kernel_rfl) (hs : ∀ w, (sizeOf e).run X.P w = .ok 1 w := by intro w; kernel_rfl)
    (hK : Calm K := by repeat (first | with_reducible refine Calm.then_ ?_ _ | with_reducible refine Calm.block_ ?_ _ | with_reducible exact RetK.calm | with_reducible exact RetM.calm | with_reducible exact RetL.calm | exact RetK.calm)) : RW X ops ds s0 true l ⟨env, bs, fs⟩ K := by
  obtain ⟨rfl⟩ := ha
  exact dv _ i d _ hK rfl hB ho hg hf hd hc rfl (fun w _ _ => by rw [run_idx hop hx hi ht hs (by omega) (by omega) w, Int.toNat_natCast, add_base]) h
theorem xdfi (i : Nat) (hB : waitsOk (rtab .any ops).2 BB = true) (d e : Nat) (ad : Addr) (n c m : Nat) (k : IntKind) (a : Int) {o : Oper} {t : TypeId} {x ix : Operand} (ha : Nn a m) (hm : m < n) (h : RW X ops ds s0 true (l.set i true) ⟨(d, .pointer (some (ad.add m))) :: env, bs, fs⟩ K)
    (ho : ops[i]? = some o := by rfl) (hop : o.op = .indexAddr t x ix := by rfl) (hg : guardD ops env o = some true := by kernel_rfl) (hf : fitO X.n env o = true := by kernel_rfl) (hd : o.dst = some d := by rfl) (hc : takeW (rtab .any ops) BB ds l (l.set i true) i = true := by kernel_rfl)
    (hx : evD env x = .slice (some ad) n c := by kernel_rfl) (hi : evD env ix = .int k a := by kernel_rfl) (ht : ∀ w, (underlying t).run X.P w = .ok (.slice e) w := by intro w; kernel_rfl) (hs : ∀ w, (sizeOf e).run X.P w = .ok 1 w := by intro w; kernel_rfl)
    (hK : Calm K := by repeat (first | with_reducible refine Calm.then_ ?_ _ | with_reducible refine Calm.block_ ?_ _ | with_reducible exact RetK.calm | with_reducible exact RetM.calm | with_reducible exact RetL.calm | exact RetK.calm)) : RW X ops ds s0 true l ⟨env, bs, fs⟩ K := by
  obtain ⟨rfl⟩ := ha
  exact dv _ i d _ hK rfl hB ho hg hf hd hc rfl (fun w _ _ => by rw [run_idx hop hx hi ht hs (by omega) (by omega) w, Int.toNat_natCast]) h
theorem xdfl (i : Nat) (hB : waitsOk (rtab .any ops).2 BB = true) (d : Nat) {k : IntKind} {ad : Addr} {c : Nat} {xs : List Int} (hF : In (Row k (some ad) c xs) s0.fs) (m : Nat) {o : Oper} {t : TypeId} {a : Operand} (h1 : m < xs.length) (h : RW X ops ds s0 true (l.set i true) ⟨(d, .int k (rd xs m)) :: env, bs, fs⟩ K)
    (ho : ops[i]? = some o := by rfl) (hop : o.op = .load t a := by rfl) (hg : guardD ops env o = some true := by kernel_rfl) (hf : fitO X.n env o = true := by kernel_rfl) (hd : o.dst = some d := by rfl) (hc : takeW (rtab .any ops) BB ds l (l.set i true) i = true := by kernel_rfl)
    (ha : evD env a = .pointer (some (ad.add m)) := by kernel_rfl) (ht : ∀ w, (isAgg t).run X.P w = .ok false w := by intro w; kernel_rfl)
    (hK : Calm K := by repeat (first | with_reducible refine Calm.then_ ?_ _ | with_reducible refine Calm.block_ ?_ _ | with_reducible exact RetK.calm | with_reducible exact RetM.calm | with_reducible exact RetL.calm | exact RetK.calm)) : RW X ops ds s0 true l ⟨env, bs, fs⟩ K :=
  dv _ i d _ hK rfl hB ho hg hf hd hc rfl (fun w _ hw => run_rd hop ha ht w (by have := row_cell (hw _ hF.mem) (i := (m : Int)) (by omega) (by omega); rwa [Int.toNat_natCast] at this)) h
theorem xdol (i : Nat) (hB : waitsOk (rtab .any ops).2 BB = true) (d h g m : Nat) (k : IntKind) (xs : List Int) (r : List Value) (ty : TypeId) {o : Oper} {t : TypeId} {a : Operand} (hm : m < xs.length) (hk : RW X ops ds s0 true (l.set i true) ⟨(d, .int k (rd xs m)) :: env, bs, fs⟩ K)
    (hb : s0.bs[h]? = some ⟨g, cl k xs r, ty⟩ := by kernel_rfl) (ho : ops[i]? = some o := by rfl) (hop : o.op = .load t a := by rfl) (hg : guardD ops env o = some true := by kernel_rfl) (hf : fitO X.n env o = true := by kernel_rfl) (hd : o.dst = some d := by rfl) (hc : takeW (rtab .any ops) BB ds l (l.set i true) i = true := by kernel_rfl)
    (ha : evD env a = .pointer (some ⟨g, m, none⟩) := by kernel_rfl) (ht : ∀ w, (isAgg t).run X.P w = .ok false w := by intro w; kernel_rfl)
    (hK : Calm K := by repeat (first | with_reducible refine Calm.then_ ?_ _ | with_reducible refine Calm.block_ ?_ _ | with_reducible exact RetK.calm | with_reducible exact RetM.calm | with_reducible exact RetL.calm | exact RetK.calm)) : RW X ops ds s0 true l ⟨env, bs, fs⟩ K :=
  dv _ i d _ hK rfl hB ho hg hf hd hc rfl (fun w hw _ => run_rd hop ha ht w (own_cell hw hb hm)) hk
theorem xdos (i : Nat) (hB : waitsOk (rtab .any ops).2 BB = true) (h g m : Nat) (k : IntKind) (xs : List Int) (r : List Value) (ty : TypeId) (x : Int) {o : Oper} {t : TypeId} {a y : Operand} (hm : m < xs.length) (hk : RW X ops ds s0 false (l.set i true) ⟨env, upC bs h (cl k (xs.set m x) r), fs⟩ K)
    (hb : bs[h]? = some ⟨g, cl k xs r, ty⟩ := by kernel_rfl) (ho : ops[i]? = some o := by rfl) (hop : o.op = .store t a y := by rfl) (hg : guardD ops env o = some true := by kernel_rfl) (hf : fitO X.n env o = true := by kernel_rfl) (hd : o.dst = none := by rfl) (hi : ds.contains i = true := by kernel_rfl)
    (hrd : (readyT (rtab .any ops).2 l == [i]) = true := by kernel_rfl) (ha : evD env a = .pointer (some ⟨g, m, none⟩) := by kernel_rfl) (hx : evD env y = .int k x := by kernel_rfl) (ht : (X.P.info? t).map (·.size) = some 1 := by kernel_rfl) : RW X ops ds s0 lv l ⟨env, bs, fs⟩ K := by
  obtain ⟨f1, f2, f3⟩ := fitO_spec hf
  refine RW_on (s := ⟨env, bs, fs⟩) rfl ho hg hrd (fun a' w ha' hw hS => ?_)
  have := run_store_run (P := X.P) (w := w) (o := m) t (.int k x) [.int k x] (hw.box _ (List.mem_of_getElem? hb)) rfl ht (by simp [cl_len]; omega) (by simp [Value.oneCell'])
  have hrun : (execOp (evD env) o).run X.P w = .ok .skip (w.setCells g m [.int k x]) := by
    unfold execOp
    simp only [hop, ha, hx, Sem.run_bind, this]
    rfl
  unfold Oper.wp
  rw [ha'.exec f2 f3, hrun, Oper.upon_skip, hd]
  exact ⟨fun hn => absurd (by simpa using hi) hn, hk _ _ ⟨ha'.size, ha'.defers, ha'.env⟩ (hw.ext (set_ext hw.box hw.nodup hb hm x) env) (fun hl => by cases hl)⟩
theorem xve (d : Nat) (k : IntKind) (v v' : Int) (he : Ve v v') (h : NW X ops (Nat.succ j) ⟨(d, .int k v') :: env, bs, fs⟩ K)
    (hr : segG X.P X.n ops [] j 1 ⟨env, bs, fs⟩ [(d, .int k v)] = some (([(d, .int k v)], bs), fsts (psG (segG X.P X.n ops [] j 1 ⟨env, bs, fs⟩ [(d, .int k v)]))) := by kernel_rfl) (hw : wrOk ops env [(d, .int k v)] j 1 = true := by kernel_rfl) : NW X ops j ⟨env, bs, fs⟩ K := by
  obtain ⟨rfl⟩ := he
  exact seg_go hr hw h
theorem xdve (i : Nat) (hB : waitsOk (rtab .any ops).2 BB = true) (d : Nat) (k : IntKind) (v v' : Int) (he : Ve v v') (h : RW X ops ds s0 lv (marks l [(i, [])]) ⟨(d, .int k v') :: env, bs, fs⟩ K)
    (hr : segDG X.P X.n ops (rtab .any ops) BB ds s0.bs lv [(i, [])] l ⟨env, bs, fs⟩ [(d, .int k v)] = some (([(d, .int k v)], marks l [(i, [])]), fsts (psD (segDG X.P X.n ops (rtab .any ops) BB ds s0.bs lv [(i, [])] l ⟨env, bs, fs⟩ [(d, .int k v)]))) := by kernel_rfl) (hw : wrM ops env [(d, .int k v)] [(i, [])] = true := by kernel_rfl)
    (hK : Calm K := by repeat (first | with_reducible refine Calm.then_ ?_ _ | with_reducible refine Calm.block_ ?_ _ | with_reducible exact RetK.calm | with_reducible exact RetM.calm | with_reducible exact RetL.calm | exact RetK.calm)) : RW X ops ds s0 lv l ⟨env, bs, fs⟩ K := by
  obtain ⟨rfl⟩ := he
  exact xdk [(i, [])] [(d, .int k v)] hB h hr hw hK
theorem xole (d h g m : Nat) (k : IntKind) (xs : List Int) (r : List Value) (ty : TypeId) (v : Int) (he : Ve (rd xs m) v) {o : Oper} {t : TypeId} {a : Operand} (hm : m < xs.length) (hk : NW X ops (Nat.succ j) ⟨(d, .int k v) :: env, bs, fs⟩ K)
    (hb : bs[h]? = some ⟨g, cl k xs r, ty⟩ := by kernel_rfl) (ho : ops[j]? = some o := by rfl) (hop : o.op = .load t a := by rfl) (hg : guardD ops env o = some true := by kernel_rfl) (hf : fitO X.n env o = true := by kernel_rfl) (hd : o.dst = some d := by rfl)
    (ha : evD env a = .pointer (some ⟨g, m, none⟩) := by kernel_rfl) (ht : ∀ w, (isAgg t).run X.P w = .ok false w := by intro w; kernel_rfl) : NW X ops j ⟨env, bs, fs⟩ K := by
  obtain ⟨rfl⟩ := he
  exact xol d h g m k xs r ty hm hk hb ho hop hg hf hd ha ht
theorem xfle (d : Nat) {k : IntKind} {ad : Addr} {c : Nat} {xs : List Int} (hF : In (Row k (some ad) c xs) fs) (m : Nat) (v : Int) (he : Ve (rd xs m) v) {o : Oper} {t : TypeId} {a : Operand} (h1 : m < xs.length) (h : NW X ops (Nat.succ j) ⟨(d, .int k v) :: env, bs, fs⟩ K)
    (ho : ops[j]? = some o := by rfl) (hop : o.op = .load t a := by rfl) (hg : guardD ops env o = some true := by kernel_rfl) (hf : fitO X.n env o = true := by kernel_rfl) (hd : o.dst = some d := by rfl)
    (ha : evD env a = .pointer (some (ad.add m)) := by kernel_rfl) (ht : ∀ w, (isAgg t).run X.P w = .ok false w := by intro w; kernel_rfl) : NW X ops j ⟨env, bs, fs⟩ K := by
  obtain ⟨rfl⟩ := he
  exact xfl d hF m h1 h ho hop hg hf hd ha ht
theorem xdole (i : Nat) (hB : waitsOk (rtab .any ops).2 BB = true) (d h g m : Nat) (k : IntKind) (xs : List Int) (r : List Value) (ty : TypeId) (v : Int) (he : Ve (rd xs m) v) {o : Oper} {t : TypeId} {a : Operand} (hm : m < xs.length) (hk : RW X ops ds s0 true (l.set i true) ⟨(d, .int k v) :: env, bs, fs⟩ K)
    (hb : s0.bs[h]? = some ⟨g, cl k xs r, ty⟩ := by kernel_rfl) (ho : ops[i]? = some o := by rfl) (hop : o.op = .load t a := by rfl) (hg : guardD ops env o = some true := by kernel_rfl) (hf : fitO X.n env o = true := by kernel_rfl) (hd : o.dst = some d := by rfl) (hc : takeW (rtab .any ops) BB ds l (l.set i true) i = true := by kernel_rfl)
    (ha : evD env a = .pointer (some ⟨g, m, none⟩) := by kernel_rfl) (ht : ∀ w, (isAgg t).run X.P w = .ok false w := by intro w; kernel_rfl)
    (hK : Calm K := by repeat (first | with_reducible refine Calm.then_ ?_ _ | with_reducible refine Calm.block_ ?_ _ | with_reducible exact RetK.calm | with_reducible exact RetM.calm | with_reducible exact RetL.calm | exact RetK.calm)) : RW X ops ds s0 true l ⟨env, bs, fs⟩ K := by
  obtain ⟨rfl⟩ := he
  exact xdol i hB d h g m k xs r ty hm hk hb ho hop hg hf hd hc ha ht hK
theorem xdfle (i : Nat) (hB : waitsOk (rtab .any ops).2 BB = true) (d : Nat) {k : IntKind} {ad : Addr} {c : Nat} {xs : List Int} (hF : In (Row k (some ad) c xs) s0.fs) (m : Nat) (v : Int) (he : Ve (rd xs m) v) {o : Oper} {t : TypeId} {a : Operand} (h1 : m < xs.length) (h : RW X ops ds s0 true (l.set i true) ⟨(d, .int k v) :: env, bs, fs⟩ K)
    (ho : ops[i]? = some o := by rfl) (hop : o.op = .load t a := by rfl) (hg : guardD ops env o = some true := by kernel_rfl) (hf : fitO X.n env o = true := by kernel_rfl) (hd : o.dst = some d := by rfl) (hc : takeW (rtab .any ops) BB ds l (l.set i true) i = true := by kernel_rfl)
    (ha : evD env a = .pointer (some (ad.add m)) := by kernel_rfl) (ht : ∀ w, (isAgg t).run X.P w = .ok false w := by intro w; kernel_rfl)
    (hK : Calm K := by repeat (first | with_reducible refine Calm.then_ ?_ _ | with_reducible refine Calm.block_ ?_ _ | with_reducible exact RetK.calm | with_reducible exact RetM.calm | with_reducible exact RetL.calm | exact RetK.calm)) : RW X ops ds s0 true l ⟨env, bs, fs⟩ K := by
  obtain ⟨rfl⟩ := he
  exact xdfl i hB d hF m h1 h ho hop hg hf hd hc ha ht hK
end
theorem run_quo {P : Program} {ρ : Operand → Value} {o : Oper} {x y : Operand} {t yt : TypeId} {k : IntKind} {a b : Int} (ho : o.op = .binOp .quo t x y yt) (hx : ρ x = .int k a) (hy : ρ y = .int k b) (hb : b ≠ 0) (w : World) : (execOp ρ o).run P w = .ok (.value (.int k (k.wrap (Int.tdiv a b)))) w := by
  unfold execOp
  simp [ho, hx, hy, binOp, Op.intDiv, hb, eqGuard]
theorem run_rem {P : Program} {ρ : Operand → Value} {o : Oper} {x y : Operand} {t yt : TypeId} {k : IntKind} {a b : Int} (ho : o.op = .binOp .rem t x y yt) (hx : ρ x = .int k a) (hy : ρ y = .int k b) (hb : b ≠ 0) (w : World) : (execOp ρ o).run P w = .ok (.value (.int k (Int.tmod a b))) w := by
  unfold execOp
  simp [ho, hx, hy, binOp, Op.intDiv, hb, eqGuard]
section
variable {X : Cx} {env : List (Nat × Value)} {bs : List Box} {fs : List Fact} {K : Exit → St → Prop} {ops : Array Oper} {j : Nat}
theorem xqo (d a b : Nat) (hb : 0 < b) (ha : a < 18446744073709551616) {o : Oper} {t yt : TypeId} {x y : Operand} (h : NW X ops (Nat.succ j) ⟨(d, .int .u64 ((a / b : Nat) : Int)) :: env, bs, fs⟩ K)
    (ho : ops[j]? = some o := by rfl) (hop : o.op = .binOp .quo t x y yt := by rfl) (hg : guardD ops env o = some true := by kernel_rfl) (hf : fitO X.n env o = true := by kernel_rfl) (hd : o.dst = some d := by rfl)
    (hx : evD env x = .int .u64 (a : Int) := by kernel_rfl) (hy : evD env y = .int .u64 (b : Int) := by kernel_rfl) : NW X ops j ⟨env, bs, fs⟩ K :=
  nv _ d _ ho hg hf hd (fun w _ _ => by rw [run_quo hop hx hy (by omega) w, (Nn.u (Nn.div ⟨rfl⟩ ⟨rfl⟩ : Nn (Int.tdiv (a : Int) (b : Int)) (a / b)) (by have := Nat.div_le_self a b; omega)).out]) rfl h
variable {s0 : St} {ds : List Nat} {l : List Bool} {BB : List Nat} {lv : Bool}
theorem xdqo (i : Nat) (hB : waitsOk (rtab .any ops).2 BB = true) (d a b : Nat) (hb : 0 < b) (ha : a < 18446744073709551616) {o : Oper} {t yt : TypeId} {x y : Operand} (h : RW X ops ds s0 true (l.set i true) ⟨(d, .int .u64 ((a / b : Nat) : Int)) :: env, bs, fs⟩ K)
    (ho : ops[i]? = some o := by rfl) (hop : o.op = .binOp .quo t x y yt := by rfl) (hg : guardD ops env o = some true := by kernel_rfl) (hf : fitO X.n env o = true := by kernel_rfl) (hd : o.dst = some d := by rfl) (hc : takeW (rtab .any ops) BB ds l (l.set i true) i = true := by kernel_rfl)
    (hx : evD env x = .int .u64 (a : Int) := by kernel_rfl) (hy : evD env y = .int .u64 (b : Int) := by kernel_rfl)
    (hK : Calm K := by repeat (first | with_reducible refine Calm.then_ ?_ _ | with_reducible refine Calm.block_ ?_ _ | with_reducible exact RetK.calm | with_reducible exact RetM.calm | with_reducible exact RetL.calm | exact RetK.calm)) : RW X ops ds s0 true l ⟨env, bs, fs⟩ K :=
  dv _ i d _ hK rfl hB ho hg hf hd hc rfl (fun w _ _ => by rw [run_quo hop hx hy (by omega) w, (Nn.u (Nn.div ⟨rfl⟩ ⟨rfl⟩ : Nn (Int.tdiv (a : Int) (b : Int)) (a / b)) (by have := Nat.div_le_self a b; omega)).out]) h
theorem xdqr (i : Nat) (hB : waitsOk (rtab .any ops).2 BB = true) (d a b : Nat) (hb : 0 < b) (ha : a < 18446744073709551616) {o : Oper} {t yt : TypeId} {x y : Operand} (h : RW X ops ds s0 true (l.set i true) ⟨(d, .int .u64 ((a % b : Nat) : Int)) :: env, bs, fs⟩ K)
    (ho : ops[i]? = some o := by rfl) (hop : o.op = .binOp .rem t x y yt := by rfl) (hg : guardD ops env o = some true := by kernel_rfl) (hf : fitO X.n env o = true := by kernel_rfl) (hd : o.dst = some d := by rfl) (hc : takeW (rtab .any ops) BB ds l (l.set i true) i = true := by kernel_rfl)
    (hx : evD env x = .int .u64 (a : Int) := by kernel_rfl) (hy : evD env y = .int .u64 (b : Int) := by kernel_rfl)
    (hK : Calm K := by repeat (first | with_reducible refine Calm.then_ ?_ _ | with_reducible refine Calm.block_ ?_ _ | with_reducible exact RetK.calm | with_reducible exact RetM.calm | with_reducible exact RetL.calm | exact RetK.calm)) : RW X ops ds s0 true l ⟨env, bs, fs⟩ K :=
  dv _ i d _ hK rfl hB ho hg hf hd hc rfl (fun w _ _ => by rw [run_rem hop hx hy (by omega) w, (Nn.mod ⟨rfl⟩ ⟨rfl⟩ : Nn (Int.tmod (a : Int) (b : Int)) (a % b)).out]) h
end
end Go.Proofs.YtgknelgplmohoaaDoor.X
end
