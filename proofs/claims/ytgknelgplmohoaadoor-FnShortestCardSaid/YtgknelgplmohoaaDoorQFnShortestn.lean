import Derived.RangeFuncRecord
import Derived.Test.YtgknelgplmohoaaDoorQFnShortestm
section
namespace Go.Proofs.YtgknelgplmohoaaDoor.X
open Go.RowKit Go.Proofs.YtgknelgplmohoaaDoorV.PrintWords Go.Proofs.YtgknelgplmohoaaDoorV.PrintLast
set_option linter.unusedVariables false
set_option linter.unusedSimpArgs false
abbrev loopO (st : LoopState) (fn : FuncId) (tm : Array Value) (ps : Array Tmp) (asg body : Code) (D : Nat) : Obj := .loop { state := st, pending := none, fn := fn, tmps := tm, params := ps, assign := asg, body := body, defers := D }
def CtY (P : Program) (l : Nat) (args : List Value) (bs : List Box) (pre : List Fact) {γ : Type} (val : γ → Value) (bs' : γ → List Box) (post : γ → List Fact) : Prop :=
  ∀ (B : List Nat) (w : World), (∀ k ∈ B, k < w.heap.size ∧ k ∉ bs.map Box.id) → WB bs w → (bs.map Box.id).Nodup → (∀ F ∈ pre, Foot F w (away B bs)) →
    ∃ f tmps asg body, (Instr.yield l args.toArray).run P w = .ok (.round l f tmps asg body) w ∧
      RoundIn Fence.wide 0 P l f tmps asg body w fun e w' => ∃ g : γ, e = .returned (val g) ∧ Holds ⟨P, 0, B, ⟨w, bs.map Box.id, []⟩, none⟩ ⟨[], bs' g, post g⟩ w'
theorem CtY.call {P : Program} {l : Nat} {args : List Value} {bs : List Box} {pre : List Fact} {γ : Type} {val : γ → Value} {bs' : γ → List Box} {post : γ → List Fact} (hc : CtY P l args bs pre val bs' post) {X : Cx} (hP : X.P = P) {s : St} {w : World} (hw : Holds X s w) (m : List Bool) (hm : pick s.bs m = bs) (hp : Sub pre s.fs) (e : List (Nat × Value)) :
    ∃ f tmps asg body, (Instr.yield l args.toArray).run P w = .ok (.round l f tmps asg body) w ∧
      RoundIn Fence.wide 0 P l f tmps asg body w fun en w' => ∃ g : γ, en = .returned (val g) ∧ Holds X ⟨e, plug s.bs m (bs' g), post g ++ s.fs⟩ w' := by
  subst hm
  have hperm := pick_perm s.bs m
  have hmem : ∀ b, b ∈ s.bs ↔ b ∈ pick s.bs m ∨ b ∈ rest s.bs m := fun b => by rw [← hperm.mem_iff, List.mem_append]
  have hnd : ((pick s.bs m).map Box.id ++ (rest s.bs m).map Box.id).Nodup := by
    rw [← List.map_append]
    exact (hperm.map Box.id).nodup_iff.2 hw.nodup
  obtain ⟨f, tmps, asg, body, hy, hr⟩ := hc (X.B ++ (rest s.bs m).map Box.id) w (fun k hk => by
    rcases List.mem_append.1 hk with hk | hk
    · refine ⟨Nat.lt_of_lt_of_le (hw.old k hk).1 hw.below.size, fun hm2 => ?_⟩
      obtain ⟨b, hb, rfl⟩ := List.mem_map.1 hm2
      exact (hw.new b ((hmem b).2 (.inl hb))).elim (fun z => absurd (hw.old _ hk).1 (Nat.not_lt.2 z)) (hw.old _ hk).2
    · obtain ⟨b, hb, rfl⟩ := List.mem_map.1 hk
      exact ⟨wb_lt hw.box b ((hmem b).2 (.inr hb)), fun hm2 => (List.nodup_append.1 hnd).2.2 _ hm2 _ hk rfl⟩) (fun b hb => hw.box b ((hmem b).2 (.inl hb))) (List.nodup_append.1 hnd).1 (fun F hF => (hw.fact F (hp.mem F hF)).mono (fun k hk => by
    refine ⟨fun hB => ?_, fun b hb e => hk.2 b ((hmem b).2 (.inl hb)) e⟩
    rcases List.mem_append.1 hB with hB | hB
    · exact hk.1 hB
    · obtain ⟨b, hb, e⟩ := List.mem_map.1 hB
      exact hk.2 b ((hmem b).2 (.inr hb)) e.symm))
  refine ⟨f, tmps, asg, body, hy, hr.mono ?_⟩
  rintro en w' ⟨g, rfl, h2⟩
  subst hP
  exact ⟨g, rfl, hw.back e h2⟩
section
variable {X : Cx} {env : List (Nat × Value)} {bs : List Box} {fs : List Fact} {K : Exit → St → Prop} {ops : Array Oper} {i : Nat}
theorem xcy (d : Nat) (m : List Bool) {l : Nat} {args : List Value} {bq : List Box} {pre : List Fact} {γ : Type} {val : γ → Value} {bs' : γ → List Box} {post : γ → List Fact} {o : Oper} (hc : CtY X.P l args bq pre val bs' post) (hp : Sub pre fs)
    (h : ∀ g, NW X ops (Nat.succ i) ⟨(d, val g) :: env, plug bs m (bs' g), post g ++ fs⟩ K)
    (ho : ops[i]? = some o := by rfl) (hg : guardD ops env o = some true := by kernel_rfl) (hf : fitO X.n env o = true := by kernel_rfl) (hd : o.dst = some d := by rfl)
    (hr : ∀ w, (execOp (evD env) o).run X.P w = (Instr.yield l args.toArray).run X.P w := by intro w; kernel_rfl) (hm : pick bs m = bq := by kernel_rfl) : NW X ops i ⟨env, bs, fs⟩ K := by
  obtain ⟨h1, h2, h3⟩ := fitO_spec hf
  refine NW_on (s := ⟨env, bs, fs⟩) ho hg (fun a w ha hw => ?_)
  obtain ⟨f, tmps, asg, body, hy, hr2⟩ := hc.call rfl hw m hm hp env
  refine opIn (r := .ok (.round l f tmps asg body) w) h2 (by rw [ha.exec h2 h3, hr w]; exact hy) ?_
  rw [Oper.uponIn_round]
  refine ⟨fun z => (by cases z), hr2.mono ?_⟩
  rintro en w' ⟨g, rfl, hw'⟩
  have ha' : Agree X.fr ⟨env, plug bs m (bs' g), post g ++ fs⟩ a := ⟨ha.size, ha.defers, ha.env⟩
  rw [hd]
  exact h g _ _ (ha'.put (some d) (by rw [← hd]; exact dstOk_lt h1) _) (hw'.put (some d) _)
end
def RetY (X : Cx) (lb : Box) (lr : Box) {γ : Type} (bs' : γ → List Box) (post : γ → List Fact) : Exit → St → Prop
  | .normal, s => ∃ g m bsx, s.bs = lb :: bsx ∧ bs' g = lr :: pick bsx m ∧ Sub (post g) s.fs
  | _, _ => False
theorem RetY.calm {X : Cx} {lb lr : Box} {γ : Type} {bs' : γ → List Box} {post : γ → List Fact} : Calm (RetY X lb lr bs' post) := fun _ _ h => h
theorem Holds.weak {X : Cx} {s t : St} {w : World} (h : Weak s t) (hw : Holds X s w) : Holds X t w :=
  ⟨hw.below, h.bs ▸ hw.box, h.bs ▸ hw.new, h.bs ▸ hw.nodup, fun F hF => (by
    have := hw.fact F (h.fs.mem F hF)
    rw [h.bs] at this
    exact this), hw.old⟩
theorem Agree.weak {n : Nat × List Deferred} {s t : St} {a : Act} (h : Weak s t) (ha : Agree n s a) : Agree n t a := ⟨ha.size, ha.defers, fun i v hv => ha.env i v (h.env i v hv)⟩
theorem cy_of {P : Program} {n : Nat} {fn : FuncId} {tm : Array Value} {t : Tmp} {asg body : Code} {D l : Nat} {env0 env1 : List (Nat × Value)} {v : Value} {bs0 : List Box} {pre : List Fact} {γ : Type} {bs' : γ → List Box} {post : γ → List Fact} (hT : Agree (n, []) ⟨env0, [], []⟩ ⟨tm, []⟩) (ht : t < n)
    (ha : ∀ B w0, SW ⟨P, n, B, w0, some l⟩ asg ⟨(t, v) :: env0, ⟨l, [], .ob (loopO .ready fn tm #[t] asg body D)⟩ :: bs0, pre⟩ (thenK (fun s' => Weak s' ⟨env1, ⟨l, [], .ob (loopO .ready fn tm #[t] asg body D)⟩ :: bs0, pre⟩) (fun _ _ => False)))
    (hb : ∀ B w0, SW ⟨P, n, B, w0, some l⟩ body ⟨env1, ⟨l, [], .ob (loopO .busy fn tm #[t] asg body D)⟩ :: bs0, pre⟩ (RetY ⟨P, n, B, w0, some l⟩ ⟨l, [], .ob (loopO .busy fn tm #[t] asg body D)⟩ ⟨l, [], .ob (loopO .ready fn tm #[t] asg body D)⟩ bs' post)) :
    CtY P l [v] (⟨l, [], .ob (loopO .ready fn tm #[t] asg body D)⟩ :: bs0) pre (γ := γ) (fun _ => .bool true) bs' post := by
  intro B w hB hbs hnd hp
  have hl : w.heap[l]? = some (loopO .ready fn tm #[t] asg body D) := hbs _ (List.mem_cons_self ..)
  have hy : (Instr.yield l [v].toArray).run P w = .ok (.round l fn (tm.setIfInBounds t v) asg body) w := by
    have := run_yield (P := P) (args := #[v]) hl rfl
    simpa using this
  refine ⟨_, _, _, _, hy, roundIn_of_wpIn trivial ?_⟩
  have h0 : Holds ⟨P, n, B, ⟨w, (⟨l, [], .ob (loopO .ready fn tm #[t] asg body D)⟩ :: bs0 : List Box).map Box.id, []⟩, some l⟩ ⟨(t, v) :: env0, ⟨l, [], .ob (loopO .ready fn tm #[t] asg body D)⟩ :: bs0, pre⟩ w :=
    ⟨Kept.of (Below.refl _ _), hbs, fun b hb => .inr (List.mem_map_of_mem hb), hnd, hp, hB⟩
  have hag : Agree (n, []) ⟨(t, v) :: env0, ⟨l, [], .ob (loopO .ready fn tm #[t] asg body D)⟩ :: bs0, pre⟩ { tmps := tm.setIfInBounds t v, defers := [] } := by
    have := hT.put (some t) (fun k hk => by cases hk; exact ht) v
    exact ⟨this.size, this.defers, this.env⟩
  refine wpIn_mono (ha B _ _ w hag h0) ?_
  rintro e a1 w1 ⟨s1, ha1, hw1, hk1⟩
  cases e with
  | normal =>
    have ha2 := ha1.weak hk1
    have hw2 := hw1.weak hk1
    have hl1 : w1.heap[l]? = some (loopO .ready fn tm #[t] asg body D) := hw2.box _ (List.mem_cons_self ..)
    refine ⟨_, run_beginRound hl1 rfl, ?_⟩
    have hx := putB_ext (h := 0) (loopO .busy fn tm #[t] asg body D) (b := ⟨l, [], .ob (loopO .ready fn tm #[t] asg body D)⟩) (bs := ⟨l, [], .ob (loopO .ready fn tm #[t] asg body D)⟩ :: bs0) rfl rfl hw2.box hw2.nodup
    have hw3 := hw2.ext hx env1
    refine wpIn_mono (hb B _ a1 _ ⟨ha2.size, ha2.defers, ha2.env⟩ hw3) ?_
    rintro e a4 w4 ⟨s4, ha4, hw4, hk4⟩
    cases e with
    | normal =>
      obtain ⟨g, m, bsx, e1, e2, hsub⟩ := hk4
      have hl4 : w4.heap[l]? = some (loopO .busy fn tm #[t] asg body D) := hw4.box ⟨l, [], .ob (loopO .busy fn tm #[t] asg body D)⟩ (by rw [e1]; exact List.mem_cons_self ..)
      refine ⟨_, _, run_endRound none hl4, g, rfl, ?_⟩
      have hx4 := putB_ext (h := 0) (loopO .ready fn tm #[t] asg body D) (b := ⟨l, [], .ob (loopO .busy fn tm #[t] asg body D)⟩) (bs := s4.bs) (by rw [e1]; rfl) rfl hw4.box hw4.nodup
      have hw5 := hw4.ext hx4 []
      rw [e1] at hw5
      have hnd5 := hw5.nodup
      have hsubl : List.Sublist (⟨l, [], .ob (loopO .ready fn tm #[t] asg body D)⟩ :: pick bsx m) (putB (⟨l, [], .ob (loopO .busy fn tm #[t] asg body D)⟩ :: bsx) 0 (loopO .ready fn tm #[t] asg body D)) := (pick_sub bsx m).cons_cons _
      have hw6 := hw5.sub (bs' := ⟨l, [], .ob (loopO .ready fn tm #[t] asg body D)⟩ :: pick bsx m) (fun b hb => hsubl.subset hb) ((hsubl.map Box.id).nodup hnd5) []
      rw [e2]
      exact ⟨hw6.below, hw6.box, hw6.new, hw6.nodup, fun F hF => hw6.fact F (hsub.mem F hF), hw6.old⟩
    | _ => exact hk4.elim
  | _ => exact hk1.elim
section
variable {X : Cx} {env : List (Nat × Value)} {bs : List Box} {fs : List Fact} {Q : Post}
theorem SQ_block {id : Nat} {c : Code} {s : St} (h : SQ X c s (Exit.inBlock id Q)) : SQ X (.block id c) s Q := fun a w ha hw => wpIn_block (h a w ha hw)
theorem SQ_range {gop : Operand} {ps : Array Tmp} {asg body : Code} (gf : FuncId) (cap : Array Value) (hg : ev env gop = some (.func (.func gf) #[] cap)) (he : ∀ args w, (callFunc gf args).run X.P w = .ok (.enter gf args) w) (hrd : X.rd = none)
    (h : ∀ (fn : FuncId) (tm : Array Value) (D l : Nat), Agree (X.n, []) ⟨env, [], []⟩ ⟨tm, []⟩ → ∀ w, Holds X ⟨env, bs ++ [⟨D, [], .ob (.deferred (some []))⟩] ++ [⟨l, [], .ob (loopO .ready fn tm ps asg body D)⟩], fs⟩ w →
      Calls X.P gf (#[.func (.yield l) #[] #[]] ++ cap) w fun e w' => ∃ v bs2 fs2 h2, e = .returned v ∧ Holds X ⟨env, bs2, fs2⟩ w' ∧ bs2[h2]? = some ⟨l, [], .ob (loopO .ready fn tm ps asg body D)⟩ ∧
        ∀ a w, Agree (X.push ⟨.collected D, #[]⟩).fr ⟨env, putB bs2 h2 (loopO .exhausted fn tm ps asg body D), fs2⟩ a → Holds (X.push ⟨.collected D, #[]⟩) ⟨env, putB bs2 h2 (loopO .exhausted fn tm ps asg body D), fs2⟩ w → Q .normal a w) :
    SQ X (.rangeFunc gop ps asg body) ⟨env, bs, fs⟩ Q := by
  intro a w ha hw
  refine wpIn_rangeFunc (fun fn _ => ?_)
  have hr0 : X.F.round = none := hrd
  rw [hr0]
  have hev : a.eval gop = .func (.func gf) #[] cap := ha.ev hg
  have hw1 : Holds X ⟨env, bs ++ [⟨w.heap.size, [], .ob (.deferred (some []))⟩], fs⟩ (w.alloc (.deferred (some []))) := hw.ext (newO_ext ⟨w.heap.size, [], .ob (.deferred (some []))⟩ rfl hw.box hw.nodup) env
  have hs1 : w.heap.size + 1 = (w.alloc (.deferred (some []))).heap.size := (World.size_alloc w _).symm
  have hw2 : Holds X ⟨env, bs ++ [⟨w.heap.size, [], .ob (.deferred (some []))⟩] ++ [⟨w.heap.size + 1, [], .ob (loopO .ready fn a.tmps ps asg body w.heap.size)⟩], fs⟩ ((w.alloc (.deferred (some []))).alloc (loopO .ready fn a.tmps ps asg body w.heap.size)) := hw1.ext (newO_ext ⟨w.heap.size + 1, [], .ob (loopO .ready fn a.tmps ps asg body w.heap.size)⟩ hs1 hw1.box hw1.nodup) env
  have hel := run_enterLoop_outer (P := X.P) (w := w) fn a.tmps ps asg body
  have hcall := h fn a.tmps w.heap.size (w.heap.size + 1) ⟨ha.size, rfl, ha.env⟩ _ hw2
  generalize hW : (w.alloc (.deferred (some []))).alloc (loopO .ready fn a.tmps ps asg body w.heap.size) = W at hcall hw2
  have hel' : (Instr.enterLoop fn a.tmps ps asg body none).run X.P w = .ok (w.heap.size + 1, [{ target := .collected w.heap.size, args := #[] }]) W := by rw [← hW]; exact hel
  clear hel hW hw1
  have hres : (resolve a.eval (rangeCall gop (w.heap.size + 1)) 0).run X.P W = .ok ⟨.fn (.func gf) cap, #[.func (.yield (w.heap.size + 1)) #[] #[]]⟩ W := by
    simp only [resolve, hev]
    simp [go_sem]
  have hinv : (invoke (.fn (.func gf) cap) #[.func (.yield (w.heap.size + 1)) #[] #[]]).run X.P W = .ok (.enter gf (#[.func (.yield (w.heap.size + 1)) #[] #[]] ++ cap)) W := by
    simp [invoke, go_sem, he]
  have hfin : Calls X.P gf (#[.func (.yield (w.heap.size + 1)) #[] #[]] ++ cap) W (rangePost X.F 0 X.P (w.heap.size + 1) Q { a with defers := [{ target := .collected w.heap.size, args := #[] }] ++ a.defers }) := by
    refine hcall.mono ?_
    rintro e w' ⟨v, bs2, fs2, h2, rfl, hw3, hb2, hq⟩
    have hl : w'.heap[w.heap.size + 1]? = some (loopO .ready fn a.tmps ps asg body w.heap.size) := hw3.box _ (List.mem_of_getElem? hb2)
    refine ⟨none, _, run_endLoop hl (by simp), ?_⟩
    have hx4 := putB_ext (h := h2) (loopO .exhausted fn a.tmps ps asg body w.heap.size) hb2 rfl hw3.box hw3.nodup
    have hw4 := (hw3.ext hx4 env).push ⟨.collected w.heap.size, #[]⟩
    refine hq _ _ ⟨ha.size, ?_, ha.env⟩ hw4
    show _ :: a.defers = _ :: X.w0.df
    rw [ha.defers]
  have hf2 := callsX (X := X) (n := 0 - 1) hfin
  have hdep : X.F.depth.isSome = true → 1 ≤ 0 := fun z => (by cases z)
  refine ⟨w.heap.size + 1, [{ target := .collected w.heap.size, args := #[] }], W, ⟨.fn (.func gf) cap, #[.func (.yield (w.heap.size + 1)) #[] #[]]⟩, W, gf, #[.func (.yield (w.heap.size + 1)) #[] #[]] ++ cap, W, hel', hres, fun _ _ => trivial, hinv, hdep, ?_⟩
  exact hf2
end
abbrev LvM (P : Program) (fn : Func) (R : Ending → World → Prop) (a : Act) (w : World) : Prop := LeavesInM Fence.wide 0 P fn a.tmps R a.defers .returning w
theorem RetL.postM {X : Cx} {fn : Func} {R : Ending → World → Prop} : ∀ e a w, Lift X (RetL X fn (LvM X.P fn R)) e a w → bodyPostM Fence.wide 0 X.P fn R e a w := by
  rintro e a w ⟨s, ha, hw, hk⟩
  cases e with
  | normal => exact hk a w ha hw
  | ret => exact hk a w ha hw
  | _ => exact hk.elim
theorem cm_ofY {P : Program} {f : FuncId} {fn : Func} {c : Code} {args : List Value} {bs : List Box} {pre : List Fact} {γ : Type} {val : γ → Value} {bs' : γ → List Box} {post : γ → List Fact} (hf : P.funcs[f]? = some fn) (hb : fn.body = some c) (hn : Nat.ble args.length fn.ntmps = true)
    (h : ∀ B w (M : List Nat), SQ ⟨P, fn.ntmps, B, ⟨w, M, []⟩, none⟩ c ⟨argEnv args 0, bs, pre⟩ (bodyPostM Fence.wide 0 P fn (LeftM P B ⟨w, M, []⟩ val bs' post))) : CtM P f args bs pre val bs' post := by
  intro B w hB hbs hnd hp
  have hn' := Nat.le_of_ble_eq_true hn
  have hag : Agree (fn.ntmps, []) ⟨argEnv args 0, bs, pre⟩ { tmps := args.toArray ++ Array.replicate (fn.ntmps - args.toArray.size) undef, defers := [] } := by
    refine ⟨by simp; omega, rfl, fun t v hl => ?_⟩
    obtain ⟨_, h2⟩ := look_arg args 0 t v hl
    have hlt : t < args.length := (List.getElem?_eq_some_iff.1 (by simpa using h2)).1
    rw [Array.getElem?_append_left (by simpa using hlt)]
    simpa using h2
  have h0 : Holds ⟨P, fn.ntmps, B, ⟨w, bs.map Box.id, []⟩, none⟩ ⟨argEnv args 0, bs, pre⟩ w :=
    ⟨Kept.of (Below.refl _ _), hbs, fun b hb => .inr (List.mem_map_of_mem hb), hnd, hp, hB⟩
  exact callsIn_wide.1 (callsIn_of_wp_marks (n := 0) hf hb trivial (h B w (bs.map Box.id) _ w hag h0))
theorem leave_range {P : Program} {n : Nat} {B M : List Nat} {w0 : World} {fn : Func} {γ : Type} {val : γ → Value} {bs' : γ → List Box} {post : γ → List Fact} {env : List (Nat × Value)} {bs : List Box} {fs : List Fact} (h D : Nat) (g0 : γ) (m : List Bool) (hs : List Nat) (v : Value)
    (hv : v = val g0) (hm : bs' g0 = pick (putB bs h (.deferred none)) m) (hsub : Sub (post g0) fs) (hb : bs[h]? = some ⟨D, [], .ob (.deferred (some []))⟩ := by rfl)
    (ho : outN P fn ⟨env, putB bs h (.deferred none), fs⟩ hs = some (v, fsts (psO (outN P fn ⟨env, putB bs h (.deferred none), fs⟩ hs))) := by kernel_rfl) :
    RetL (Cx.push ⟨P, n, B, ⟨w0, M, []⟩, none⟩ ⟨.collected D, #[]⟩) fn (LvM P fn (LeftM P B ⟨w0, M, []⟩ val bs' post)) .ret ⟨env, bs, fs⟩ := by
  intro a w ha hw
  have hd : a.defers = [⟨.collected D, #[]⟩] := ha.defers
  show LeavesInM Fence.wide 0 P fn a.tmps _ a.defers .returning w
  rw [hd]
  have hbw : w.heap[D]? = some (.deferred (some [])) := hw.box _ (List.mem_of_getElem? hb)
  refine ⟨(by intro h; cases h), .inl ⟨D, _, rfl, run_takeDeferred hbw, ?_⟩⟩
  have hx : Holds ⟨P, n, B, ⟨w0, M, []⟩, none⟩ ⟨env, putB bs h (.deferred none), fs⟩ (w.putObj D (.deferred none)) := by
    have h3 := hw.ext (putB_ext (.deferred none) hb rfl hw.box hw.nodup) env
    exact ⟨⟨h3.below.os, h3.below.tape, h3.below.output, h3.below.size, h3.below.block⟩, h3.box, h3.new, h3.nodup, h3.fact, h3.old⟩
  have ha2 : Agree (n, []) ⟨env, putB bs h (.deferred none), fs⟩ ⟨a.tmps, []⟩ := ⟨ha.size, rfl, ha.env⟩
  exact left_end (P := P) ha2 hx g0 m hs _ (by rw [← fsts_dup, ← hv]; exact ho) hm hsub
end Go.Proofs.YtgknelgplmohoaaDoor.X
end
section
namespace Go.Proofs.YtgknelgplmohoaaDoor.M
open Go.RowKit Go.Proofs.YtgknelgplmohoaaDoor.G Go.Proofs.YtgknelgplmohoaaDoorV.PrintWords Go.Proofs.YtgknelgplmohoaaDoorV.PrintLast Go.Proofs.YtgknelgplmohoaaDoor.X
set_option linter.unusedVariables false
set_option linter.unusedSimpArgs false
def digN (d : Nat) : Nat → List Int
 | 0 => []
 | n + 1 => digN d n ++ [((48 + d / 10 ^ n % 10 : Nat) : Int)]
theorem digN_len (d n : Nat) : (digN d n).length = n := by
 induction n with
 | zero => rfl
 | succ n ih => simp [digN, ih]
def lowD : Nat → Nat → List Int
 | 0, _ => []
 | f + 1, x => if x = 0 then [] else digN (x % 10000000000000000000) 19 ++ lowD f (x / 10000000000000000000)
theorem lowD_more : ∀ (f g x : Nat), x ≤ f → x ≤ g → lowD f x = lowD g x
 | 0, 0, _, _, _ => rfl
 | 0, g + 1, x, h, _ => by
  obtain rfl : x = 0 := by omega
  simp [lowD]
 | f + 1, 0, x, _, h => by
  obtain rfl : x = 0 := by omega
  simp [lowD]
 | f + 1, g + 1, x, h1, h2 => by
  by_cases hx : x = 0
  ·simp [lowD, hx]
  ·simp only [lowD, if_neg hx]
   rw [lowD_more f g (x / 10000000000000000000) (by omega) (by omega)]
theorem lowD_step {x : Nat} (hx : x ≠ 0) : lowD x x = digN (x % 10000000000000000000) 19 ++ lowD (x / 10000000000000000000) (x / 10000000000000000000) := by
 obtain ⟨f, rfl⟩ : ∃ f, x = f + 1 := ⟨x - 1, by omega⟩
 rw [lowD, if_neg hx, lowD_more f ((f + 1) / 10000000000000000000) _ (by omega) (Nat.le_refl _)]
def OB (gO gB : Nat) (O : List Int) (r : List Value) (c : Nat) : List Box := [⟨gO, [.slice (some ⟨gB, 0, none⟩) O.length c], 22⟩, ⟨gB, cl .u8 O r, 5⟩]
abbrev OG (n : Nat) : Type := {p : Nat × List Value × Nat // n + p.2.1.length = p.2.2}
abbrev OGb (gO : Nat) (O : List Int) (p : OG O.length) : List Box := OB gO p.1.1 O p.1.2.1 p.1.2.2
theorem divWord_n (x : Nat) (A : Option Addr) (c : Nat) (hx : Sm x) (d : Nat) (hd : 0 < d) (hdB : d < 18446744073709551616) : CtRV Tryd.prog 149 [.slice A (ofN B64 x).length c, .int .u64 (d : Int)] [Row .u64 A c (ofN B64 x)] .u64 (ofN B64 (x / d)) (.int .u64 ((x % d : Nat) : Int)) := by
 obtain ⟨d1, n1, v1⟩ := ofN_spec B64_2 x
 obtain ⟨d2, n2, v2⟩ := ofN_spec B64_2 (x / d)
 have hl := hx.len64
 have := ct_impl_nat_divWord_rows _ A c d d1 (by omega) hd hdB _ d2 n2 (by rw [v2, v1])
 rw [v1] at this
 exact this
theorem ct_impl_nat_groups_1 (gA gO l : Nat) (lo : Obj) (x : Nat) (hx : Sm x) (A : Option Addr) (cA : Nat)
  (hy : ∀ (d : Nat) (O : List Int) (gB : Nat) (r : List Value) (c : Nat), d < 10000000000000000000 → O.length + r.length = c → O.length ≤ 1000000 → CtY Tryd.prog l [.int .u64 (d : Int)] (⟨l, [], .ob lo⟩ :: OB gO gB O r c) [] (γ := OG (O ++ digN d 19).length) (fun _ => .bool true) (fun p => ⟨l, [], .ob lo⟩ :: OGb gO (O ++ digN d 19) p) (fun _ => [])) :
  ∀ (O : List Int) (gB : Nat) (r : List Value) (c : Nat), O.length + r.length = c → O.length + (lowD x x).length ≤ 900000 →
  CtM Tryd.prog 152 [.func (.yield l) #[] #[], .pointer (some ⟨gA, 0, none⟩)] ([⟨l, [], .ob lo⟩, ⟨gA, [.slice A (ofN B64 x).length cA], 91⟩] ++ OB gO gB O r c) [Row .u64 A cA (ofN B64 x)] (γ := OG (O ++ lowD x x).length) (fun _ => .tuple #[]) (fun p => ⟨l, [], .ob lo⟩ :: OGb gO (O ++ lowD x x) p) (fun _ => []) := by
 intro O gB r c hc hlen
 refine cm_of Tryd.func152 rfl (by kernel_rfl) (fun B w0 => ?_)
 refine SW_block ?_
 refine SW_loopn (fun m s => ∃ (A : Option Addr) (cA : Nat) (O1 : List Int) (gB : Nat) (r : List Value) (c : Nat), O1 ++ lowD m m = O ++ lowD x x ∧ O1.length + r.length = c ∧ m ≤ x ∧ Weak s ⟨[(0, .func (.yield l) #[] #[]), (1, .pointer (some ⟨gA, 0, none⟩))], [⟨l, [], .ob lo⟩, ⟨gA, [.slice A (ofN B64 m).length cA], 91⟩, ⟨gO, [.slice (some ⟨gB, 0, none⟩) O1.length c], 22⟩, ⟨gB, cl .u8 O1 r, 5⟩], [Row .u64 A cA (ofN B64 m)]⟩) x ⟨A, cA, O, gB, r, c, rfl, hc, Nat.le_refl _, ?_⟩ (fun m s hI => ?_)
 ·exact xw (zsS zi0 zs0)
 ·obtain ⟨A, cA, O1, gB, r, c, h1, h2, h3, hw⟩ := hI
  refine SW_weak hw ?_
  clear hw
  by_cases hm : m = 0
  ·subst hm
   rw [ofN_nil B64_2]
   rw [show lowD 0 0 = [] from rfl, List.append_nil] at h1
   subst h1
   refine SW_seq ?_
   refine xr [(0, [1])] [(6, .bool false)] ?_
   refine xs0 ?_
   refine SW_exit ?_
   refine xmfg (.tuple #[]) [] ?_
   exact ⟨⟨(gB, r, c), h2⟩, [true, false, true, true], rfl, rfl, zs0⟩
  ·have sm : Sm m := hx.mono h3
   have hz : 0 < (ofN B64 m).length := by
    rcases Nat.eq_zero_or_pos (ofN B64 m).length with h | h
    ·exact absurd ((ofN_zero B64_2 m).1 h) hm
    ·exact h
   have z : decide (((ofN B64 m).length : Int) > 0) = true := decide_eq_true (by omega)
   have cd := divWord_n m A cA sm 10000000000000000000 (by decide) (by decide)
   have hl1 : O1.length ≤ 900000 := by
    have := congrArg List.length h1
    simp only [List.length_append] at this
    omega
   rw [lowD_step hm, ← List.append_assoc] at h1
   have hlt : m % 10000000000000000000 < 10000000000000000000 := Nat.mod_lt _ (by decide)
   have hle : m / 10000000000000000000 < m := Nat.div_lt_self (by omega) (by decide)
   have cy := hy (m % 10000000000000000000) O1 gB r c hlt h2 (by omega)
   obtain ⟨q, hq⟩ : ∃ q, m / 10000000000000000000 = q := ⟨_, rfl⟩
   obtain ⟨d, hd⟩ : ∃ d, m % 10000000000000000000 = d := ⟨_, rfl⟩
   rw [hq, hd] at h1
   rw [hd] at cy
   rw [hq] at hle
   have cd' : CtRV Tryd.prog 149 [.slice A (ofN B64 m).length cA, .int .u64 10000000000000000000] [Row .u64 A cA (ofN B64 m)] .u64 (ofN B64 q) (.int .u64 (d : Int)) := by rw [← hq, ← hd]; exact cd
   clear cd hq hd hlt hy
   refine SW_seq ?_
   refine xr [(0, [1])] [(6, .bool (decide ((((List.length (ofN B64 m)) : Nat) : Int) > 0)))] ?_
   refine xst z ?_
   refine SW_skip ?_
   refine SW_block ?_
   refine xr [] [(3, .int .u64 0)] ?_
   refine xg ?_
   refine xn 1 [(0, [1])] [(8, .slice A (List.length (ofN B64 m)) cA)] ?_
   refine xct 9 cd' (zsS zi0 zs0) (fun A0 k0 => ?_)
   refine xy [(5, [1])] [(3, .int .u64 (d : Int))] [(1, [.slice A0 (List.length (ofN B64 q)) k0])] ?_
   refine xg ?_
   refine xn 2 [] [(13, .int .u64 (d : Int)), (12, Value.func (Fn.yield l) #[] #[])] ?_
   refine xcy 14 [true, false, true, true] cy zs0 (fun p => ?_)
   obtain ⟨⟨gB2, r2, c2⟩, hc2⟩ := p
   dsimp only at hc2
   refine xz [] [(15, .bool false)] ?_
   refine xs0 ?_
   refine SW_skip ?_
   refine ⟨q, hle, A0, k0, O1 ++ digN d 19, gB2, r2, c2, h1, hc2, by omega, ?_⟩
   exact xw (zsS zi0 zs0)
end Go.Proofs.YtgknelgplmohoaaDoor.M
end
section
namespace Go.Proofs.YtgknelgplmohoaaDoor.X
open Go.RowKit Go.Proofs.YtgknelgplmohoaaDoorV.PrintWords Go.Proofs.YtgknelgplmohoaaDoorV.PrintLast
set_option linter.unusedVariables false
set_option linter.unusedSimpArgs false
def psV (r : Option (Next × List Box × List (Nat × Nat))) : List (Nat × Nat) := match r with
  | none => []
  | some (_, _, ps) => ps
section
variable {X : Cx} {env : List (Nat × Value)} {bs : List Box} {fs : List Fact} {K : Exit → St → Prop} {ops : Array Oper} {s0 : St} {ds : List Nat} {lv : Bool} {l : List Bool}
theorem dx1 {s : St} (i : Nat) (h : RWs X ops ds s0 lv l s K i) (hr : (readyT (rtab .any ops).2 l == [i]) = true := by kernel_rfl) : RW X ops ds s0 lv l s K := RW_one rfl hr h
theorem RWs_val {i d : Nat} {o : Oper} (v : Value) (ho : ops[i]? = some o) (hg : guardD ops env o = some true) (hf : fitO X.n env o = true) (hd : o.dst = some d)
    (hv : ∀ w, WB bs w → (∀ F ∈ fs, F w) → (execOp (evD env) o).run X.P w = .ok (.value v) w) (h : RW X ops ds s0 lv (l.set i true) ⟨(d, v) :: env, bs, fs⟩ K) : RWs X ops ds s0 lv l ⟨env, bs, fs⟩ K i := by
  obtain ⟨h1, h2, h3⟩ := fitO_spec hf
  refine RWs_on (s := ⟨env, bs, fs⟩) ho hg (fun a w ha hw hS => ?_)
  unfold Oper.wp
  rw [ha.exec h2 h3, hv w hw.box (fun F hF => (hw.fact F hF).now), Oper.upon_value, hd]
  exact ⟨fun _ h => h, h _ _ (ha.put (some d) (by rw [← hd]; exact dstOk_lt h1) v) (hw.put (some d) v) hS⟩
theorem dxr (i d : Nat) (hs : List Nat) (v : Value) {o : Oper} (h : RW X ops ds s0 lv (l.set i true) ⟨(d, v) :: env, bs, fs⟩ K)
    (ho : ops[i]? = some o := by rfl) (hg : guardD ops env o = some true := by kernel_rfl) (hf : fitO X.n env o = true := by kernel_rfl) (hd : o.dst = some d := by rfl)
    (hr : runA X.P (execOp (evD env) o) bs hs none = some (.value v, bs, fsts (psV (runA X.P (execOp (evD env) o) bs hs none))) := by kernel_rfl) : RWs X ops ds s0 lv l ⟨env, bs, fs⟩ K i := by
  obtain ⟨h1, h2, h3⟩ := fitO_spec hf
  refine RWs_on (s := ⟨env, bs, fs⟩) ho hg (fun a w ha hw hS => ?_)
  obtain ⟨w', hrun, hext⟩ := runA_sound X.P _ hr (AllEq_fsts _) hw.box hw.nodup (fun i hi => by cases hi)
  have hb := ext_below hext (fun b hb => hb) hw.box
  unfold Oper.wp
  rw [ha.exec h2 h3, hrun, Oper.upon_value, hd]
  exact ⟨fun _ h0 => h0.call hb, h _ _ (ha.put (some d) (by rw [← hd]; exact dstOk_lt h1) v) ((hw.ext hext _).put (some d) v) (fun hl => (hS hl).call hb)⟩
theorem dxi (i d e g n c m : Nat) (k : IntKind) {o : Oper} {t : TypeId} {x ix : Operand} (hm : m < n) (h : RW X ops ds s0 lv (l.set i true) ⟨(d, .pointer (some ⟨g, m, none⟩)) :: env, bs, fs⟩ K)
    (ho : ops[i]? = some o := by rfl) (hop : o.op = .indexAddr t x ix := by rfl) (hg : guardD ops env o = some true := by kernel_rfl) (hf : fitO X.n env o = true := by kernel_rfl) (hd : o.dst = some d := by rfl)
    (hx : evD env x = .slice (some ⟨g, 0, none⟩) n c := by kernel_rfl) (hi : evD env ix = .int k (m : Int) := by kernel_rfl) (ht : ∀ w, (underlying t).run X.P w = .ok (.slice e) w := by intro w; kernel_rfl) (hs : ∀ w, (sizeOf e).run X.P w = .ok 1 w := by intro w; kernel_rfl) : RWs X ops ds s0 lv l ⟨env, bs, fs⟩ K i :=
  RWs_val _ ho hg hf hd (fun w _ _ => by rw [run_idx hop hx hi ht hs (by omega) (by omega) w, Int.toNat_natCast, add_base]) h
theorem dxs (i h g m : Nat) (k : IntKind) (xs : List Int) (r : List Value) (ty : TypeId) (x : Int) {o : Oper} {t : TypeId} {a y : Operand} (hm : m < xs.length) (hk : RW X ops ds s0 false (l.set i true) ⟨env, upC bs h (cl k (xs.set m x) r), fs⟩ K)
    (hb : bs[h]? = some ⟨g, cl k xs r, ty⟩ := by kernel_rfl) (ho : ops[i]? = some o := by rfl) (hop : o.op = .store t a y := by rfl) (hg : guardD ops env o = some true := by kernel_rfl) (hf : fitO X.n env o = true := by kernel_rfl) (hd : o.dst = none := by rfl) (hi : ds.contains i = true := by kernel_rfl)
    (ha : evD env a = .pointer (some ⟨g, m, none⟩) := by kernel_rfl) (hx : evD env y = .int k x := by kernel_rfl) (ht : (X.P.info? t).map (·.size) = some 1 := by kernel_rfl) : RWs X ops ds s0 lv l ⟨env, bs, fs⟩ K i := by
  obtain ⟨f1, f2, f3⟩ := fitO_spec hf
  refine RWs_on (s := ⟨env, bs, fs⟩) ho hg (fun a' w ha' hw hS => ?_)
  have := run_store_run (P := X.P) (w := w) (o := m) t (.int k x) [.int k x] (hw.box _ (List.mem_of_getElem? hb)) rfl ht (by simp [cl_len]; omega) (by simp [Value.oneCell'])
  have hrun : (execOp (evD env) o).run X.P w = .ok .skip (w.setCells g m [.int k x]) := by
    unfold execOp
    simp only [hop, ha, hx, Sem.run_bind, this]
    rfl
  unfold Oper.wp
  rw [ha'.exec f2 f3, hrun, Oper.upon_skip, hd]
  exact ⟨fun hn => absurd (by simpa using hi) hn, hk _ _ ⟨ha'.size, ha'.defers, ha'.env⟩ (hw.ext (set_ext hw.box hw.nodup hb hm x) env) (fun hl => by cases hl)⟩
theorem xdsh (i : Nat) {BB : List Nat} (hB : waitsOk (rtab .any ops).2 BB = true) (d e : Nat) (A : Option Addr) (n c m : Nat) (k : IntKind) {o : Oper} {t : TypeId} {x y : Operand} (hm : m ≤ c) (h : RW X ops ds s0 true (l.set i true) ⟨(d, .slice A m c) :: env, bs, fs⟩ K)
    (ho : ops[i]? = some o := by rfl) (hop : o.op = .slice t x none (some y) none := by rfl) (hg : guardD ops env o = some true := by kernel_rfl) (hf : fitO X.n env o = true := by kernel_rfl) (hd : o.dst = some d := by rfl) (hc : takeW (rtab .any ops) BB ds l (l.set i true) i = true := by kernel_rfl)
    (hx : evD env x = .slice A n c := by kernel_rfl) (hy : evD env y = .int k (m : Int) := by kernel_rfl) (ht : X.P.underlying t = some (.slice e) := by kernel_rfl) (hs : (X.P.info? e).map (·.size) = some 1 := by kernel_rfl)
    (hK : Calm K := by repeat (first | with_reducible refine Calm.then_ ?_ _ | with_reducible refine Calm.block_ ?_ _ | with_reducible exact RetK.calm | with_reducible exact RetM.calm | with_reducible exact RetL.calm | exact RetK.calm)) : RW X ops ds s0 true l ⟨env, bs, fs⟩ K :=
  dv _ i d _ hK rfl hB ho hg hf hd hc rfl (fun w _ _ => by
    have := run_slice (ρ := evD env) w hop hx ht hs (by simp only [Option.map_none, Option.map_some, hy]; exact sb_hi X.P w n c m k hm)
    rwa [add0, Nat.sub_zero, Nat.sub_zero] at this) h
theorem xdsl (i : Nat) {BB : List Nat} (hB : waitsOk (rtab .any ops).2 BB = true) (d e : Nat) (A A2 : Option Addr) (n c m : Nat) (k : IntKind) {o : Oper} {t : TypeId} {x y : Operand} (hA : (if c = m then A else A.map (·.add m)) = A2) (hm : m ≤ n) (h : RW X ops ds s0 true (l.set i true) ⟨(d, .slice A2 (n - m) (c - m)) :: env, bs, fs⟩ K)
    (ho : ops[i]? = some o := by rfl) (hop : o.op = .slice t x (some y) none none := by rfl) (hg : guardD ops env o = some true := by kernel_rfl) (hf : fitO X.n env o = true := by kernel_rfl) (hd : o.dst = some d := by rfl) (hc : takeW (rtab .any ops) BB ds l (l.set i true) i = true := by kernel_rfl)
    (hx : evD env x = .slice A n c := by kernel_rfl) (hy : evD env y = .int k (m : Int) := by kernel_rfl) (ht : X.P.underlying t = some (.slice e) := by kernel_rfl) (hs : (X.P.info? e).map (·.size) = some 1 := by kernel_rfl)
    (hK : Calm K := by repeat (first | with_reducible refine Calm.then_ ?_ _ | with_reducible refine Calm.block_ ?_ _ | with_reducible exact RetK.calm | with_reducible exact RetM.calm | with_reducible exact RetL.calm | exact RetK.calm)) : RW X ops ds s0 true l ⟨env, bs, fs⟩ K :=
  dv _ i d _ hK rfl hB ho hg hf hd hc rfl (fun w _ _ => by
    have := run_slice (ρ := evD env) w hop hx ht hs (by simp only [Option.map_none, Option.map_some, hy]; exact sb_lo X.P w n c m k hm)
    rw [this]
    subst hA
    split
    · next hh => simp [hh]
    · next hh => simp [hh]) h
theorem row_drop {kk : IntKind} {A A2 : Option Addr} {c m : Nat} {xs : List Int} {w : World} (hA : (if c = m then A else A.map (·.add m)) = A2) (hm : m ≤ xs.length) (h : Row kk A c xs w) : Row kk A2 (c - m) (xs.drop m) w := by
  subst hA
  refine ⟨?_, ?_⟩
  · have := Kd.C_drop (c := c) h.1 hm h.2
    rwa [show (Kd.int kk).sz = 1 from rfl, Nat.mul_one] at this
  · have := h.2
    rw [List.length_drop]
    omega
end
end Go.Proofs.YtgknelgplmohoaaDoor.X
end
section
namespace Go.Proofs.YtgknelgplmohoaaDoor.X
open Go.RowKit Go.Proofs.YtgknelgplmohoaaDoorV.PrintWords Go.Proofs.YtgknelgplmohoaaDoorV.PrintLast
set_option linter.unusedVariables false
set_option linter.unusedSimpArgs false
abbrev mkB (g : Nat) (cs : List Value) (e : TypeId) (mk : Nat × Nat) : Box := ⟨g, [], .ob (.cells cs.toArray e mk)⟩
theorem run_mark {P : Program} {w : World} {g n c : Nat} {cs : List Value} {t e : TypeId} (hh : w.heap[g]? = some (.cells cs.toArray e (0, 0))) (ht : P.underlying t = some (.slice e)) (he : P.underlying e = some (.int .u8)) :
    (convert t t (.slice (some ⟨g, 0, none⟩) n c)).run P w = .ok (.slice (some ⟨g, 0, none⟩) n c) { w with heap := w.heap.setIfInBounds g (.cells cs.toArray e (cs.length, cs.length + 1)) } := by
  have hsh : w.shape? g = some (e, cs.length) := by
    unfold World.shape?
    rw [hh]
    simp
  have hfr : w.freeze ⟨g, cs.length, none⟩ 1 = { w with heap := w.heap.setIfInBounds g (.cells cs.toArray e (cs.length, cs.length + 1)) } := by
    unfold World.freeze
    rw [if_neg (by decide)]
    congr 1
    obtain ⟨hlt, hg⟩ := Array.getElem?_eq_some_iff.1 hh
    apply Array.ext
    · simp
    · intro i h1 h2
      rw [Array.getElem_modify]
      by_cases h : g = i
      · subst h
        rw [if_pos rfl, hg]
        simp
      · rw [if_neg h, Array.getElem_setIfInBounds]
        rw [if_neg h]
  simp [convert, run_underlying ht, run_underlying he, markStringish, hsh]
  exact hfr
section
variable {X : Cx} {env : List (Nat × Value)} {bs : List Box} {fs : List Fact} {K : Exit → St → Prop} {ops : Array Oper} {j : Nat}
theorem xmk (h d g n c : Nat) (cs : List Value) (e : TypeId) {o : Oper} {t : TypeId} {x : Operand} (hk : NW X ops (Nat.succ j) ⟨(d, .slice (some ⟨g, 0, none⟩) n c) :: env, putB bs h (.cells cs.toArray e (cs.length, cs.length + 1)), fs⟩ K)
    (hb : bs[h]? = some ⟨g, cs, e⟩ := by kernel_rfl) (ho : ops[j]? = some o := by rfl) (hop : o.op = .convert t t x := by rfl) (hg : guardD ops env o = some true := by kernel_rfl) (hf : fitO X.n env o = true := by kernel_rfl) (hd : o.dst = some d := by rfl)
    (hx : evD env x = .slice (some ⟨g, 0, none⟩) n c := by kernel_rfl) (ht : X.P.underlying t = some (.slice e) := by kernel_rfl) (he : X.P.underlying e = some (.int .u8) := by kernel_rfl) : NW X ops j ⟨env, bs, fs⟩ K := by
  obtain ⟨h1, h2, h3⟩ := fitO_spec hf
  refine NW_on (s := ⟨env, bs, fs⟩) ho hg (fun a w ha hw => ?_)
  have hrun := run_mark (P := X.P) (n := n) (c := c) (hw.box _ (List.mem_of_getElem? hb)) ht he
  have hex := putB_ext (w := w) (.cells cs.toArray e (cs.length, cs.length + 1)) hb rfl hw.box hw.nodup
  refine opV h2 (v := .slice (some ⟨g, 0, none⟩) n c) (w' := { w with heap := w.heap.setIfInBounds g (.cells cs.toArray e (cs.length, cs.length + 1)) }) (by
    rw [ha.exec h2 h3]
    unfold execOp
    simp only [hop, hx, Sem.run_bind, hrun]
    rfl) ?_
  rw [hd]
  have ha' : Agree X.fr ⟨env, putB bs h (.cells cs.toArray e (cs.length, cs.length + 1)), fs⟩ a := ⟨ha.size, ha.defers, ha.env⟩
  exact hk _ _ (ha'.put (some d) (by rw [← hd]; exact dstOk_lt h1) _) ((hw.ext hex env).put (some d) _)
end
end Go.Proofs.YtgknelgplmohoaaDoor.X
end
section
namespace Go.Proofs.YtgknelgplmohoaaDoor.M
open Go.RowKit Go.Proofs.YtgknelgplmohoaaDoor.G Go.Proofs.YtgknelgplmohoaaDoorV.PrintWords Go.Proofs.YtgknelgplmohoaaDoorV.PrintLast Go.Proofs.YtgknelgplmohoaaDoor.X
set_option linter.unusedVariables false
set_option linter.unusedSimpArgs false
theorem Holds_perm {X : Cx} {s : St} {w : World} (h : Holds X s w) (is : List Nat) (bs' : List Box) (hm : is.map (fun i => s.bs[i]?) = bs'.map some) (hn : is.Nodup) : Holds X ⟨s.env, bs', s.fs⟩ w := by
 obtain ⟨k1, k2⟩ := pickI _ _ _ hn hm h.nodup
 exact h.sub (fun b hb => by obtain ⟨i, _, hi⟩ := k2 b hb; exact List.mem_of_getElem? hi) k1 s.env
theorem ct_impl_nat_groups (n c : Nat) (A : Option Addr) : CtM Tryd.prog 148 [.slice A n c] [] [] (γ := Nat) (fun g => .func (.func 152) #[] #[.pointer (some ⟨g, 0, none⟩)]) (fun g => [⟨g, [.slice A n c], 91⟩]) (fun _ => []) := by
 refine cm_of Tryd.func148 rfl (by kernel_rfl) (fun B w0 => ?_)
 refine xg ?_
 refine xb 1 [.slice A n c] 91 (fun g0 => ?_)
 refine xz [] [(2, Value.nilFunc)] ?_
 refine xr [] [(2, Value.func (Fn.func 152) #[] #[.pointer (some ⟨g0, 0, none⟩)])] ?_
 refine SW_ret ?_
 refine xmeg (Value.func (Fn.func 152) #[] #[.pointer (some ⟨g0, 0, none⟩)]) [] ?_
 exact ⟨g0, [true], rfl, rfl, zs0⟩
abbrev OW (n : Nat) : Type := {p : Nat × List Value × Nat // n + p.2.1.length = p.2.2}
def strip : List Int → List Int
 | [] => []
 | a :: l => if a = 48 then strip l else a :: l
def digT (x : Nat) : List Int := strip (lowD x x).reverse
def digT0 (x : Nat) : List Int := if digT x = [] then [48] else digT x
def digB (x g : Nat) (r : List Value) : Box := if digT x = [] then mkB g [.int .u8 48] 5 (1, 2) else ⟨g, cl .u8 (digT x) r, 5⟩
def swp (O : List Int) : Nat → List Int
 | 0 => O
 | i + 1 => ((swp O i).set i (rd (swp O i) ((O.length - 1 - i : Nat) : Int))).set (O.length - 1 - i) (rd (swp O i) (i : Int))
theorem swp_len (O : List Int) (i : Nat) : (swp O i).length = O.length := by
 induction i with
 | zero => rfl
 | succ i ih => simp [swp, ih]
theorem swp_get (O : List Int) (i : Nat) (hi : 2 * i ≤ O.length) (k : Nat) : (swp O i)[k]? = if k < i ∨ (O.length - i ≤ k ∧ k < O.length) then O[O.length - 1 - k]? else O[k]? := by
 induction i generalizing k with
 | zero =>
  rw [if_neg (by omega)]
  rfl
 | succ i ih =>
  have h1 := ih (by omega) i
  have h2 := ih (by omega) (O.length - 1 - i)
  rw [if_neg (by omega)] at h1 h2
  have e1 : rd (swp O i) (i : Int) = O[i]'(by omega) := by
   rw [rd_nat, List.getD_eq_getElem?_getD, h1, List.getElem?_eq_getElem (by omega)]
   rfl
  have e2 : rd (swp O i) ((O.length - 1 - i : Nat) : Int) = O[O.length - 1 - i]'(by omega) := by
   rw [rd_nat, List.getD_eq_getElem?_getD, h2, List.getElem?_eq_getElem (by omega)]
   rfl
  rw [swp, e1, e2, List.getElem?_set, List.getElem?_set, List.length_set, swp_len]
  by_cases c1 : O.length - 1 - i = k
  ·subst c1
   rw [if_pos rfl, if_pos (by omega), if_pos (by omega), List.getElem?_eq_getElem (by omega)]
   congr 2
   omega
  ·rw [if_neg c1]
   by_cases c2 : i = k
   ·subst c2
    rw [if_pos rfl, if_pos (by omega), if_pos (by omega), List.getElem?_eq_getElem (by omega)]
   ·rw [if_neg c2, ih (by omega) k]
    by_cases c3 : k < i ∨ (O.length - i ≤ k ∧ k < O.length)
    ·rw [if_pos c3, if_pos (by omega)]
    ·rw [if_neg c3, if_neg (by omega)]
theorem swp_rev (O : List Int) (i : Nat) (h1 : 2 * i ≤ O.length) (h2 : O.length ≤ 2 * i + 1) : swp O i = O.reverse := by
 apply List.ext_getElem?
 intro k
 rw [swp_get O i h1 k]
 by_cases hk : k < O.length
 ·rw [List.getElem?_reverse hk]
  by_cases c : k < i ∨ (O.length - i ≤ k ∧ k < O.length)
  ·rw [if_pos c]
  ·rw [if_neg c]
   congr 1
   omega
 ·rw [if_neg (by omega), List.getElem?_eq_none (by omega), List.getElem?_eq_none (by simp; omega)]
theorem ct_impl_nat_digits (x : Nat) (hx : Sm x) (hlen : (lowD x x).length ≤ 900000) (A : Option Addr) (cA : Nat) :
  CtM Tryd.prog 127 [.slice A (ofN B64 x).length cA] [] [Row .u64 A cA (ofN B64 x)] (γ := OW (digT0 x).length) (fun p => .slice (some ⟨p.1.1, 0, none⟩) (digT0 x).length p.1.2.2) (fun p => [digB x p.1.1 p.1.2.1]) (fun _ => []) := by
 refine cm_ofY Tryd.func127 rfl (by kernel_rfl) (fun B w0 M => ?_)
 refine SQ_cut (K := fun _ _ => False) (fun s => Weak s ⟨[(0, .slice A (ofN B64 x).length cA)], [], [Row .u64 A cA (ofN B64 x)]⟩) ?_ (fun _ _ _ _ _ _ z => z.elim) (fun s hw => ?_)
 ·refine xrl [] [(2, .slice none 0 0)] ?_
  exact xw (zsS zi0 zs0)
 refine SQ_weak hw ?_
 clear hw
 refine SQ_cut (K := fun _ _ => False) (fun s => ∃ gO gB, Weak s ⟨[(0, .slice A (ofN B64 x).length cA), (3, .pointer (some ⟨gO, 0, none⟩))], [⟨gB, cl .u8 [] [], 5⟩, ⟨gO, [.slice (some ⟨gB, 0, none⟩) 0 0], 22⟩], [Row .u64 A cA (ofN B64 x)]⟩) ?_ (fun _ _ _ _ _ _ z => z.elim) (fun s hw => ?_)
 ·refine SW_region ?_
  refine xbl 7 [] 5 0 (fun g0 => ?_)
  refine xb 3 [.slice none 0 0] 22 (fun g1 => ?_)
  refine xy [(2, [1])] [] [(1, [.slice (some ⟨g0, 0, none⟩) 0 0])] ?_
  refine ⟨(g1), (g0), xw (zsS zi0 zs0)⟩
 obtain ⟨gO, gB, hw⟩ := hw
 refine SQ_weak hw ?_
 clear hw
 refine SQ_seq ?_
 refine SQ_cut (K := fun _ _ => False) (fun s => ∃ gA, Weak s ⟨[(3, .pointer (some ⟨gO, 0, none⟩)), (9, .func (.func 152) #[] #[.pointer (some ⟨gA, 0, none⟩)])], [⟨gB, cl .u8 [] [], 5⟩, ⟨gO, [.slice (some ⟨gB, 0, none⟩) 0 0], 22⟩, ⟨gA, [.slice A (ofN B64 x).length cA], 91⟩], [Row .u64 A cA (ofN B64 x)]⟩) ?_ (fun _ _ _ _ _ _ z => z.elim) (fun s hw => ?_)
 ·refine SW_region ?_
  refine xn 1 [] [(8, .slice A (List.length (ofN B64 x)) cA)] ?_
  refine xcm 9 [false] (ct_impl_nat_groups (List.length (ofN B64 x)) (cA) (A)) zs0 (fun z0 => ?_)
  refine xz [] [] ?_
  refine ⟨(z0), xw (zsS zi0 zs0)⟩
 obtain ⟨gA, hw⟩ := hw
 refine SQ_weak hw ?_
 clear hw
 refine SQ_block (SQ_range 152 #[.pointer (some ⟨gA, 0, none⟩)] rfl (fun args w => by kernel_rfl) rfl (fun fn tm D l hT w hw => ?_))
 have hw2 := Holds_perm hw [4, 2, 1, 0, 3] (⟨l, [], .ob (loopO .ready fn tm _ _ _ D)⟩ :: ⟨gA, [.slice A (ofN B64 x).length cA], 91⟩ :: OB gO gB [] [] 0 ++ [⟨D, [], .ob (.deferred (some []))⟩]) rfl (by decide)
 have hG := fun hy => (ct_impl_nat_groups_1 gA gO l _ x hx A cA hy [] gB [] 0 rfl (by simpa using hlen)).call rfl hw2 [true, true, true, true] rfl (zsS zi0 zs0) [(3, .pointer (some ⟨gO, 0, none⟩)), (9, .func (.func 152) #[] #[.pointer (some ⟨gA, 0, none⟩)])]
 refine (hG (fun d O gB r c hd hc hl => ?_)).mono ?_
 ·refine cy_of (env1 := [(4, .int .u64 (d : Int)), (3, .pointer (some ⟨gO, 0, none⟩))]) hT (Nat.le_of_ble_eq_true (by kernel_rfl)) (fun B w0 => ?_) (fun B w0 => ?_)
  ·refine xrl [] [(4, .int .u64 (d : Int))] ?_
   exact xw zs0
  ·generalize loopO .busy fn tm _ _ _ D = o1, loopO .ready fn tm _ _ _ D = o2
   refine SW_block ?_
   refine xr [] [(11, .int .i64 0)] ?_
   refine SW_block ?_
   refine SW_loopn (fun m s => ∃ (n dd : Nat) (O2 : List Int) (gB : Nat) (r : List Value) (c : Nat), n + m = 19 ∧ dd = d / 10 ^ n ∧ O2 = O ++ digN d n ∧ O2.length + r.length = c ∧ Weak s ⟨[(11, .int .i64 n), (4, .int .u64 (dd : Int)), (3, .pointer (some ⟨gO, 0, none⟩))], [⟨l, [], .ob o1⟩, ⟨gO, [.slice (some ⟨gB, 0, none⟩) O2.length c], 22⟩, ⟨gB, cl .u8 O2 r, 5⟩], []⟩) 19 ⟨0, d, O, gB, r, c, rfl, by simp, by simp [digN], hc, ?_⟩ (fun m s hI => ?_)
   ·exact xw zs0
   ·obtain ⟨n, dd, O2, gB, r, c, h1, h2, h3, h4, hw⟩ := hI
    refine SW_weak hw ?_
    clear hw
    by_cases hm : n = 19
    ·have z : decide ((n : Int) < 19) = false := decide_eq_false (by omega)
     clear h1
     subst hm h3
     refine xr [] [(12, .bool false)] ?_
     refine SW_seq ?_
     refine xs0 ?_
     refine SW_exit ?_
     exact ⟨⟨(gB, r, c), h4⟩, [true, true], _, rfl, rfl, zs0⟩
    ·have z : decide ((n : Int) < 19) = true := decide_eq_true (by omega)
     have h5 : dd < 18446744073709551616 := by
      have := Nat.div_le_self d (10 ^ n)
      omega
     have h6 : O2.length ≤ 1000019 := by
      rw [h3, List.length_append, digN_len]
      omega
     have h7 : O2 ++ [((48 + dd % 10 : Nat) : Int)] = O ++ digN d (n + 1) := by rw [h3, digN, h2, List.append_assoc]
     have h8 : dd / 10 = d / 10 ^ (n + 1) := by rw [h2, Nat.div_div_eq_div_mul, Nat.pow_succ]
     have v1 : Ve (IntKind.u8.wrap (IntKind.u64.wrap (48 + ((dd : Int)).tmod 10))) ((48 + dd % 10 : Nat) : Int) := ⟨by
      rw [Int.tmod_eq_emod_of_nonneg (by omega)]
      simp [IntKind.wrap, IntKind.bits, IntKind.signed]
      omega⟩
     have v2 : Ve (IntKind.u64.wrap (((dd : Int)).tdiv 10)) ((dd / 10 : Nat) : Int) := ⟨by
      rw [Int.tdiv_eq_ediv_of_nonneg (by omega)]
      simp [IntKind.wrap, IntKind.bits, IntKind.signed]
      omega⟩
     have v3 : Ve (IntKind.i64.wrap ((n : Int) + 1)) ((n + 1 : Nat) : Int) := ⟨by rw [wrap_i64 (by omega)]; rfl⟩
     obtain ⟨y, hy⟩ : ∃ y, 48 + dd % 10 = y := ⟨_, rfl⟩
     obtain ⟨q, hq⟩ : ∃ q, dd / 10 = q := ⟨_, rfl⟩
     rw [hy] at v1 h7
     rw [hq] at v2 h8
     clear hy hq
     clear h2 h3
     refine xr [] [(12, .bool (decide ((n : Int) < 19)))] ?_
     refine SW_seq ?_
     refine xst z ?_
     refine SW_skip ?_
     refine SW_seq ?_
     refine SW_block ?_
     refine xg ?_
     refine xn 4 [(0, [1])] [(16, .int .u64 (IntKind.wrap IntKind.u64 (48 + Int.tmod (dd : Int) 10))), (15, .int .u64 (Int.tmod (dd : Int) 10)), (14, .int .u64 (dd : Int)), (13, .slice (some ⟨gB, 0, none⟩) (List.length O2) c)] ?_
     refine xve 17 IntKind.u8 (IntKind.wrap IntKind.u8 (IntKind.wrap IntKind.u64 (48 + Int.tmod (dd : Int) 10))) ((y : Int)) v1 ?_
     refine xbl 18 [.int .u8 (y : Int)] 5 1 (fun g0 => ?_)
     refine xap 19 2 3 1 5 1 (gB) (g0) (c) (1) IntKind.u8 5 (O2) (r) [(y : Int)] (by omega) (by omega) (fun g1 r0 c0 hc0 => ?_)
     refine xy [(7, [1])] [] [(1, [.slice (some ⟨g1, 0, none⟩) (List.length (O2 ++ [(y : Int)])) c0])] ?_
     refine SW_region ?_
     refine xn 1 [] [(20, .int .u64 (dd : Int))] ?_
     refine xve 21 IntKind.u64 (IntKind.wrap IntKind.u64 (Int.tdiv (dd : Int) 10)) ((q : Int)) v2 ?_
     refine xz [] [(4, .int .u64 (q : Int))] ?_
     refine SW_region ?_
     refine xve 22 IntKind.i64 (IntKind.wrap IntKind.i64 ((n : Int) + 1)) ((((n + 1) : Nat) : Int)) v3 ?_
     refine xz [] [(11, .int .i64 (((n + 1) : Nat) : Int))] ?_
     refine ⟨m - 1, by omega, n + 1, q, O2 ++ [(y : Int)], g1, r0, c0, by omega, h8, h7, by assumption, ?_⟩
     exact xw zs0
 ·rintro en w' ⟨⟨⟨gB2, r2, c2⟩, hc2⟩, rfl, hx2⟩
  dsimp only at hc2
  refine ⟨_, _, _, 0, rfl, hx2, rfl, fun a w ha hw => ?_⟩
  refine wpIn_mono ((?_ : SW (Cx.push ⟨Tryd.prog, Tryd.f127.ntmps, B, ⟨w0, M, []⟩, none⟩ ⟨.collected D, #[]⟩) _ _ (RetL (Cx.push ⟨Tryd.prog, Tryd.f127.ntmps, B, ⟨w0, M, []⟩, none⟩ ⟨.collected D, #[]⟩) Tryd.f127 (LvM Tryd.prog Tryd.f127 (LeftM _ B ⟨w0, M, []⟩ _ _ _)))) a w ha hw) RetL.postM
  clear ha hw hx2 hG hw2
  refine SW_weak2 (t := ⟨[(3, .pointer (some ⟨gO, 0, none⟩))], [⟨gO, [.slice (some ⟨gB2, 0, none⟩) (lowD x x).length c2], 22⟩, ⟨gB2, cl .u8 (lowD x x) r2, 5⟩, ⟨D, [], .ob (.deferred (some []))⟩], []⟩) (xw2 [false, true, true, true] zs0) ?_
  replace hc2 : (lowD x x).length + r2.length = c2 := hc2
  have hR : digT0 x = if strip (lowD x x).reverse = [] then [48] else strip (lowD x x).reverse := rfl
  have hRB : ∀ g r, digB x g r = if strip (lowD x x).reverse = [] then mkB g [.int .u8 48] 5 (1, 2) else ⟨g, cl .u8 (strip (lowD x x).reverse) r, 5⟩ := fun _ _ => rfl
  generalize lowD x x = L at hlen hc2 hR hRB ⊢
  refine SW_cut (fun s => ∃ (n : Nat) (O : List Int) (r : List Value), O.length = n ∧ O.reverse = strip L.reverse ∧ n + r.length = c2 ∧ n ≤ 900000 ∧ Weak s ⟨[(3, .pointer (some ⟨gO, 0, none⟩))], [⟨gO, [.slice (some ⟨gB2, 0, none⟩) n c2], 22⟩, ⟨gB2, cl .u8 O r, 5⟩, ⟨D, [], .ob (.deferred (some []))⟩], []⟩) ?_ (fun s hs => ?_)
  ·refine SW_block ?_
   refine SW_loopn (fun n s => ∃ (O : List Int) (r : List Value), O.length = n ∧ strip O.reverse = strip L.reverse ∧ n + r.length = c2 ∧ n ≤ 900000 ∧ Weak s ⟨[(3, .pointer (some ⟨gO, 0, none⟩))], [⟨gO, [.slice (some ⟨gB2, 0, none⟩) n c2], 22⟩, ⟨gB2, cl .u8 O r, 5⟩, ⟨D, [], .ob (.deferred (some []))⟩], []⟩) L.length ⟨L, r2, rfl, rfl, hc2, hlen, ?_⟩ (fun m s hI => ?_)
   ·exact xw zs0
   ·obtain ⟨O, r, h1, h2, h3, h4, hw⟩ := hI
    refine SW_weak hw ?_
    clear hw
    rcases List.eq_nil_or_concat O with h | ⟨O3, y, h⟩
    ·subst h
     obtain rfl : m = 0 := h1.symm
     refine SW_seq ?_
     refine xr [(0, [0]), (4, [0]), (5, [0])] [(34, .bool false)] ?_
     refine xs0 ?_
     refine SW_exit ?_
     refine ⟨0, [], r, rfl, h2, h3, h4, ?_⟩
     exact xw zs0
    ·obtain ⟨k, rfl⟩ : ∃ k, m = k + 1 := ⟨O3.length, by rw [← h1, h]; simp⟩
     have hk : O3.length = k := by
      rw [h] at h1
      simpa using h1
     have z : decide (((k + 1 : Nat) : Int) > 0) = true := decide_eq_true (by omega)
     have v1 : Ve (IntKind.i64.wrap (((k + 1 : Nat) : Int) - 1)) (k : Int) := ⟨by rw [wrap_i64 (by omega)]; omega⟩
     have v2 : Ve (rd O (k : Int)) y := ⟨by rw [h, List.concat_eq_append, rd_mid O3 [] y k hk.symm]⟩
     have hcl : cl .u8 O r = cl .u8 O3 (.int .u8 y :: r) := by simp [cl, h]
     have hrev : O.reverse = y :: O3.reverse := by simp [h]
     clear h
     by_cases hy : y = 48
     ·have z2 : (y == 48) = true := by simp [hy]
      rw [hrev, strip, if_pos hy] at h2
      refine SW_seq ?_
      refine xg ?_
      refine xn 4 [(0, [0])] [(26, .bool (decide ((((k + 1) : Nat) : Int) > 0)))] ?_
      refine xkt 26 z ?_
      refine xn 7 [(4, [0]), (5, [0])] [(29, .int .i64 (((k + 1) : Nat) : Int)), (27, .slice (some ⟨gB2, 0, none⟩) (k + 1) c2)] ?_
      refine xve 30 IntKind.i64 (IntKind.wrap IntKind.i64 ((((k + 1) : Nat) : Int) - 1)) ((k : Int)) v1 ?_
      refine xoi 31 5 (gB2) (k + 1) (c2) (k) IntKind.i64 ((k : Int)) ⟨rfl⟩ (by omega) ?_
      refine xole 32 1 (gB2) (k) IntKind.u8 (O) (r) 5 (y) v2 (by first | omega | (simp <;> omega)) ?_
      refine xz [] [(34, .bool (y == 48))] ?_
      refine xst z2 ?_
      refine SW_skip ?_
      refine SW_block ?_
      refine SW_region ?_
      refine xn 3 [(0, [0]), (1, [0])] [(37, .int .i64 (((k + 1) : Nat) : Int)), (35, .slice (some ⟨gB2, 0, none⟩) (k + 1) c2)] ?_
      refine xve 38 IntKind.i64 (IntKind.wrap IntKind.i64 ((((k + 1) : Nat) : Int) - 1)) ((k : Int)) v1 ?_
      refine xsh 39 5 (some ⟨gB2, 0, none⟩) (k + 1) (c2) (k) IntKind.i64 ((k : Int)) ⟨rfl⟩ (by omega) ?_
      refine xy [(5, [0])] [] [(0, [.slice (some ⟨gB2, 0, none⟩) k c2])] ?_
      rw [hcl]
      refine ⟨k, by omega, O3, .int .u8 y :: r, hk, h2, ?_, by omega, ?_⟩
      rotate_left
      ·exact xw zs0
      ·simp only [List.length_cons]; omega
     ·have z2 : (y == 48) = false := by simp [hy]
      rw [hrev, strip, if_neg hy] at h2
      refine SW_seq ?_
      refine xg ?_
      refine xn 4 [(0, [0])] [(26, .bool (decide ((((k + 1) : Nat) : Int) > 0)))] ?_
      refine xkt 26 z ?_
      refine xn 7 [(4, [0]), (5, [0])] [(29, .int .i64 (((k + 1) : Nat) : Int)), (27, .slice (some ⟨gB2, 0, none⟩) (k + 1) c2)] ?_
      refine xve 30 IntKind.i64 (IntKind.wrap IntKind.i64 ((((k + 1) : Nat) : Int) - 1)) ((k : Int)) v1 ?_
      refine xoi 31 5 (gB2) (k + 1) (c2) (k) IntKind.i64 ((k : Int)) ⟨rfl⟩ (by omega) ?_
      refine xole 32 1 (gB2) (k) IntKind.u8 (O) (r) 5 (y) v2 (by first | omega | (simp <;> omega)) ?_
      refine xz [] [(34, .bool (y == 48))] ?_
      refine xsf z2 ?_
      refine SW_exit ?_
      refine ⟨k + 1, O, r, h1, by rw [hrev, h2], h3, h4, ?_⟩
      exact xw zs0
  obtain ⟨n, O, r, h1, h2, h3, h4, hw⟩ := hs
  refine SW_weak hw ?_
  clear hw hc2
  rw [← h2] at hR
  simp only [← h2] at hRB
  clear h2
  refine SW_cut (fun s => Weak s ⟨[(3, .pointer (some ⟨gO, 0, none⟩))], [⟨gO, [.slice (some ⟨gB2, 0, none⟩) n c2], 22⟩, ⟨gB2, cl .u8 O.reverse r, 5⟩, ⟨D, [], .ob (.deferred (some []))⟩], []⟩) ?_ (fun s hw => ?_)
  ·refine xd (fun hB => ?_)
   refine xdk [(0, [0]), (1, []), (2, []), (3, []), (4, [])] [(6, .int .i64 (IntKind.wrap IntKind.i64 ((n : Int) - 1))), (5, .int .i64 0)] hB ?_
   refine xdz ?_
   refine SW_block ?_
   refine SW_loopn (fun m s => ∃ (i : Nat) (J : Int) (P : List Int), i + m = n ∧ 2 * i ≤ n ∧ J = (n : Int) - 1 - i ∧ P = swp O i ∧ Weak s ⟨[(3, .pointer (some ⟨gO, 0, none⟩)), (5, .int .i64 (i : Int)), (6, .int .i64 J)], [⟨gO, [.slice (some ⟨gB2, 0, none⟩) n c2], 22⟩, ⟨gB2, cl .u8 P r, 5⟩, ⟨D, [], .ob (.deferred (some []))⟩], []⟩) n ⟨0, (n : Int) - 1, O, by omega, by omega, by omega, rfl, ?_⟩ (fun m s hI => ?_)
   ·rw [wrap_i64 (by omega)]
    exact xw zs0
   ·obtain ⟨i, J, P, g1, g2, g3, g4, hw⟩ := hI
    refine SW_weak hw ?_
    clear hw
    have hl : P.length = n := by rw [g4, swp_len, h1]
    by_cases hi : 2 * i + 1 < n
    ·obtain ⟨j, rfl⟩ : ∃ j : Nat, J = (j : Int) := ⟨n - 1 - i, by omega⟩
     have hj : j = O.length - 1 - i := by omega
     have hij : i < j := by omega
     have hjn : j < n := by omega
     have z : decide ((i : Int) < (j : Int)) = true := decide_eq_true (by omega)
     have v1 : Ve (IntKind.i64.wrap ((i : Int) + 1)) ((i + 1 : Nat) : Int) := ⟨by rw [wrap_i64 (by omega)]; omega⟩
     have v2 : Ve (IntKind.i64.wrap ((j : Int) - 1)) ((j - 1 : Nat) : Int) := ⟨by rw [wrap_i64 (by omega)]; omega⟩
     have hs : (P.set i (rd P (j : Int))).set j (rd P (i : Int)) = swp O (i + 1) := by rw [swp, ← hj, ← g4]
     have e1 : ((j - 1 : Nat) : Int) = (n : Int) - 1 - (i + 1 : Nat) := by omega
     clear g4 hj g3
     refine SW_seq ?_
     refine xr [] [(45, .bool (decide ((i : Int) < (j : Int))))] ?_
     refine xst z ?_
     refine SW_skip ?_
     refine SW_seq ?_
     refine SW_block ?_
     refine xdl (fun hB => ?_)
     refine xdk [(0, [0]), (1, []), (3, []), (4, [0]), (5, []), (8, [0]), (9, [])] [(59, .int .i64 (i : Int)), (58, .slice (some ⟨gB2, 0, none⟩) n c2), (55, .int .i64 (j : Int)), (54, .slice (some ⟨gB2, 0, none⟩) n c2), (53, .int .i64 (j : Int)), (51, .int .i64 (i : Int)), (50, .slice (some ⟨gB2, 0, none⟩) n c2)] hB ?_
     refine xdoi 6 hB 56 5 (gB2) (n) (c2) (j) IntKind.i64 ((j : Int)) ⟨rfl⟩ (by omega) ?_
     refine xdol 7 hB 57 1 (gB2) (j) IntKind.u8 (P) (r) 5 (by first | omega | (simp <;> omega)) ?_
     refine xdoi 10 hB 60 5 (gB2) (n) (c2) (i) IntKind.i64 ((i : Int)) ⟨rfl⟩ (by omega) ?_
     refine xdol 11 hB 61 1 (gB2) (i) IntKind.u8 (P) (r) 5 (by first | omega | (simp <;> omega)) ?_
     refine xdoi 12 hB 62 5 (gB2) (n) (c2) (i) IntKind.i64 ((i : Int)) ⟨rfl⟩ (by omega) ?_
     refine xd2 2 13 (dxr 2 52 [0] (.slice (some ⟨gB2, 0, none⟩) n c2) ?_) (dxs 13 1 gB2 i .u8 P r 5 (rd P (j : Int)) (by omega) ?_)
     ·refine dx1 13 (dxs 13 1 gB2 i .u8 P r 5 (rd P (j : Int)) (by omega) ?_)
      refine dx1 14 (dxi 14 63 5 gB2 n c2 j .i64 hjn ?_)
      refine dx1 15 (dxs 15 1 gB2 j .u8 (P.set i (rd P (j : Int))) r 5 (rd P (i : Int)) (by simp; omega) ?_)
      rw [hs]
      refine xdz ?_
      refine SW_region ?_
      refine xn 1 [] [(46, .int .i64 (i : Int))] ?_
      refine xve 47 IntKind.i64 (IntKind.wrap IntKind.i64 ((i : Int) + 1)) ((((i + 1) : Nat) : Int)) v1 ?_
      refine xn 3 [] [(48, .int .i64 (j : Int))] ?_
      refine xve 49 IntKind.i64 (IntKind.wrap IntKind.i64 ((j : Int) - 1)) ((((j - 1) : Nat) : Int)) v2 ?_
      refine xz [] [(6, .int .i64 (((j - 1) : Nat) : Int)), (5, .int .i64 (((i + 1) : Nat) : Int))] ?_
      refine ⟨m - 1, by omega, i + 1, _, _, by omega, by omega, e1, rfl, ?_⟩
      exact xw zs0
     ·refine dx1 2 (dxr 2 52 [0] (.slice (some ⟨gB2, 0, none⟩) n c2) ?_)
      refine dx1 14 (dxi 14 63 5 gB2 n c2 j .i64 hjn ?_)
      refine dx1 15 (dxs 15 1 gB2 j .u8 (P.set i (rd P (j : Int))) r 5 (rd P (i : Int)) (by simp; omega) ?_)
      rw [hs]
      refine xdz ?_
      refine SW_region ?_
      refine xn 1 [] [(46, .int .i64 (i : Int))] ?_
      refine xve 47 IntKind.i64 (IntKind.wrap IntKind.i64 ((i : Int) + 1)) ((((i + 1) : Nat) : Int)) v1 ?_
      refine xn 3 [] [(48, .int .i64 (j : Int))] ?_
      refine xve 49 IntKind.i64 (IntKind.wrap IntKind.i64 ((j : Int) - 1)) ((((j - 1) : Nat) : Int)) v2 ?_
      refine xz [] [(6, .int .i64 (((j - 1) : Nat) : Int)), (5, .int .i64 (((i + 1) : Nat) : Int))] ?_
      refine ⟨m - 1, by omega, i + 1, _, _, by omega, by omega, e1, rfl, ?_⟩
      exact xw zs0
    ·have z : decide ((i : Int) < J) = false := decide_eq_false (by omega)
     rw [swp_rev O i (by omega) (by omega)] at g4
     subst g4
     refine SW_seq ?_
     refine xr [] [(45, .bool (decide ((i : Int) < J)))] ?_
     refine xsf z ?_
     refine SW_exit ?_
     exact xw zs0
  refine SW_weak hw ?_
  clear hw
  by_cases hn : n = 0
  ·subst hn
   obtain rfl := List.eq_nil_of_length_eq_zero h1
   rw [show (if ([] : List Int).reverse = [] then ([48] : List Int) else ([] : List Int).reverse) = [48] from rfl] at hR
   rw [hR]
   refine SW_seq ?_
   refine xr [(0, [0])] [(66, .bool true)] ?_
   refine xs1 ?_
   refine xg ?_
   refine xbl 67 [.int .u8 48] 5 1 (fun g0 => ?_)
   refine xmk 3 68 g0 1 1 [.int .u8 48] 5 ?_
   refine xz [] [(2, .slice (some ⟨g0, 0, none⟩) 1 1)] ?_
   refine SW_ret ?_
   exact leave_range 2 D ⟨(g0, [], 1), rfl⟩ [false, false, false, true] [] _ rfl (by rw [hRB]; rfl) zs0
  ·have z : ((n : Int) == 0) = false := by simp; omega
   have hne : ¬ O.reverse = [] := by
    intro h
    rw [List.reverse_eq_nil_iff] at h
    rw [h] at h1
    exact hn h1.symm
   rw [if_neg hne] at hR
   have hRB2 : digB x gB2 r = ⟨gB2, cl .u8 O.reverse r, 5⟩ := by rw [hRB, if_neg hne]
   have hlr : (digT0 x).length = n := by rw [hR, List.length_reverse, h1]
   rw [hlr]
   refine SW_seq ?_
   refine xr [(0, [0])] [(66, .bool ((n : Int) == 0))] ?_
   refine xsf z ?_
   refine SW_skip ?_
   refine xr [(0, [0])] [(2, .slice (some ⟨gB2, 0, none⟩) n c2)] ?_
   refine SW_ret ?_
   exact leave_range 2 D ⟨(gB2, r, c2), h3⟩ [false, true] [] _ rfl (by rw [hRB2]; rfl) zs0
end Go.Proofs.YtgknelgplmohoaaDoor.M
end
section
namespace Go.Proofs.YtgknelgplmohoaaDoor.M
open Go.RowKit Go.Proofs.YtgknelgplmohoaaDoor.G Go.Proofs.YtgknelgplmohoaaDoorV.PrintWords Go.Proofs.YtgknelgplmohoaaDoorV.PrintLast Go.Proofs.YtgknelgplmohoaaDoor.X
set_option linter.unusedVariables false
set_option linter.unusedSimpArgs false
def rdg : Nat → Nat → List Int
  | 0, _ => []
  | f + 1, x => if x = 0 then [] else ((48 + x % 10 : Nat) : Int) :: rdg f (x / 10)
theorem rdg_more : ∀ (f g x : Nat), x ≤ f → x ≤ g → rdg f x = rdg g x
  | 0, 0, _, _, _ => rfl
  | 0, g + 1, x, h, _ => by
    obtain rfl : x = 0 := by omega
    simp [rdg]
  | f + 1, 0, x, _, h => by
    obtain rfl : x = 0 := by omega
    simp [rdg]
  | f + 1, g + 1, x, h1, h2 => by
    by_cases hx : x = 0
    · simp [rdg, hx]
    · simp only [rdg, if_neg hx]
      rw [rdg_more f g (x / 10) (by omega) (by omega)]
def rdig (x : Nat) : List Int := rdg x x
theorem rdig_zero : rdig 0 = [] := rfl
theorem rdig_step {x : Nat} (hx : x ≠ 0) : rdig x = ((48 + x % 10 : Nat) : Int) :: rdig (x / 10) := by
  obtain ⟨f, rfl⟩ : ∃ f, x = f + 1 := ⟨x - 1, by omega⟩
  unfold rdig
  rw [rdg, if_neg hx, rdg_more f ((f + 1) / 10) _ (by omega) (Nat.le_refl _)]
theorem rdig_more (x : Nat) : ∀ n, x / 10 ^ n ≠ 0 → rdig x = digN x (n + 1) ++ rdig (x / 10 ^ (n + 1)) := by
  intro n
  induction n with
  | zero =>
    intro h
    rw [rdig_step (by simpa using h)]
    simp [digN]
  | succ n ih =>
    intro h
    have h0 : x / 10 ^ n ≠ 0 := by
      intro e
      apply h
      rw [Nat.pow_succ, ← Nat.div_div_eq_div_mul, e]
    rw [ih h0, rdig_step h, Nat.div_div_eq_div_mul, ← Nat.pow_succ]
    show _ = (digN x (n + 1) ++ [_]) ++ _
    rw [List.append_assoc]
    rfl
theorem rdig_less (x : Nat) : ∀ n, x / 10 ^ n = 0 → ∃ k, digN x n = rdig x ++ List.replicate k 48 := by
  intro n
  induction n with
  | zero =>
    intro h
    obtain rfl : x = 0 := by simpa using h
    exact ⟨0, rfl⟩
  | succ n ih =>
    intro h
    by_cases h0 : x / 10 ^ n = 0
    · obtain ⟨k, hk⟩ := ih h0
      refine ⟨k + 1, ?_⟩
      rw [digN, hk, h0, List.append_assoc, List.replicate_succ']
      rfl
    · refine ⟨0, ?_⟩
      rw [rdig_more x n h0, h, rdig_zero]
      simp
theorem digN_mod (x m n : Nat) (h : n ≤ m) : digN (x % 10 ^ m) n = digN x n := by
  induction n with
  | zero => rfl
  | succ n ih =>
    rw [digN, digN, ih (by omega)]
    obtain ⟨k, rfl⟩ : ∃ k, m = n + 1 + k := ⟨m - (n + 1), by omega⟩
    have : x % 10 ^ (n + 1 + k) / 10 ^ n % 10 = x / 10 ^ n % 10 := by
      rw [show n + 1 + k = n + (1 + k) by omega, Nat.pow_add, Nat.mod_mul_right_div_self, Nat.mod_mod_of_dvd]
      exact ⟨10 ^ k, by rw [Nat.pow_add]⟩
    rw [this]
theorem lowD_rdig : ∀ f x, x ≤ f → ∃ k, lowD x x = rdig x ++ List.replicate k 48 := by
  intro f
  induction f with
  | zero =>
    intro x hx
    obtain rfl : x = 0 := by omega
    exact ⟨0, rfl⟩
  | succ f ih =>
    intro x hx
    by_cases h0 : x = 0
    · subst h0
      exact ⟨0, rfl⟩
    rw [lowD_step h0]
    have e : (10000000000000000000 : Nat) = 10 ^ 19 := by decide
    rw [e, digN_mod x 19 19 (Nat.le_refl _)]
    by_cases h1 : x / 10 ^ 19 = 0
    · obtain ⟨k, hk⟩ := rdig_less x 19 h1
      refine ⟨k, ?_⟩
      rw [hk, h1]
      show _ ++ [] = _
      rw [List.append_nil]
    · have h2 : x / 10 ^ 18 ≠ 0 := by
        intro z
        apply h1
        rw [show (10 : Nat) ^ 19 = 10 ^ 18 * 10 from rfl, ← Nat.div_div_eq_div_mul, z]
      have hlt : x / 10 ^ 19 < x := Nat.div_lt_self (by omega) (by decide)
      obtain ⟨k, hk⟩ := ih (x / 10 ^ 19) (by omega)
      refine ⟨k, ?_⟩
      rw [hk, rdig_more x 18 h2, List.append_assoc]
theorem strip_zeros (k : Nat) (l : List Int) : strip (List.replicate k 48 ++ l) = strip l := by
  induction k with
  | zero => rfl
  | succ k ih => rw [List.replicate_succ, List.cons_append, strip, if_pos rfl, ih]
theorem rdig_last : ∀ f x, x ≤ f → x ≠ 0 → ∃ y t, (rdig x).reverse = y :: t ∧ y ≠ 48 := by
  intro f
  induction f with
  | zero =>
    intro x hx h0
    exact absurd hx (by omega)
  | succ f ih =>
    intro x hx h0
    by_cases h1 : x / 10 = 0
    · refine ⟨((48 + x % 10 : Nat) : Int), [], ?_, ?_⟩
      · rw [rdig_step h0, h1]
        rfl
      · omega
    · obtain ⟨y, t, e1, e2⟩ := ih (x / 10) (by omega) h1
      refine ⟨y, t ++ [((48 + x % 10 : Nat) : Int)], ?_, e2⟩
      rw [rdig_step h0, List.reverse_cons, e1]
      rfl
theorem digT_eq (x : Nat) : digT x = (rdig x).reverse := by
  obtain ⟨k, hk⟩ := lowD_rdig x x (Nat.le_refl _)
  unfold digT
  rw [hk, List.reverse_append, List.reverse_replicate, strip_zeros]
  by_cases h0 : x = 0
  · subst h0
    rfl
  · obtain ⟨y, t, e1, e2⟩ := rdig_last x x (Nat.le_refl _) h0
    rw [e1, strip, if_neg e2]
theorem rdig_nil {x : Nat} : rdig x = [] ↔ x = 0 := by
  constructor
  · intro h
    by_cases h0 : x = 0
    · exact h0
    · rw [rdig_step h0] at h
      cases h
  · rintro rfl
    rfl
theorem digT_nil {x : Nat} : digT x = [] ↔ x = 0 := by rw [digT_eq, List.reverse_eq_nil_iff, rdig_nil]
theorem digT0_zero : digT0 0 = [48] := rfl
theorem digT0_pos {x : Nat} (h : x ≠ 0) : digT0 x = (rdig x).reverse := by rw [digT0, if_neg (fun z => h (digT_nil.1 z)), digT_eq]
theorem rdig_dig : ∀ f x, x ≤ f → ∀ y ∈ rdig x, 48 ≤ y ∧ y ≤ 57 := by
  intro f
  induction f with
  | zero =>
    intro x hx y hy
    obtain rfl : x = 0 := by omega
    cases hy
  | succ f ih =>
    intro x hx y hy
    by_cases h0 : x = 0
    · subst h0
      cases hy
    · rw [rdig_step h0] at hy
      rcases List.mem_cons.1 hy with h | h
      · rw [h]
        omega
      · exact ih (x / 10) (by omega) y h
theorem lowD_len : ∀ (k f x : Nat), x < 10000000000000000000 ^ k → (lowD f x).length ≤ 19 * k
  | _, 0, _, _ => by simp [lowD]
  | 0, f + 1, x, h => by
    obtain rfl : x = 0 := by simpa using h
    simp [lowD]
  | k + 1, f + 1, x, h => by
    by_cases h0 : x = 0
    · simp [lowD, h0]
    · rw [lowD, if_neg h0, List.length_append, digN_len]
      have : x / 10000000000000000000 < 10000000000000000000 ^ k := by
        rw [Nat.div_lt_iff_lt_mul (by decide)]
        rwa [Nat.pow_succ] at h
      have := lowD_len k f _ this
      omega
theorem lowD_le {x m : Nat} (hx : x < 2 ^ m) (h : m ≤ 76800) : (lowD x x).length ≤ 24320 := by
  obtain ⟨k, hk⟩ : ∃ k : Nat, k = 1280 := ⟨_, rfl⟩
  have h1 : x < 10000000000000000000 ^ k := by
    refine Nat.lt_of_lt_of_le hx (Nat.le_trans (Nat.pow_le_pow_right (by decide) (show m ≤ 63 * k by omega)) ?_)
    rw [Nat.pow_mul]
    exact Nat.pow_le_pow_left (by decide) k
  have := lowD_len k x x h1
  omega
theorem rdig_len {x m : Nat} (hx : x < 2 ^ m) (h : m ≤ 76800) : (rdig x).length ≤ 24320 := by
  obtain ⟨k, hk⟩ := lowD_rdig x x (Nat.le_refl _)
  have := lowD_le hx h
  rw [hk, List.length_append] at this
  omega
theorem digT0_len {x m : Nat} (hx : x < 2 ^ m) (h : m ≤ 76800) : (digT0 x).length ≤ 24320 := by
  by_cases h0 : x = 0
  · subst h0
    decide
  · rw [digT0_pos h0, List.length_reverse]
    exact rdig_len hx h
end Go.Proofs.YtgknelgplmohoaaDoor.M
end
section
namespace Go.Proofs.YtgknelgplmohoaaDoor.M
open Go.RowKit Go.Proofs.YtgknelgplmohoaaDoor.G Go.Proofs.YtgknelgplmohoaaDoorV.PrintWords Go.Proofs.YtgknelgplmohoaaDoorV.PrintLast Go.Proofs.YtgknelgplmohoaaDoor.X
set_option linter.unusedVariables false
set_option linter.unusedSimpArgs false
theorem rdig_pow : ∀ (f x : Nat), x ≤ f → x ≠ 0 → 1 ≤ (rdig x).length ∧ 10 ^ ((rdig x).length - 1) ≤ x ∧ x < 10 ^ (rdig x).length
 | 0, x, h, h0 => by omega
 | f + 1, x, h, h0 => by
  rw [rdig_step h0, List.length_cons]
  by_cases h1 : x / 10 = 0
  ·rw [h1, rdig_zero, List.length_nil]
   refine ⟨by omega, ?_, ?_⟩
   ·show 1 ≤ x
    omega
   ·show x < 10
    omega
  ·obtain ⟨a1, a2, a3⟩ := rdig_pow f (x / 10) (by omega) h1
   generalize (rdig (x / 10)).length = k at *
   refine ⟨by omega, ?_, ?_⟩
   ·have e : 10 ^ (k + 1 - 1) = 10 * 10 ^ (k - 1) := by
     rw [show k + 1 - 1 = (k - 1) + 1 by omega, Nat.pow_succ, Nat.mul_comm]
    omega
   ·rw [Nat.pow_succ]
    omega
theorem digT0_pow {x : Nat} (h : x ≠ 0) : 1 ≤ (digT0 x).length ∧ 10 ^ ((digT0 x).length - 1) ≤ x ∧ x < 10 ^ (digT0 x).length := by
 rw [digT0_pos h, List.length_reverse]
 exact rdig_pow x x (Nat.le_refl _) h
theorem ct_impl_magnitude (S : Nat) (q : Int) (cc : Int) (neg : Bool) (hS : S < B128) (hq : -30000 ≤ q ∧ q ≤ 30000) (u : Nat × Nat) (hu : magN S q = u) : CtRR Tryd.prog 124 [.agg #[.int .i64 cc, .bool neg, .int .u64 (hiI S), .int .u64 (loI S), .int .i64 q]] [] .u64 (ofN B64 u.1) (ofN B64 u.2) := by
 subst hu
 have sS : Sm S := sm128 (Nat.lt_trans hS (by decide))
 have s1 : Sm 1 := Sm.of (k := 1) (by decide) (by decide)
 refine ct_of Tryd.func124 rfl (by kernel_rfl) (fun B w0 => ?_)
 by_cases h0 : 0 ≤ q
 ·have z1 : decide (q ≥ 0) = true := decide_eq_true h0
  have hN : Nn q q.toNat := ⟨by omega⟩
  have hN2 : q.toNat ≤ 30000 := by omega
  have hu : magN S q = (S * 2 ^ q.toNat, 1) := by unfold magN; rw [if_pos h0]
  rw [hu]
  refine xg ?_
  refine xb 1 [.int .i64 cc, .bool neg, .int .u64 (hiI S), .int .u64 (loI S), .int .i64 q] 33 (fun g0 => ?_)
  refine xz [] [(3, .slice none 0 0), (2, .slice none 0 0)] ?_
  refine SW_seq ?_
  refine xr [(1, [0])] [(6, .bool (decide (q ≥ 0)))] ?_
  refine xst z1 ?_
  refine xd (fun hB => ?_)
  refine xdk [(0, []), (1, [0]), (3, []), (4, [0])] [(11, .int .i64 q), (8, .agg #[.int .u64 (hiI S), .int .u64 (loI S)])] hB ?_
  refine xdr 2 9 (ct_impl_Word_nat (S) hS) zs0 (fun A0 k0 => ?_)
  refine xdr 5 12 (ct_impl_nat_left (S) (A0) (k0) (q) (Int.toNat q) hN (by omega) sS) (zsS zi0 zs0) (fun A1 k1 => ?_)
  refine xdr 6 13 (ct_impl_word (1) (1) ⟨rfl⟩ (by omega)) zs0 (fun A2 k2 => ?_)
  refine xdk [(7, []), (8, [])] [(3, .slice A2 (List.length (ofN B64 1)) k2), (2, .slice A1 (List.length (ofN B64 (S * 2 ^ Int.toNat q))) k1)] hB ?_
  refine xdz ?_
  refine SW_ret ?_
  refine xe ((A1, k1), A2, k2) (.tuple #[.slice A1 (List.length (ofN B64 (S * 2 ^ Int.toNat q))) k1, .slice A2 (List.length (ofN B64 1)) k2]) [] ?_ (zsS (ziS zi0) (zsS zi0 zs0))
  rfl
 ·have z1 : decide (q ≥ 0) = false := decide_eq_false h0
  have v1 : Ve (IntKind.i64.wrap (0 - q)) (((-q).toNat : Nat) : Int) := ⟨by rw [wrap_i64 (by omega)]; omega⟩
  have hN2 : (-q).toNat ≤ 30000 := by omega
  have hu : magN S q = (S, 2 ^ (-q).toNat) := by unfold magN; rw [if_neg h0]
  rw [hu]
  have e1 : 1 * 2 ^ (-q).toNat = 2 ^ (-q).toNat := Nat.one_mul _
  rw [← e1]
  refine xg ?_
  refine xb 1 [.int .i64 cc, .bool neg, .int .u64 (hiI S), .int .u64 (loI S), .int .i64 q] 33 (fun g0 => ?_)
  refine xz [] [(3, .slice none 0 0), (2, .slice none 0 0)] ?_
  refine SW_seq ?_
  refine xr [(1, [0])] [(6, .bool (decide (q ≥ 0)))] ?_
  refine xsf z1 ?_
  refine SW_skip ?_
  refine xd (fun hB => ?_)
  refine xdk [(0, []), (1, [0]), (4, []), (5, [0])] [(19, .int .i64 q), (15, .agg #[.int .u64 (hiI S), .int .u64 (loI S)])] hB ?_
  refine xdve 6 hB 20 IntKind.i64 (IntKind.wrap IntKind.i64 (0 - q)) ((((Int.toNat (-q)) : Nat) : Int)) v1 ?_
  refine xdr 2 16 (ct_impl_Word_nat (S) hS) zs0 (fun A0 k0 => ?_)
  refine xdr 3 17 (ct_impl_word (1) (1) ⟨rfl⟩ (by omega)) zs0 (fun A1 k1 => ?_)
  refine xdr 7 21 (ct_impl_nat_left (1) (A1) (k1) ((((Int.toNat (-q)) : Nat) : Int)) (Int.toNat (-q)) ⟨rfl⟩ (by omega) s1) (zsS zi0 zs0) (fun A2 k2 => ?_)
  refine xdk [(8, []), (9, [])] [(3, .slice A2 (List.length (ofN B64 (1 * 2 ^ Int.toNat (-q)))) k2), (2, .slice A0 (List.length (ofN B64 S)) k0)] hB ?_
  refine xdz ?_
  refine SW_ret ?_
  refine xe ((A0, k0), A2, k2) (.tuple #[.slice A0 (List.length (ofN B64 S)) k0, .slice A2 (List.length (ofN B64 (1 * 2 ^ Int.toNat (-q)))) k2]) [] ?_ (zsS (ziS (ziS zi0)) (zsS zi0 zs0))
  rfl
theorem nrN_rng {V t lo hi : Nat} (h1 : 1 ≤ lo) (h2 : lo ≤ hi) : nrN V t lo hi ≠ 0 ∧ nrN V t lo hi ≤ hi := by
 unfold nrN
 generalize rrS V t = r
 omega
theorem farN_lt {V t n k : Nat} (hV : V < 2 ^ k) (hn : n < 2 ^ k) (ht : t < 2 ^ k) : farN V t n < 2 ^ (2 * k + 1) := by
 have h1 := mul_lt2 hn ht
 have h2 : 2 ^ k ≤ 2 ^ (k + k) := Nat.pow_le_pow_right (by decide) (by omega)
 rw [show 2 * k + 1 = k + k + 1 by omega, Nat.pow_succ]
 unfold farN
 generalize n * t = x at *
 split <;> omega
theorem lt135 {x n : Nat} (h : x < 2 ^ 135) (hn : 135 ≤ n) : x < 2 ^ n := Nat.lt_of_lt_of_le h (Nat.pow_le_pow_right (by decide) hn)
theorem cmp_neg' (x y : Nat) : decide (cmpN x y < 0) = decide (x < y) := by
 rw [decide_eq_decide]
 unfold cmpN
 split
 ·simp; omega
 ·split
  ·simp; omega
  ·simp; omega
theorem cmp_zero' (x y : Nat) : (cmpN x y == 0) = decide (x = y) := by
 rw [Bool.eq_iff_iff, beq_iff_eq, decide_eq_true_iff]
 unfold cmpN
 split
 ·constructor <;> intro h <;> omega
 ·split
  ·constructor <;> intro h <;> omega
  ·constructor <;> intro h <;> omega
theorem cmp_pos' (x y : Nat) : decide (cmpN x y > 0) = decide (y < x) := by
 rw [decide_eq_decide]
 unfold cmpN
 split
 ·simp; omega
 ·split
  ·simp; omega
  ·simp; omega
theorem ct_digits (x : Nat) (h0 : x ≠ 0) (m : Nat) (hx : x < 2 ^ m) (hm : m ≤ 76800) (A : Option Addr) (cA : Nat) :
  CtM Tryd.prog 127 [.slice A (ofN B64 x).length cA] [] [Row .u64 A cA (ofN B64 x)] (γ := OW (digT0 x).length) (fun p => .slice (some ⟨p.1.1, 0, none⟩) (digT0 x).length p.1.2.2) (fun p => [⟨p.1.1, cl .u8 (digT0 x) p.1.2.1, 5⟩]) (fun _ => []) := by
 have h := ct_impl_nat_digits x (Sm.of hx (by omega)) (Nat.le_trans (lowD_le hx hm) (by decide)) A cA
 have hn : ¬ digT x = [] := fun z => h0 (digT_nil.1 z)
 have e1 : digT0 x = digT x := by unfold digT0; rw [if_neg hn]
 have e2 : ∀ g r, digB x g r = ⟨g, cl .u8 (digT0 x) r, 5⟩ := fun g r => by unfold digB; rw [if_neg hn, e1]
 have e3 : (fun p : OW (digT0 x).length => [digB x p.1.1 p.1.2.1]) = (fun p => [⟨p.1.1, cl .u8 (digT0 x) p.1.2.1, 5⟩]) := by
  funext p
  rw [e2]
 rw [e3] at h
 exact h
theorem cLo_lt {cl : Bool} {L t : Nat} : cLo cl L t ≤ L + 1 := by
 have := Nat.div_le_self L t
 unfold cLo
 split <;> omega
theorem cHi_le {cl : Bool} {H t : Nat} : cHi cl H t ≤ H := by
 have := Nat.div_le_self H t
 unfold cHi
 split <;> omega
theorem cHi_div {cl : Bool} {H t : Nat} : cHi cl H t ≤ H / t := by
 unfold cHi
 split
 ·exact Nat.sub_le _ _
 ·exact Nat.le_refl _
theorem s6_lt2 {x k : Nat} (hx : x < 2 ^ k) : s6 x < 2 ^ (k + 24001) := by
 have h := mul_lt2 hx (ten_lt2 kK)
 rw [kK_eq] at h
 unfold s6
 rw [kK_eq]
 exact h
theorem ct_cand (lo hi den : Nat) (cl : Bool) (e : Int) (p : R3) (he : -6000 ≤ e ∧ e ≤ 20000) (k : Nat) (hlo : lo < 2 ^ k) (hhi : hi < 2 ^ k) (hden : den < 2 ^ k) (hk : k ≤ 17000) (hd0 : 0 < den) :
  CtRR Tryd.prog 122 [itvV (lo, hi, den) cl p, .int .i64 e] (itvF (lo, hi, den) p) .u64 (ofN B64 (cLo cl (s6 lo) (tU den e))) (ofN B64 (cHi cl (s6 hi) (tU den e))) := by
 have hK := kK_eq
 have h := ct_impl_candidates lo hi den cl e p (by omega) k hlo hhi hden hk hd0 _ _ rfl rfl
 rw [(atN_same cl lo den e (by omega)).1, (atN_same cl hi den e (by omega)).2] at h
 exact h
theorem cHi_small {cl : Bool} {L V H : Nat} {T : Int → Nat} {K eS : Int} (sh : Sh cl L V H T K eS) {e : Int} (hK : K ≤ eS - 39) (he : eS - 39 ≤ e) : cHi cl H (T e) < 2 ^ 135 := by
 have h1 := sh.mono (e := eS - 39) (e' := e) hK he
 have h2 := sh.pow' (e := eS - 39) (e' := eS + 1) hK (by omega)
 rw [show (eS + 1 - (eS - 39)).toNat = 40 by omega] at h2
 have h3 := sh.h2
 have h4 := sh.hi
 have h5 : H < 2 ^ 135 * T e := by
  have a1 : (2 : Nat) ^ 134 * T (eS - 39) ≤ 2 ^ 134 * T e := Nat.mul_le_mul_left _ h1
  have a2 : (10 : Nat) ^ 40 * T (eS - 39) ≤ 2 ^ 134 * T (eS - 39) := Nat.mul_le_mul_right _ (by decide)
  omega
 exact Nat.lt_of_le_of_lt cHi_div ((Nat.div_lt_iff_lt_mul (sh.p e)).2 h5)
theorem ct_impl_shortest {lo hi den k : Nat} {cl : Bool} {eS u : Int} {S : Nat} {q : Int} {P : Nat} {emin : Int} (hbn : bndN P emin S q = (lo, hi, den)) (sh : Sh cl (s6 lo) (s6 (midN S q)) (s6 hi) (tU den) (-(kK : Int)) eS) (heS : -5125 ≤ eS ∧ eS ≤ 5125)
  (hlo : lo < 2 ^ k) (hhi : hi < 2 ^ k) (hden : den < 2 ^ k) (hk : k ≤ 17000) (hd0 : 0 < den) (hmid : midN S q < hi) (hS : S < B128) (hq : -30000 ≤ q ∧ q ≤ 30000)
  (hu1 : u ≤ eS) (hu38 : eS - 38 ≤ u) (hul : lhN cl (s6 lo) (s6 hi) (s6 (midN S q)) (tU den u) = true) (hum : ∀ e, u < e → e ≤ eS → ¬ lhN cl (s6 lo) (s6 hi) (s6 (midN S q)) (tU den e) = true) (D : Nat) (hD : chS cl (s6 lo) (s6 hi) (s6 (midN S q)) (tU den u) = D) (p1 p2 p3 : Option Addr) (j1 j2 j3 : Nat) (cc : Int) (neg : Bool) :
  CtM Tryd.prog 84 [.agg #[.slice p1 (ofN B64 lo).length j1, .slice p2 (ofN B64 hi).length j2, .slice p3 (ofN B64 den).length j3, .bool cl, .bool true], .agg #[.int .i64 cc, .bool neg, .int .u64 (hiI S), .int .u64 (loI S), .int .i64 q]] [] [Row .u64 p1 j1 (ofN B64 lo), Row .u64 p2 j2 (ofN B64 hi), Row .u64 p3 j3 (ofN B64 den)]
   (γ := {x : (Nat × List Value × Nat) × (Nat × Int) // (digT0 x.2.1).length + x.1.2.1.length = x.1.2.2 ∧ x.2.1 ≠ 0 ∧ x.2.1 < 2 ^ 135 ∧ (x.2 = (D, u) ∨ (x.2 = (1, u + 1) ∧ D = 10))})
   (fun x => .tuple #[.slice (some ⟨x.1.1.1, 0, none⟩) (digT0 x.1.2.1).length x.1.1.2.2, .int .i64 x.1.2.2]) (fun x => [⟨x.1.1.1, X.cl .u8 (digT0 x.1.2.1) x.1.1.2.1, 5⟩]) (fun _ => []) := by
 have hK := kK_eq
 have hvu : cLo cl (s6 lo) (tU den u) ≤ cHi cl (s6 hi) (tU den u) := (lh_cand (sh.p u) sh.lv sh.vh (Nat.le_trans (sh.mono (by omega) hu1) sh.lo)).1 hul
 have cand : ∀ e : Int, -6000 ≤ e ∧ e ≤ 20000 → CtRR Tryd.prog 122 [.agg #[.slice p1 (ofN B64 lo).length j1, .slice p2 (ofN B64 hi).length j2, .slice p3 (ofN B64 den).length j3, .bool cl, .bool true], .int .i64 e] [Row .u64 p1 j1 (ofN B64 lo), Row .u64 p2 j2 (ofN B64 hi), Row .u64 p3 j3 (ofN B64 den)] .u64 (ofN B64 (cLo cl (s6 lo) (tU den e))) (ofN B64 (cHi cl (s6 hi) (tU den e))) := fun e he => ct_cand lo hi den cl e ((p1, j1), (p2, j2), (p3, j3)) he k hlo hhi hden hk hd0
 obtain ⟨bh, hbh⟩ := bits_ex hi
 obtain ⟨bd, hbd⟩ := bits_ex den
 obtain ⟨k1, k2, k3, k4⟩ := e0_ok sh rfl hmid hbh hbd hd0 hhi hden hk heS
 have sHi : Sm hi := Sm.of hhi (by omega)
 have sDen : Sm den := Sm.of hden (by omega)
 have g1 := s6_lt2 hlo
 have g2 := s6_lt2 hhi
 have sC1 : ∀ e, Sm (cLo cl (s6 lo) (tU den e)) := fun e => Sm.of (k := k + 24002) (by have := cLo_lt (cl := cl) (L := s6 lo) (t := tU den e); have := Nat.pow_pos (n := k + 24001) (show 0 < 2 by decide); rw [Nat.pow_succ]; omega) (by omega)
 have sC2 : ∀ e, Sm (cHi cl (s6 hi) (tU den e)) := fun e => Sm.of (k := k + 24001) (Nat.lt_of_le_of_lt cHi_le g2) (by omega)
 obtain ⟨e0, he0⟩ : ∃ e0, Int.tdiv (((bh : Int) - bd + 1) * 30103) 100000 + 2 = e0 := ⟨_, rfl⟩
 have v1 : Ve (IntKind.i64.wrap ((bh : Int) - (bd : Int))) ((bh : Int) - bd) := ⟨wrap_i64 (by omega)⟩
 have v2 : Ve (IntKind.i64.wrap ((bh : Int) - (bd : Int) + 1)) ((bh : Int) - bd + 1) := ⟨wrap_i64 (by omega)⟩
 have v3 : Ve (IntKind.i64.wrap (((bh : Int) - (bd : Int) + 1) * 30103)) (((bh : Int) - bd + 1) * 30103) := ⟨wrap_i64 (by omega)⟩
 have v4 : Ve (IntKind.i64.wrap (Int.tdiv (((bh : Int) - (bd : Int) + 1) * 30103) 100000)) (Int.tdiv (((bh : Int) - (bd : Int) + 1) * 30103) 100000) := ⟨wrap_i64 (by omega)⟩
 have v5 : Ve (IntKind.i64.wrap (Int.tdiv (((bh : Int) - (bd : Int) + 1) * 30103) 100000 + 2)) e0 := ⟨by rw [wrap_i64 (by omega)]; exact he0⟩
 rw [he0] at k1 k2
 refine cm_of Tryd.func84 rfl (by kernel_rfl) (fun B w0 => ?_)
 clear he0
 have cand0 := cand e0 (by omega)
 have lq := fun e => cmp_pos' (cLo cl (s6 lo) (tU den e)) (cHi cl (s6 hi) (tU den e))
 refine xg ?_
 refine xb 2 [.slice p1 (List.length (ofN B64 lo)) j1, .slice p2 (List.length (ofN B64 hi)) j2, .slice p3 (List.length (ofN B64 den)) j3, .bool cl, .bool true] 63 (fun g3 => ?_)
 refine xb 3 [.int .i64 cc, .bool neg, .int .u64 (hiI S), .int .u64 (loI S), .int .i64 q] 33 (fun g4 => ?_)
 refine xz [] [(5, .int .i64 0), (4, .slice none 0 0)] ?_
 refine xd (fun hB => ?_)
 refine xdk [(0, []), (1, [0]), (3, []), (4, [0])] [(29, .slice p3 (List.length (ofN B64 den)) j3), (26, .slice p2 (List.length (ofN B64 hi)) j2)] hB ?_
 refine xdv 2 27 (ct_impl_nat_bits (hi) (p2) (j2) sHi (bh) hbh) (zsS (ziS zi0) zs0) ?_
 refine xdv 5 30 (ct_impl_nat_bits (den) (p3) (j3) sDen (bd) hbd) (zsS (ziS (ziS zi0)) zs0) ?_
 refine xdve 6 hB 31 IntKind.i64 (IntKind.wrap IntKind.i64 ((bh : Int) - (bd : Int))) ((bh : Int) - (bd : Int)) v1 ?_
 refine xdve 7 hB 32 IntKind.i64 (IntKind.wrap IntKind.i64 ((bh : Int) - (bd : Int) + 1)) ((bh : Int) - (bd : Int) + 1) v2 ?_
 refine xdve 8 hB 33 IntKind.i64 (IntKind.wrap IntKind.i64 (((bh : Int) - (bd : Int) + 1) * 30103)) (((bh : Int) - (bd : Int) + 1) * 30103) v3 ?_
 refine xdve 9 hB 34 IntKind.i64 (IntKind.wrap IntKind.i64 (Int.tdiv (((bh : Int) - (bd : Int) + 1) * 30103) 100000)) (Int.tdiv (((bh : Int) - (bd : Int) + 1) * 30103) 100000) v4 ?_
 refine xdve 10 hB 35 IntKind.i64 (IntKind.wrap IntKind.i64 (Int.tdiv (((bh : Int) - (bd : Int) + 1) * 30103) 100000 + 2)) (e0) v5 ?_
 refine xdk [(11, [])] [(6, .int .i64 e0)] hB ?_
 refine xdz ?_
 refine xg ?_
 refine xn 2 [(0, [0])] [(38, .int .i64 e0), (37, .agg #[.slice p1 (List.length (ofN B64 lo)) j1, .slice p2 (List.length (ofN B64 hi)) j2, .slice p3 (List.length (ofN B64 den)) j3, .bool cl, .bool true])] ?_
 refine xcw 39 cand0 (zsS zi0 (zsS (ziS zi0) (zsS (ziS (ziS zi0)) zs0))) (fun A5 k5 A6 k6 => ?_)
 refine xz [] [(8, .slice A6 (List.length (ofN B64 (cHi cl (s6 hi) (tU den e0)))) k6), (7, .slice A5 (List.length (ofN B64 (cLo cl (s6 lo) (tU den e0)))) k5)] ?_
 clear v1 v2 v3 v4 v5
 refine SW_cut (fun s' => ∃ (E : Int) (A7 A8 : Option Addr) (c7 c8 : Nat), (u ≤ E ∧ E ≤ e0) ∧ cLo cl (s6 lo) (tU den E) ≤ cHi cl (s6 hi) (tU den E) ∧ (∀ e', E < e' → e' ≤ e0 → ¬ cLo cl (s6 lo) (tU den e') ≤ cHi cl (s6 hi) (tU den e')) ∧
  Weak2 s' ⟨[(2, .pointer (some ⟨g3, 0, none⟩)), (3, .pointer (some ⟨g4, 0, none⟩)), (6, .int .i64 E), (7, .slice A7 (ofN B64 (cLo cl (s6 lo) (tU den E))).length c7), (8, .slice A8 (ofN B64 (cHi cl (s6 hi) (tU den E))).length c8)], [⟨g3, [.slice p1 (ofN B64 lo).length j1, .slice p2 (ofN B64 hi).length j2, .slice p3 (ofN B64 den).length j3, .bool cl, .bool true], 63⟩, ⟨g4, [.int .i64 cc, .bool neg, .int .u64 (hiI S), .int .u64 (loI S), .int .i64 q], 33⟩],
   [Row .u64 A7 c7 (ofN B64 (cLo cl (s6 lo) (tU den E))), Row .u64 A8 c8 (ofN B64 (cHi cl (s6 hi) (tU den E))), Row .u64 p1 j1 (ofN B64 lo), Row .u64 p2 j2 (ofN B64 hi), Row .u64 p3 j3 (ofN B64 den)]⟩) ?_ (fun s' hs' => ?_)
 ·refine SW_block ?_
  refine SW_loopn (fun m s' => ∃ (e : Int) (A7 A8 : Option Addr) (c7 c8 : Nat), m = (e - u).toNat ∧ (u ≤ e ∧ e ≤ e0) ∧ (∀ e', e < e' → e' ≤ e0 → ¬ cLo cl (s6 lo) (tU den e') ≤ cHi cl (s6 hi) (tU den e')) ∧
   Weak2 s' ⟨[(2, .pointer (some ⟨g3, 0, none⟩)), (3, .pointer (some ⟨g4, 0, none⟩)), (6, .int .i64 e), (7, .slice A7 (ofN B64 (cLo cl (s6 lo) (tU den e))).length c7), (8, .slice A8 (ofN B64 (cHi cl (s6 hi) (tU den e))).length c8)], [⟨g3, [.slice p1 (ofN B64 lo).length j1, .slice p2 (ofN B64 hi).length j2, .slice p3 (ofN B64 den).length j3, .bool cl, .bool true], 63⟩, ⟨g4, [.int .i64 cc, .bool neg, .int .u64 (hiI S), .int .u64 (loI S), .int .i64 q], 33⟩],
    [Row .u64 A7 c7 (ofN B64 (cLo cl (s6 lo) (tU den e))), Row .u64 A8 c8 (ofN B64 (cHi cl (s6 hi) (tU den e))), Row .u64 p1 j1 (ofN B64 lo), Row .u64 p2 j2 (ofN B64 hi), Row .u64 p3 j3 (ofN B64 den)]⟩) (e0 - u).toNat ?_ (fun m s' hI => ?_)
  ·refine ⟨e0, A5, A6, k5, k6, rfl, ⟨by omega, Int.le_refl _⟩, fun e' h1 h2 => by omega, ?_⟩
   exact xw2 [true, true] (zsS zi0 (zsS (ziS zi0) (zsS (ziS (ziS zi0)) (zsS (ziS (ziS (ziS zi0))) (zsS (ziS (ziS (ziS (ziS zi0)))) zs0)))))
  ·obtain ⟨e, A7, A8, c7, c8, h1, h2, h3, hw⟩ := hI
   refine SW_weak2 hw ?_
   clear hw
   have sC1e := sC1 e
   have sC2e := sC2 e
   by_cases hc : cLo cl (s6 lo) (tU den e) ≤ cHi cl (s6 hi) (tU den e)
   ·have z1 : decide (cmpN (cLo cl (s6 lo) (tU den e)) (cHi cl (s6 hi) (tU den e)) > 0) = false := by rw [lq]; exact decide_eq_false (by omega)
    refine SW_seq ?_
    refine xg ?_
    refine xn 2 [] [(43, .slice A8 (List.length (ofN B64 (cHi cl (s6 hi) (tU den e)))) c8), (42, .slice A7 (List.length (ofN B64 (cLo cl (s6 lo) (tU den e)))) c7)] ?_
    refine xcv 44 (ct_impl_nat_cmp (cLo cl (s6 lo) (tU den e)) (cHi cl (s6 hi) (tU den e)) (A7) (A8) (c7) (c8) sC1e sC2e) (zsS zi0 (zsS (ziS zi0) zs0)) ?_
    refine xz [] [(45, .bool (decide (cmpN (cLo cl (s6 lo) (tU den e)) (cHi cl (s6 hi) (tU den e)) > 0)))] ?_
    refine xsf z1 ?_
    refine SW_exit ?_
    refine ⟨e, A7, A8, c7, c8, h2, hc, h3, ?_⟩
    exact xw2 [true, true] (zsS zi0 (zsS (ziS zi0) (zsS (ziS (ziS zi0)) (zsS (ziS (ziS (ziS zi0))) (zsS (ziS (ziS (ziS (ziS zi0)))) zs0)))))
   ·have z1 : decide (cmpN (cLo cl (s6 lo) (tU den e)) (cHi cl (s6 hi) (tU den e)) > 0) = true := by rw [lq]; exact decide_eq_true (by omega)
    have hne : e ≠ u := fun z => hc (by rw [z]; exact hvu)
    have v1 : Ve (IntKind.i64.wrap (e - 1)) (e - 1) := ⟨wrap_i64 (by omega)⟩
    have cand1 := cand (e - 1) (by omega)
    have h4 : ∀ e', e - 1 < e' → e' ≤ e0 → ¬ cLo cl (s6 lo) (tU den e') ≤ cHi cl (s6 hi) (tU den e') := fun e' a1 a2 => by
     by_cases he : e' = e
     ·rw [he]; exact hc
     ·exact h3 e' (by omega) a2
    clear hc hvu
    refine SW_seq ?_
    refine xg ?_
    refine xn 2 [] [(43, .slice A8 (List.length (ofN B64 (cHi cl (s6 hi) (tU den e)))) c8), (42, .slice A7 (List.length (ofN B64 (cLo cl (s6 lo) (tU den e)))) c7)] ?_
    refine xcv 44 (ct_impl_nat_cmp (cLo cl (s6 lo) (tU den e)) (cHi cl (s6 hi) (tU den e)) (A7) (A8) (c7) (c8) sC1e sC2e) (zsS zi0 (zsS (ziS zi0) zs0)) ?_
    refine xz [] [(45, .bool (decide (cmpN (cLo cl (s6 lo) (tU den e)) (cHi cl (s6 hi) (tU den e)) > 0)))] ?_
    refine xst z1 ?_
    refine SW_skip ?_
    refine SW_block ?_
    refine xg ?_
    refine xn 1 [] [(46, .int .i64 e)] ?_
    refine xve 47 IntKind.i64 (IntKind.wrap IntKind.i64 (e - 1)) (e - 1) v1 ?_
    refine xz [] [(6, .int .i64 (e - 1))] ?_
    refine SW_region ?_
    refine xn 2 [(0, [0])] [(50, .int .i64 (e - 1)), (49, .agg #[.slice p1 (List.length (ofN B64 lo)) j1, .slice p2 (List.length (ofN B64 hi)) j2, .slice p3 (List.length (ofN B64 den)) j3, .bool cl, .bool true])] ?_
    refine xcw 51 cand1 (zsS (ziS (ziS zi0)) (zsS (ziS (ziS (ziS zi0))) (zsS (ziS (ziS (ziS (ziS zi0)))) zs0))) (fun A9 k9 A10 k10 => ?_)
    refine xz [] [(8, .slice A10 (List.length (ofN B64 (cHi cl (s6 hi) (tU den (e - 1))))) k10), (7, .slice A9 (List.length (ofN B64 (cLo cl (s6 lo) (tU den (e - 1))))) k9)] ?_
    refine ⟨(e - 1 - u).toNat, by omega, e - 1, A9, A10, k9, k10, rfl, ⟨by omega, by omega⟩, h4, ?_⟩
    exact xw2 [true, true] (zsS zi0 (zsS (ziS zi0) (zsS (ziS (ziS (ziS (ziS zi0)))) (zsS (ziS (ziS (ziS (ziS (ziS zi0))))) (zsS (ziS (ziS (ziS (ziS (ziS (ziS zi0)))))) zs0)))))
 obtain ⟨E, A7, A8, c7, c8, ⟨hE1, hE2⟩, hcE, hmax, hw⟩ := hs'
 refine SW_weak2 hw ?_
 clear hw cand0
 obtain ⟨b1, b2⟩ : (magN S q).1 < 2 ^ k ∧ (magN S q).2 < 2 ^ k := by
  obtain ⟨c, hc, z1, z2⟩ := mag_mid (P := P) (emin := emin) S q
  rw [hbn] at z2
  have w1 : 1 * (magN S q).1 ≤ c * (magN S q).1 := Nat.mul_le_mul_right _ hc
  have w2 : 1 * (magN S q).2 ≤ c * (magN S q).2 := Nat.mul_le_mul_right _ hc
  dsimp only at z2
  omega
 obtain ⟨c1, hc1, m1, m2⟩ := atM_scale (P := P) (emin := emin) S q E (by omega)
 obtain ⟨c2, hc2, m3, m4⟩ := atM_scale (P := P) (emin := emin) S q (E - 1) (by omega)
 rw [hbn] at m2 m4
 dsimp only at m2 m4
 have pd1 : 0 < (atN (magN S q).1 (magN S q).2 E).2 := by
  rcases Nat.eq_zero_or_pos (atN (magN S q).1 (magN S q).2 E).2 with z | z
  ·rw [z] at m2; have := sh.p E; omega
  ·exact z
 have pd2 : 0 < (atN (magN S q).1 (magN S q).2 (E - 1)).2 := by
  rcases Nat.eq_zero_or_pos (atN (magN S q).1 (magN S q).2 (E - 1)).2 with z | z
  ·rw [z] at m4; have := sh.p (E - 1); omega
  ·exact z
 obtain ⟨N9, hN9, hN9a, hN9b⟩ : ∃ N9 : Nat, k + 80001 ≤ N9 ∧ N9 ≤ 98000 ∧ 135 ≤ N9 := ⟨98000, by omega, by omega, by omega⟩
 have l1 := atN_lt (n := N9) b1 b2 (show -20000 ≤ E ∧ E ≤ 20000 by omega) (by omega)
 have l2 := atN_lt (n := N9) b1 b2 (show -20000 ≤ E - 1 ∧ E - 1 ≤ 20000 by omega) (by omega)
 have sm1 : Sm (magN S q).1 := Sm.of b1 (by omega)
 have sm2 : Sm (magN S q).2 := Sm.of b2 (by omega)
 obtain ⟨mg, hmg⟩ : ∃ mg, magN S q = mg := ⟨_, rfl⟩
 rw [hmg] at m1 m2 m3 m4 pd1 pd2 l1 l2 sm1 sm2
 obtain ⟨f1, hf1⟩ : ∃ f1, atN mg.1 mg.2 E = f1 := ⟨_, rfl⟩
 obtain ⟨f2, hf2⟩ : ∃ f2, atN mg.1 mg.2 (E - 1) = f2 := ⟨_, rfl⟩
 rw [hf1] at m1 m2 pd1 l1
 rw [hf2] at m3 m4 pd2 l2
 have rE : -20000 ≤ E ∧ E ≤ 20000 := by omega
 have rE1 : -20000 ≤ E - 1 ∧ E - 1 ≤ 20000 := by omega
 have sE1 : cHi cl (s6 hi) (tU den E) < 2 ^ 135 := cHi_small sh (by omega) (by omega)
 have sE2 : cHi cl (s6 hi) (tU den (E - 1)) < 2 ^ 135 := cHi_small sh (by omega) (by omega)
 have hp1 := cLo_pos cl (s6 lo) (tU den E)
 have hp2 := cLo_pos cl (s6 lo) (tU den (E - 1))
 -- the first choice
 obtain ⟨n, hn⟩ : ∃ n, nrN (s6 (midN S q)) (tU den E) (cLo cl (s6 lo) (tU den E)) (cHi cl (s6 hi) (tU den E)) = n := ⟨_, rfl⟩
 have hn1 : n ≠ 0 ∧ n ≤ cHi cl (s6 hi) (tU den E) := by rw [← hn]; exact nrN_rng hp1 hcE
 have cn := fun A A' A2 A3 c c' c2 c3 => ct_impl_near f1.1 f1.2 (cLo cl (s6 lo) (tU den E)) (cHi cl (s6 hi) (tU den E)) N9 A A' A2 A3 c c' c2 c3 l1.1 l1.2 pd1 (Nat.lt_of_le_of_lt hcE (lt135 sE1 hN9b)) (lt135 sE1 hN9b) (by omega)
 have en : nrN f1.1 f1.2 (cLo cl (s6 lo) (tU den E)) (cHi cl (s6 hi) (tU den E)) = n := by rw [← hn, ← m1, ← m2, nrN_scale hc1]
 rw [en] at cn
 obtain ⟨q1, q2, q3⟩ := digT0_pow hn1.1
 obtain ⟨kk, hkk⟩ : ∃ kk, (digT0 n).length = kk := ⟨_, rfl⟩
 have n135 : n < 2 ^ 135 := by omega
 have cd := fun A c => ct_digits n hn1.1 135 n135 (by decide) A c
 rw [hkk] at q1 q2 q3 cd
 have hk135 : kk ≤ 135 := by
  have a1 : 2 ^ (kk - 1) ≤ 10 ^ (kk - 1) := Nat.pow_le_pow_left (by decide) _
  have a2 : kk - 1 < 135 := (Nat.pow_lt_pow_iff_right (show 1 < 2 by decide)).1 (by omega)
  omega
 have hmain := sh_main sh (show -(kK : Int) + 1 ≤ E by omega) (show -(kK : Int) + 1 ≤ u by omega) hcE hmax k1 hE2 hu1 hul hum kk q1 (by rw [hn]; exact q2) (by rw [hn]; exact q3)
 rw [hD] at hmain
 unfold impR at hmain
 dsimp only at hmain
 rw [hn] at hmain
 -- the second
 obtain ⟨lo2, hlo2⟩ : ∃ lo2, max (cLo cl (s6 lo) (tU den (E - 1))) (10 ^ (kk - 1)) = lo2 := ⟨_, rfl⟩
 obtain ⟨hi2, hhi2⟩ : ∃ hi2, min (cHi cl (s6 hi) (tU den (E - 1))) (10 ^ kk - 1) = hi2 := ⟨_, rfl⟩
 rw [hlo2, hhi2] at hmain
 obtain ⟨n2, hn2⟩ : ∃ n2, nrN (s6 (midN S q)) (tU den (E - 1)) lo2 hi2 = n2 := ⟨_, rfl⟩
 rw [hn2] at hmain
 have tE : tU den E = 10 * tU den (E - 1) := by have := sh.t (E - 1) (by omega); rwa [show E - 1 + 1 = E by omega] at this
 have fcmp := far_cmp (n := n) (n' := n2) hc1 hc2 m1 m2 m3 m4 tE (sh.p (E - 1))
 obtain ⟨F1, hF1⟩ : ∃ F1, farN f1.1 f1.2 n = F1 := ⟨_, rfl⟩
 obtain ⟨F2, hF2⟩ : ∃ F2, farN f2.1 f2.2 n2 = F2 := ⟨_, rfl⟩
 rw [hF1] at cn
 rw [hF1, hF2] at fcmp
 have candE := cand (E - 1) (by omega)
 have v1 : Ve (IntKind.i64.wrap (E - 1)) (E - 1) := ⟨wrap_i64 (by omega)⟩
 have v2 : Ve (IntKind.i64.wrap ((kk : Int) - 1)) ((kk - 1 : Nat) : Int) := ⟨by rw [wrap_i64 (by omega)]; omega⟩
 have s1 : Sm 1 := Sm.of (k := 1) (by decide) (by decide)
 have s10 : Sm 10 := Sm.of (k := 4) (by decide) (by decide)
 have sT1 : Sm (10 ^ (kk - 1)) := ten_sm' (by omega)
 have sT2 : Sm (10 ^ kk) := ten_sm' (by omega)
 have h1T : 1 ≤ 10 ^ kk := Nat.pow_pos (by decide)
 have sT3 : Sm (10 ^ kk - 1) := sT2.mono (Nat.sub_le _ _)
 have sC3 := sC1 (E - 1)
 have sC4 := sC2 (E - 1)
 have cm := ct_impl_magnitude S q cc neg hS hq mg hmg
 have ca1 := fun A A' c c' => ct_impl_at mg.1 mg.2 E A A' c c' rE sm1 sm2 f1 hf1
 have ca2 := fun A A' c c' => ct_impl_at mg.1 mg.2 (E - 1) A A' c c' rE1 sm1 sm2 f2 hf2
 have hen2 : ∀ a b, nrN f2.1 f2.2 a b = nrN (s6 (midN S q)) (tU den (E - 1)) a b := fun a b => by rw [← m3, ← m4, nrN_scale hc2]
 clear hf1 hf2 hmg m1 m2 m3 m4 hmax hcE hul hum cand hvu
 obtain ⟨x1, y1⟩ := f1
 obtain ⟨x2, y2⟩ := f2
 obtain ⟨w1, w2⟩ := mg
 dsimp only at hen2 l1 l2 pd1 pd2 cn fcmp cm ca1 ca2 sm1 sm2 hF1 hF2
 have sx1 : Sm x1 := Sm.of l1.1 (by omega)
 have sy1 : Sm y1 := Sm.of l1.2 (by omega)
 have sx2 : Sm x2 := Sm.of l2.1 (by omega)
 have sy2 : Sm y2 := Sm.of l2.2 (by omega)
 have kn : Nn (kk : Int) kk := ⟨rfl⟩
 have cq1 := cmp_neg' (cLo cl (s6 lo) (tU den (E - 1))) (10 ^ (kk - 1))
 have cq2 := cmp_pos' (cHi cl (s6 hi) (tU den (E - 1))) (10 ^ kk - 1)
 obtain ⟨l3, hl3⟩ : ∃ l3, cLo cl (s6 lo) (tU den (E - 1)) = l3 := ⟨_, rfl⟩
 obtain ⟨h3, hh3⟩ : ∃ h3, cHi cl (s6 hi) (tU den (E - 1)) = h3 := ⟨_, rfl⟩
 rw [hl3] at cq1 sC3 hlo2 hp2
 rw [hh3] at cq2 sC4 hhi2 sE2
 rw [hl3, hh3] at candE
 have slo2 : Sm lo2 := by
  rcases (show lo2 = l3 ∨ lo2 = 10 ^ (kk - 1) by omega) with z | z
  ·rw [z]; exact sC3
  ·rw [z]; exact sT1
 have shi2 : Sm hi2 := sC4.mono (by omega)
 clear hl3 hh3
 refine xg ?_
 refine xn 1 [(0, [1])] [(55, .agg #[.int .i64 cc, .bool neg, .int .u64 (hiI S), .int .u64 (loI S), .int .i64 q])] ?_
 refine xcw 56 cm zs0 (fun A9 k9 A10 k10 => ?_)
 refine xz [] [(10, .slice A10 (List.length (ofN B64 w2)) k10), (9, .slice A9 (List.length (ofN B64 w1)) k9)] ?_
 refine xg ?_
 refine xn 3 [] [(62, .int .i64 E), (61, .slice A10 (List.length (ofN B64 w2)) k10), (60, .slice A9 (List.length (ofN B64 w1)) k9)] ?_
 refine xcw 63 (ca1 _ _ _ _) (zsS zi0 (zsS (ziS zi0) zs0)) (fun A11 k11 A12 k12 => ?_)
 refine xz [] [(12, .slice A12 (List.length (ofN B64 y1)) k12), (11, .slice A11 (List.length (ofN B64 x1)) k11)] ?_
 refine xg ?_
 refine xn 4 [] [(70, .slice A8 (List.length (ofN B64 (cHi cl (s6 hi) (tU den E)))) c8), (69, .slice A7 (List.length (ofN B64 (cLo cl (s6 lo) (tU den E)))) c7), (68, .slice A12 (List.length (ofN B64 y1)) k12), (67, .slice A11 (List.length (ofN B64 x1)) k11)] ?_
 refine xcw 71 (cn _ _ _ _ _ _ _ _) (zsS zi0 (zsS (ziS zi0) (zsS (ziS (ziS (ziS (ziS zi0)))) (zsS (ziS (ziS (ziS (ziS (ziS zi0))))) zs0)))) (fun A13 k13 A14 k14 => ?_)
 refine xz [] [(14, .slice A14 (List.length (ofN B64 F1)) k14), (13, .slice A13 (List.length (ofN B64 n)) k13)] ?_
 refine xg ?_
 refine xn 1 [] [(74, .slice A13 (List.length (ofN B64 n)) k13)] ?_
 (refine xcm 75 [false] (cd (A13) (k13)) (zsS zi0 zs0) (fun zz => ?_); obtain ⟨⟨z4, ⟨z5, z6⟩⟩, p7⟩ := zz)
 refine xz [] [(15, .int .i64 (kk : Int))] ?_
 refine xg ?_
 refine xn 2 [(0, [0])] [(79, .int .i64 E), (78, .agg #[.slice p1 (List.length (ofN B64 lo)) j1, .slice p2 (List.length (ofN B64 hi)) j2, .slice p3 (List.length (ofN B64 den)) j3, .bool cl, .bool true])] ?_
 refine xve 80 IntKind.i64 (IntKind.wrap IntKind.i64 (E - 1)) (E - 1) v1 ?_
 refine xcw 81 candE (zsS (ziS (ziS (ziS (ziS (ziS (ziS (ziS (ziS zi0)))))))) (zsS (ziS (ziS (ziS (ziS (ziS (ziS (ziS (ziS (ziS zi0))))))))) (zsS (ziS (ziS (ziS (ziS (ziS (ziS (ziS (ziS (ziS (ziS zi0)))))))))) zs0))) (fun A15 k15 A16 k16 => ?_)
 refine xz [] [(8, .slice A16 (List.length (ofN B64 h3)) k16), (7, .slice A15 (List.length (ofN B64 l3)) k15)] ?_
 refine SW_cut (fun s' => ∃ (A : Option Addr) (c : Nat), Weak2 s' ⟨[(6, .int .i64 E), (7, .slice A (ofN B64 lo2).length c), (8, .slice A16 (ofN B64 h3).length k16), (9, .slice A9 (ofN B64 w1).length k9), (10, .slice A10 (ofN B64 w2).length k10), (12, .slice A12 (ofN B64 y1).length k12), (13, .slice A13 (ofN B64 n).length k13), (14, .slice A14 (ofN B64 F1).length k14), (15, .int .i64 (kk : Int))], [],
  [Row .u64 A c (ofN B64 lo2), Row .u64 A16 k16 (ofN B64 h3), Row .u64 A9 k9 (ofN B64 w1), Row .u64 A10 k10 (ofN B64 w2), Row .u64 A12 k12 (ofN B64 y1), Row .u64 A13 k13 (ofN B64 n), Row .u64 A14 k14 (ofN B64 F1)]⟩) ?_ (fun s' hs' => ?_)
 ·by_cases hl : l3 < 10 ^ (kk - 1)
  ·have z1 : decide (cmpN l3 (10 ^ (kk - 1)) < 0) = true := by rw [cq1]; exact decide_eq_true hl
   have e : lo2 = 10 ^ (kk - 1) := by omega
   rw [e]
   refine xg ?_
   refine xn 1 [] [(84, .int .i64 (kk : Int))] ?_
   refine xve 85 IntKind.i64 (IntKind.wrap IntKind.i64 ((kk : Int) - 1)) ((((kk - 1) : Nat) : Int)) v2 ?_
   refine xcr 86 (ct_impl_ten ((((kk - 1) : Nat) : Int)) (kk - 1) ⟨rfl⟩ (by omega)) zs0 (fun A17 k17 => ?_)
   refine xz [] [(16, .slice A17 (List.length (ofN B64 (10 ^ (kk - 1)))) k17)] ?_
   refine xg ?_
   refine xn 2 [] [(88, .slice A17 (List.length (ofN B64 (10 ^ (kk - 1)))) k17), (87, .slice A15 (List.length (ofN B64 l3)) k15)] ?_
   refine xcv 89 (ct_impl_nat_cmp (l3) (10 ^ (kk - 1)) (A15) (A17) (k15) (k17) sC3 sT1) (zsS (ziS zi0) (zsS zi0 zs0)) ?_
   refine xz [] [(90, .bool (decide (cmpN l3 (10 ^ (kk - 1)) < 0)))] ?_
   refine xst z1 ?_
   refine xrl [] [(7, .slice A17 (List.length (ofN B64 (10 ^ (kk - 1)))) k17)] ?_
   refine ⟨(A17), (k17), xw2 [] (zsS zi0 (zsS (ziS (ziS zi0)) (zsS (ziS (ziS (ziS (ziS (ziS (ziS (ziS zi0))))))) (zsS (ziS (ziS (ziS (ziS (ziS (ziS (ziS (ziS zi0)))))))) (zsS (ziS (ziS (ziS (ziS (ziS (ziS zi0)))))) (zsS (ziS (ziS (ziS zi0))) (zsS (ziS (ziS (ziS (ziS zi0)))) zs0)))))))⟩
  ·have z1 : decide (cmpN l3 (10 ^ (kk - 1)) < 0) = false := by rw [cq1]; exact decide_eq_false hl
   have e : lo2 = l3 := by omega
   rw [e]
   refine xg ?_
   refine xn 1 [] [(84, .int .i64 (kk : Int))] ?_
   refine xve 85 IntKind.i64 (IntKind.wrap IntKind.i64 ((kk : Int) - 1)) ((((kk - 1) : Nat) : Int)) v2 ?_
   refine xcr 86 (ct_impl_ten ((((kk - 1) : Nat) : Int)) (kk - 1) ⟨rfl⟩ (by omega)) zs0 (fun A17 k17 => ?_)
   refine xz [] [(16, .slice A17 (List.length (ofN B64 (10 ^ (kk - 1)))) k17)] ?_
   refine xg ?_
   refine xn 2 [] [(88, .slice A17 (List.length (ofN B64 (10 ^ (kk - 1)))) k17), (87, .slice A15 (List.length (ofN B64 l3)) k15)] ?_
   refine xcv 89 (ct_impl_nat_cmp (l3) (10 ^ (kk - 1)) (A15) (A17) (k15) (k17) sC3 sT1) (zsS (ziS zi0) (zsS zi0 zs0)) ?_
   refine xz [] [(90, .bool (decide (cmpN l3 (10 ^ (kk - 1)) < 0)))] ?_
   refine xsf z1 ?_
   refine SW_skip ?_
   refine ⟨(A15), (k15), xw2 [] (zsS (ziS zi0) (zsS (ziS (ziS zi0)) (zsS (ziS (ziS (ziS (ziS (ziS (ziS (ziS zi0))))))) (zsS (ziS (ziS (ziS (ziS (ziS (ziS (ziS (ziS zi0)))))))) (zsS (ziS (ziS (ziS (ziS (ziS (ziS zi0)))))) (zsS (ziS (ziS (ziS zi0))) (zsS (ziS (ziS (ziS (ziS zi0)))) zs0)))))))⟩
 obtain ⟨A, c, hw⟩ := hs'
 refine SW_weak2 hw ?_
 clear hw
 refine SW_cut (fun s' => ∃ (A' : Option Addr) (c' : Nat), Weak2 s' ⟨[(6, .int .i64 E), (7, .slice A (ofN B64 lo2).length c), (8, .slice A' (ofN B64 hi2).length c'), (9, .slice A9 (ofN B64 w1).length k9), (10, .slice A10 (ofN B64 w2).length k10), (12, .slice A12 (ofN B64 y1).length k12), (13, .slice A13 (ofN B64 n).length k13), (14, .slice A14 (ofN B64 F1).length k14)], [],
  [Row .u64 A c (ofN B64 lo2), Row .u64 A' c' (ofN B64 hi2), Row .u64 A9 k9 (ofN B64 w1), Row .u64 A10 k10 (ofN B64 w2), Row .u64 A12 k12 (ofN B64 y1), Row .u64 A13 k13 (ofN B64 n), Row .u64 A14 k14 (ofN B64 F1)]⟩) ?_ (fun s' hs' => ?_)
 ·by_cases hl : 10 ^ kk - 1 < h3
  ·have z1 : decide (cmpN h3 (10 ^ kk - 1) > 0) = true := by rw [cq2]; exact decide_eq_true hl
   have e : hi2 = 10 ^ kk - 1 := by omega
   rw [e]
   refine xg ?_
   refine xn 1 [] [(92, .int .i64 (kk : Int))] ?_
   refine xcr 93 (ct_impl_ten ((kk : Int)) (kk) kn (by omega)) zs0 (fun A17 k17 => ?_)
   refine xcr 94 (ct_impl_word (1) (1) ⟨rfl⟩ (by omega)) zs0 (fun A18 k18 => ?_)
   refine xcr 95 (ct_impl_nat_sub (10 ^ kk) (1) (A17) (A18) (k17) (k18) sT2 h1T) (zsS (ziS zi0) (zsS zi0 zs0)) (fun A19 k19 => ?_)
   refine xz [] [(17, .slice A19 (List.length (ofN B64 (10 ^ kk - 1))) k19)] ?_
   refine xg ?_
   refine xn 2 [] [(97, .slice A19 (List.length (ofN B64 (10 ^ kk - 1))) k19), (96, .slice A16 (List.length (ofN B64 h3)) k16)] ?_
   refine xcv 98 (ct_impl_nat_cmp (h3) (10 ^ kk - 1) (A16) (A19) (k16) (k19) sC4 sT3) (zsS (ziS (ziS (ziS (ziS zi0)))) (zsS zi0 zs0)) ?_
   refine xz [] [(99, .bool (decide (cmpN h3 (10 ^ kk - 1) > 0)))] ?_
   refine xst z1 ?_
   refine xrl [] [(8, .slice A19 (List.length (ofN B64 (10 ^ kk - 1))) k19)] ?_
   refine ⟨(A19), (k19), xw2 [] (zsS (ziS (ziS (ziS zi0))) (zsS zi0 (zsS (ziS (ziS (ziS (ziS (ziS zi0))))) (zsS (ziS (ziS (ziS (ziS (ziS (ziS zi0)))))) (zsS (ziS (ziS (ziS (ziS (ziS (ziS (ziS zi0))))))) (zsS (ziS (ziS (ziS (ziS (ziS (ziS (ziS (ziS zi0)))))))) (zsS (ziS (ziS (ziS (ziS (ziS (ziS (ziS (ziS (ziS zi0))))))))) zs0)))))))⟩
  ·have z1 : decide (cmpN h3 (10 ^ kk - 1) > 0) = false := by rw [cq2]; exact decide_eq_false hl
   have e : hi2 = h3 := by omega
   rw [e]
   refine xg ?_
   refine xn 1 [] [(92, .int .i64 (kk : Int))] ?_
   refine xcr 93 (ct_impl_ten ((kk : Int)) (kk) kn (by omega)) zs0 (fun A17 k17 => ?_)
   refine xcr 94 (ct_impl_word (1) (1) ⟨rfl⟩ (by omega)) zs0 (fun A18 k18 => ?_)
   refine xcr 95 (ct_impl_nat_sub (10 ^ kk) (1) (A17) (A18) (k17) (k18) sT2 h1T) (zsS (ziS zi0) (zsS zi0 zs0)) (fun A19 k19 => ?_)
   refine xz [] [(17, .slice A19 (List.length (ofN B64 (10 ^ kk - 1))) k19)] ?_
   refine xg ?_
   refine xn 2 [] [(97, .slice A19 (List.length (ofN B64 (10 ^ kk - 1))) k19), (96, .slice A16 (List.length (ofN B64 h3)) k16)] ?_
   refine xcv 98 (ct_impl_nat_cmp (h3) (10 ^ kk - 1) (A16) (A19) (k16) (k19) sC4 sT3) (zsS (ziS (ziS (ziS (ziS zi0)))) (zsS zi0 zs0)) ?_
   refine xz [] [(99, .bool (decide (cmpN h3 (10 ^ kk - 1) > 0)))] ?_
   refine xsf z1 ?_
   refine SW_skip ?_
   refine ⟨(A16), (k16), xw2 [] (zsS (ziS (ziS (ziS zi0))) (zsS (ziS (ziS (ziS (ziS zi0)))) (zsS (ziS (ziS (ziS (ziS (ziS zi0))))) (zsS (ziS (ziS (ziS (ziS (ziS (ziS zi0)))))) (zsS (ziS (ziS (ziS (ziS (ziS (ziS (ziS zi0))))))) (zsS (ziS (ziS (ziS (ziS (ziS (ziS (ziS (ziS zi0)))))))) (zsS (ziS (ziS (ziS (ziS (ziS (ziS (ziS (ziS (ziS zi0))))))))) zs0)))))))⟩
 obtain ⟨A', c', hw⟩ := hs'
 refine SW_weak2 hw ?_
 clear hw
 have hlo1 : 1 ≤ lo2 := by omega
 have hhi135 : hi2 < 2 ^ 135 := by omega
 clear hlo2 hhi2 cq1 cq2 sC3 sC4 candE sE2
 have cq := cmp_pos' lo2 hi2
 by_cases hle : lo2 ≤ hi2
 ·have z1 : decide (cmpN lo2 hi2 ≤ 0) = true := decide_eq_true (by
   have z : ¬ cmpN lo2 hi2 > 0 := fun z => by
    rw [decide_eq_true z] at cq
    have := of_decide_eq_true cq.symm
    omega
   omega)
  have hn2b : n2 ≠ 0 ∧ n2 ≤ hi2 := by rw [← hn2]; exact nrN_rng hlo1 hle
  have cn2 := fun A A' A2 A3 c c' c2 c3 => ct_impl_near x2 y2 lo2 hi2 N9 A A' A2 A3 c c' c2 c3 l2.1 l2.2 pd2 (lt135 (Nat.lt_of_le_of_lt hle hhi135) hN9b) (lt135 hhi135 hN9b) (by omega)
  have en2 : nrN x2 y2 lo2 hi2 = n2 := by rw [← hn2]; exact hen2 lo2 hi2
  rw [en2, hF2] at cn2
  have n2135 : n2 < 2 ^ 135 := by omega
  have sF1 : Sm F1 := by rw [← hF1]; exact Sm.of (farN_lt l1.1 (lt135 n135 hN9b) l1.2) (by omega)
  have sF2 : Sm F2 := by rw [← hF2]; exact Sm.of (farN_lt l2.1 (lt135 n2135 hN9b) l2.2) (by omega)
  have bF1 : F1 < 2 ^ (2 * N9 + 1) := by rw [← hF1]; exact farN_lt l1.1 (lt135 n135 hN9b) l1.2
  have bF2 : F2 < 2 ^ (2 * N9 + 1) := by rw [← hF2]; exact farN_lt l2.1 (lt135 n2135 hN9b) l2.2
  have sP1 : Sm (F1 * y2) := Sm.of (mul_lt2 bF1 l2.2) (by omega)
  have sP2 : Sm (F1 * y2 * 10) := Sm.of (mul_lt2 (b := 4) (mul_lt2 bF1 l2.2) (by decide)) (by omega)
  have sP3 : Sm (F2 * y1) := Sm.of (mul_lt2 bF2 l1.2) (by omega)
  have cd2 := fun A c => ct_digits n2 hn2b.1 135 n2135 (by decide) A c
  have cmn := cmp_neg' (F2 * y1) (F1 * y2 * 10)
  have hlen1 : 0 < (ofN B64 n).length := by
   rcases Nat.eq_zero_or_pos (ofN B64 n).length with h9 | h9
   ·exact absurd ((ofN_zero B64_2 n).1 h9) hn1.1
   ·exact h9
  have hlen2 : 0 < (ofN B64 n2).length := by
   rcases Nat.eq_zero_or_pos (ofN B64 n2).length with h9 | h9
   ·exact absurd ((ofN_zero B64_2 n2).1 h9) hn2b.1
   ·exact h9
  have o5 : ∀ n : Nat, Ve (rd (ofN B64 n) ((0 : Nat) : Int)) ((n % B64 : Nat) : Int) := fun n => ⟨by rw [rd_limb, Nat.pow_zero, Nat.div_one]⟩
  have o6 : ∀ n : Nat, Ve (bits .and .u64 ((n % B64 : Nat) : Int) 1) ((n % B64 % 2 : Nat) : Int) := fun n => ⟨and1 _ (Nat.mod_lt _ (by decide))⟩
  have o7 : ∀ n : Nat, n % B64 % 2 = n % 2 := fun n => Nat.mod_mod_of_dvd _ (by decide)
  have o51 := o5 n
  have o52 := o5 n2
  have o61 := o6 n
  have o62 := o6 n2
  obtain ⟨G1, hG1⟩ : ∃ G1, farN (s6 (midN S q)) (tU den E) n = G1 := ⟨_, rfl⟩
  obtain ⟨G2, hG2⟩ : ∃ G2, farN (s6 (midN S q)) (tU den (E - 1)) n2 = G2 := ⟨_, rfl⟩
  rw [hG1, hG2] at fcmp hmain
  have ez := cmp_zero' G2 G1
  have en' := cmp_neg' G2 G1
  rw [← fcmp] at ez en'
  clear cmn hG1 hG2 fcmp
  rcases Nat.lt_trichotomy G2 G1 with hg | hg | hg
  ·have z2 : decide (cmpN (F2 * y1) (F1 * y2 * 10) < 0) = true := by rw [en']; exact decide_eq_true hg
   rw [if_pos ⟨hle, .inl hg⟩] at hmain
   refine SW_seq ?_
   refine xg ?_
   refine xn 2 [] [(102, .slice A' (List.length (ofN B64 hi2)) c'), (101, .slice A (List.length (ofN B64 lo2)) c)] ?_
   refine xcv 103 (ct_impl_nat_cmp (lo2) (hi2) (A) (A') (c) (c') slo2 shi2) (zsS zi0 (zsS (ziS zi0) zs0)) ?_
   refine xz [] [(104, .bool (decide (cmpN lo2 hi2 ≤ 0)))] ?_
   refine xst z1 ?_
   refine xg ?_
   refine xn 3 [] [(108, .int .i64 E), (107, .slice A10 (List.length (ofN B64 w2)) k10), (106, .slice A9 (List.length (ofN B64 w1)) k9)] ?_
   refine xve 109 IntKind.i64 (IntKind.wrap IntKind.i64 (E - 1)) (E - 1) v1 ?_
   refine xcw 110 (ca2 _ _ _ _) (zsS (ziS (ziS zi0)) (zsS (ziS (ziS (ziS zi0))) zs0)) (fun A17 k17 A18 k18 => ?_)
   refine xz [] [(19, .slice A18 (List.length (ofN B64 y2)) k18), (18, .slice A17 (List.length (ofN B64 x2)) k17)] ?_
   refine xg ?_
   refine xn 4 [] [(117, .slice A' (List.length (ofN B64 hi2)) c'), (116, .slice A (List.length (ofN B64 lo2)) c), (115, .slice A18 (List.length (ofN B64 y2)) k18), (114, .slice A17 (List.length (ofN B64 x2)) k17)] ?_
   refine xcw 118 (cn2 _ _ _ _ _ _ _ _) (zsS zi0 (zsS (ziS zi0) (zsS (ziS (ziS zi0)) (zsS (ziS (ziS (ziS zi0))) zs0)))) (fun A19 k19 A20 k20 => ?_)
   refine xz [] [(21, .slice A20 (List.length (ofN B64 F2)) k20), (20, .slice A19 (List.length (ofN B64 n2)) k19)] ?_
   refine xg ?_
   refine xn 2 [] [(122, .slice A18 (List.length (ofN B64 y2)) k18), (121, .slice A14 (List.length (ofN B64 F1)) k14)] ?_
   refine xcr 123 (ct_impl_nat_mul (F1) (y2) (A14) (A18) (k14) (k18) sF1 sy2) (zsS (ziS (ziS (ziS (ziS (ziS (ziS (ziS (ziS (ziS (ziS zi0)))))))))) (zsS (ziS (ziS (ziS zi0))) zs0)) (fun A21 k21 => ?_)
   refine xcr 124 (ct_impl_word (10) (10) ⟨rfl⟩ (by omega)) zs0 (fun A22 k22 => ?_)
   refine xcr 125 (ct_impl_nat_mul (F1 * y2) (10) (A21) (A22) (k21) (k22) sP1 s10) (zsS (ziS zi0) (zsS zi0 zs0)) (fun A23 k23 => ?_)
   refine xn 7 [] [(127, .slice A12 (List.length (ofN B64 y1)) k12), (126, .slice A20 (List.length (ofN B64 F2)) k20)] ?_
   refine xcr 128 (ct_impl_nat_mul (F2) (y1) (A20) (A12) (k20) (k12) sF2 sy1) (zsS (ziS (ziS (ziS (ziS zi0)))) (zsS (ziS (ziS (ziS (ziS (ziS (ziS (ziS (ziS (ziS (ziS (ziS zi0))))))))))) zs0)) (fun A24 k24 => ?_)
   refine xz [] [(23, .slice A24 (List.length (ofN B64 (F2 * y1))) k24), (22, .slice A23 (List.length (ofN B64 (F1 * y2 * 10))) k23)] ?_
   refine xg ?_
   refine xn 2 [] [(130, .slice A23 (List.length (ofN B64 (F1 * y2 * 10))) k23), (129, .slice A24 (List.length (ofN B64 (F2 * y1))) k24)] ?_
   refine xcv 131 (ct_impl_nat_cmp (F2 * y1) (F1 * y2 * 10) (A24) (A23) (k24) (k23) sP3 sP2) (zsS zi0 (zsS (ziS zi0) zs0)) ?_
   refine xz [] [(24, .int .i64 (cmpN (F2 * y1) (F1 * y2 * 10)))] ?_
   refine xg ?_
   refine xn 3 [] [(134, .bool (decide (cmpN (F2 * y1) (F1 * y2 * 10) < 0)))] ?_
   refine xkt 134 z2 ?_
   refine xz [] [(151, .bool true)] ?_
   refine xs1 ?_
   refine xg ?_
   refine xn 1 [] [(152, .slice A19 (List.length (ofN B64 n2)) k19)] ?_
   (refine xcm 153 [false] (cd2 (A19) (k19)) (zsS (ziS (ziS (ziS (ziS zi0)))) zs0) (fun zz => ?_); obtain ⟨⟨z8, ⟨z9, z10⟩⟩, p11⟩ := zz)
   refine xn 3 [] [(154, .int .i64 E)] ?_
   refine xve 155 IntKind.i64 (IntKind.wrap IntKind.i64 (E - 1)) (E - 1) v1 ?_
   refine xz [] [(5, .int .i64 (E - 1)), (4, .slice (some ⟨z8, 0, none⟩) (List.length (digT0 n2)) z10)] ?_
   refine SW_ret ?_
   refine xmeg (.tuple #[.slice (some ⟨z8, 0, none⟩) (List.length (digT0 n2)) z10, .int .i64 (E - 1)]) [] ?_
   exact ⟨⟨((z8, z9, z10), (n2, E - 1)), p11, hn2b.1, n2135, hmain⟩, [true], rfl, rfl, zs0⟩
  ·have z2 : decide (cmpN (F2 * y1) (F1 * y2 * 10) < 0) = false := by rw [en']; exact decide_eq_false (by omega)
   have z3 : (cmpN (F2 * y1) (F1 * y2 * 10) == 0) = true := by rw [ez]; exact decide_eq_true hg
   refine SW_seq ?_
   refine xg ?_
   refine xn 2 [] [(102, .slice A' (List.length (ofN B64 hi2)) c'), (101, .slice A (List.length (ofN B64 lo2)) c)] ?_
   refine xcv 103 (ct_impl_nat_cmp (lo2) (hi2) (A) (A') (c) (c') slo2 shi2) (zsS zi0 (zsS (ziS zi0) zs0)) ?_
   refine xz [] [(104, .bool (decide (cmpN lo2 hi2 ≤ 0)))] ?_
   refine xst z1 ?_
   refine xg ?_
   refine xn 3 [] [(108, .int .i64 E), (107, .slice A10 (List.length (ofN B64 w2)) k10), (106, .slice A9 (List.length (ofN B64 w1)) k9)] ?_
   refine xve 109 IntKind.i64 (IntKind.wrap IntKind.i64 (E - 1)) (E - 1) v1 ?_
   refine xcw 110 (ca2 _ _ _ _) (zsS (ziS (ziS zi0)) (zsS (ziS (ziS (ziS zi0))) zs0)) (fun A17 k17 A18 k18 => ?_)
   refine xz [] [(19, .slice A18 (List.length (ofN B64 y2)) k18), (18, .slice A17 (List.length (ofN B64 x2)) k17)] ?_
   refine xg ?_
   refine xn 4 [] [(117, .slice A' (List.length (ofN B64 hi2)) c'), (116, .slice A (List.length (ofN B64 lo2)) c), (115, .slice A18 (List.length (ofN B64 y2)) k18), (114, .slice A17 (List.length (ofN B64 x2)) k17)] ?_
   refine xcw 118 (cn2 _ _ _ _ _ _ _ _) (zsS zi0 (zsS (ziS zi0) (zsS (ziS (ziS zi0)) (zsS (ziS (ziS (ziS zi0))) zs0)))) (fun A19 k19 A20 k20 => ?_)
   refine xz [] [(21, .slice A20 (List.length (ofN B64 F2)) k20), (20, .slice A19 (List.length (ofN B64 n2)) k19)] ?_
   refine xg ?_
   refine xn 2 [] [(122, .slice A18 (List.length (ofN B64 y2)) k18), (121, .slice A14 (List.length (ofN B64 F1)) k14)] ?_
   refine xcr 123 (ct_impl_nat_mul (F1) (y2) (A14) (A18) (k14) (k18) sF1 sy2) (zsS (ziS (ziS (ziS (ziS (ziS (ziS (ziS (ziS (ziS (ziS zi0)))))))))) (zsS (ziS (ziS (ziS zi0))) zs0)) (fun A21 k21 => ?_)
   refine xcr 124 (ct_impl_word (10) (10) ⟨rfl⟩ (by omega)) zs0 (fun A22 k22 => ?_)
   refine xcr 125 (ct_impl_nat_mul (F1 * y2) (10) (A21) (A22) (k21) (k22) sP1 s10) (zsS (ziS zi0) (zsS zi0 zs0)) (fun A23 k23 => ?_)
   refine xn 7 [] [(127, .slice A12 (List.length (ofN B64 y1)) k12), (126, .slice A20 (List.length (ofN B64 F2)) k20)] ?_
   refine xcr 128 (ct_impl_nat_mul (F2) (y1) (A20) (A12) (k20) (k12) sF2 sy1) (zsS (ziS (ziS (ziS (ziS zi0)))) (zsS (ziS (ziS (ziS (ziS (ziS (ziS (ziS (ziS (ziS (ziS (ziS zi0))))))))))) zs0)) (fun A24 k24 => ?_)
   refine xz [] [(23, .slice A24 (List.length (ofN B64 (F2 * y1))) k24), (22, .slice A23 (List.length (ofN B64 (F1 * y2 * 10))) k23)] ?_
   refine xg ?_
   refine xn 2 [] [(130, .slice A23 (List.length (ofN B64 (F1 * y2 * 10))) k23), (129, .slice A24 (List.length (ofN B64 (F2 * y1))) k24)] ?_
   refine xcv 131 (ct_impl_nat_cmp (F2 * y1) (F1 * y2 * 10) (A24) (A23) (k24) (k23) sP3 sP2) (zsS zi0 (zsS (ziS zi0) zs0)) ?_
   refine xz [] [(24, .int .i64 (cmpN (F2 * y1) (F1 * y2 * 10)))] ?_
   refine xg ?_
   refine xn 3 [] [(134, .bool (decide (cmpN (F2 * y1) (F1 * y2 * 10) < 0)))] ?_
   refine xkf 134 z2 ?_
   refine xn 6 [] [(137, .bool (cmpN (F2 * y1) (F1 * y2 * 10) == 0))] ?_
   refine xkt 137 z3 ?_
   refine xn 7 [] [(138, .slice A19 (List.length (ofN B64 n2)) k19)] ?_
   refine NW_know (ziS (ziS (ziS (ziS zi0)))) (fun w h => row_at h hlen2) (fun ⟨a2, e2⟩ => ?_)
   subst e2
   refine NW_know (ziS (ziS (ziS (ziS (ziS (ziS (ziS (ziS (ziS (ziS (ziS (ziS (ziS zi0))))))))))))) (fun w h => row_at h hlen1) (fun ⟨a1, e1⟩ => ?_)
   subst e1
   by_cases h2 : n2 % 2 = 0
   ·have z5 : (((n2 % B64 % 2 : Nat) : Int) == 0) = true := by rw [o7, h2]; rfl
    by_cases h1 : n % 2 = 1
    ·have z6 : (((n % B64 % 2 : Nat) : Int) == 1) = true := by rw [o7, h1]; rfl
     rw [if_pos ⟨hle, .inr ⟨hg, h2, h1⟩⟩] at hmain
     refine xfi 139 26 (a2) (List.length (ofN B64 n2)) (k19) 0 IntKind.i64 (0) ⟨rfl⟩ (by omega) ?_
     refine xfle 140 (ziS (ziS (ziS (ziS zi0)))) (0) ((((n2 % B64) : Nat) : Int)) o52 (by omega) ?_
     refine xve 141 IntKind.u64 (bits BinOp.and IntKind.u64 (((n2 % B64) : Nat) : Int) 1) ((((n2 % B64 % 2) : Nat) : Int)) o62 ?_
     refine xn 13 [] [(144, .bool ((((n2 % B64 % 2) : Nat) : Int) == 0))] ?_
     refine xkt 144 z5 ?_
     refine xn 14 [] [(145, .slice (some a1) (List.length (ofN B64 n)) k13)] ?_
     refine xfi 146 26 (a1) (List.length (ofN B64 n)) (k13) 0 IntKind.i64 (0) ⟨rfl⟩ (by omega) ?_
     refine xfle 147 (ziS (ziS (ziS (ziS (ziS (ziS (ziS (ziS (ziS (ziS (ziS (ziS (ziS zi0))))))))))))) (0) ((((n % B64) : Nat) : Int)) o51 (by omega) ?_
     refine xve 148 IntKind.u64 (bits BinOp.and IntKind.u64 (((n % B64) : Nat) : Int) 1) ((((n % B64 % 2) : Nat) : Int)) o61 ?_
     refine xz [] [(151, .bool ((((n % B64 % 2) : Nat) : Int) == 1))] ?_
     refine xst z6 ?_
     refine xg ?_
     refine xn 1 [] [(152, .slice (some a2) (List.length (ofN B64 n2)) k19)] ?_
     (refine xcm 153 [false] (cd2 (some a2) (k19)) (zsS (ziS (ziS (ziS (ziS zi0)))) zs0) (fun zz => ?_); obtain ⟨⟨z8, ⟨z9, z10⟩⟩, p11⟩ := zz)
     refine xn 3 [] [(154, .int .i64 E)] ?_
     refine xve 155 IntKind.i64 (IntKind.wrap IntKind.i64 (E - 1)) (E - 1) v1 ?_
     refine xz [] [(5, .int .i64 (E - 1)), (4, .slice (some ⟨z8, 0, none⟩) (List.length (digT0 n2)) z10)] ?_
     refine SW_ret ?_
     refine xmeg (.tuple #[.slice (some ⟨z8, 0, none⟩) (List.length (digT0 n2)) z10, .int .i64 (E - 1)]) [] ?_
     exact ⟨⟨((z8, z9, z10), (n2, E - 1)), p11, hn2b.1, n2135, hmain⟩, [true], rfl, rfl, zs0⟩
    ·have z6 : (((n % B64 % 2 : Nat) : Int) == 1) = false := by rw [o7, show n % 2 = 0 by omega]; rfl
     rw [if_neg (fun z => by omega)] at hmain
     refine xfi 139 26 (a2) (List.length (ofN B64 n2)) (k19) 0 IntKind.i64 (0) ⟨rfl⟩ (by omega) ?_
     refine xfle 140 (ziS (ziS (ziS (ziS zi0)))) (0) ((((n2 % B64) : Nat) : Int)) o52 (by omega) ?_
     refine xve 141 IntKind.u64 (bits BinOp.and IntKind.u64 (((n2 % B64) : Nat) : Int) 1) ((((n2 % B64 % 2) : Nat) : Int)) o62 ?_
     refine xn 13 [] [(144, .bool ((((n2 % B64 % 2) : Nat) : Int) == 0))] ?_
     refine xkt 144 z5 ?_
     refine xn 14 [] [(145, .slice (some a1) (List.length (ofN B64 n)) k13)] ?_
     refine xfi 146 26 (a1) (List.length (ofN B64 n)) (k13) 0 IntKind.i64 (0) ⟨rfl⟩ (by omega) ?_
     refine xfle 147 (ziS (ziS (ziS (ziS (ziS (ziS (ziS (ziS (ziS (ziS (ziS (ziS (ziS zi0))))))))))))) (0) ((((n % B64) : Nat) : Int)) o51 (by omega) ?_
     refine xve 148 IntKind.u64 (bits BinOp.and IntKind.u64 (((n % B64) : Nat) : Int) 1) ((((n % B64 % 2) : Nat) : Int)) o61 ?_
     refine xz [] [(151, .bool ((((n % B64 % 2) : Nat) : Int) == 1))] ?_
     refine xsf z6 ?_
     refine SW_skip ?_
     refine xg ?_
     refine xn 1 [] [(156, .slice (some a1) (List.length (ofN B64 n)) k13)] ?_
     (refine xcm 157 [false] (cd (some a1) (k13)) (zsS (ziS (ziS (ziS (ziS (ziS (ziS (ziS (ziS (ziS (ziS (ziS (ziS (ziS zi0))))))))))))) zs0) (fun zz => ?_); obtain ⟨⟨z8, ⟨z9, z10⟩⟩, p11⟩ := zz)
     refine xz [] [(5, .int .i64 E), (4, .slice (some ⟨z8, 0, none⟩) kk z10)] ?_
     refine SW_ret ?_
     refine xmeg (.tuple #[.slice (some ⟨z8, 0, none⟩) kk z10, .int .i64 E]) [] ?_
     exact ⟨⟨((z8, z9, z10), (n, E)), by dsimp only; rw [hkk]; exact p11, hn1.1, n135, hmain⟩, [true], by dsimp only; rw [hkk], rfl, zs0⟩
   ·have z5 : (((n2 % B64 % 2 : Nat) : Int) == 0) = false := by rw [o7, show n2 % 2 = 1 by omega]; rfl
    rw [if_neg (fun z => by omega)] at hmain
    refine xfi 139 26 (a2) (List.length (ofN B64 n2)) (k19) 0 IntKind.i64 (0) ⟨rfl⟩ (by omega) ?_
    refine xfle 140 (ziS (ziS (ziS (ziS zi0)))) (0) ((((n2 % B64) : Nat) : Int)) o52 (by omega) ?_
    refine xve 141 IntKind.u64 (bits BinOp.and IntKind.u64 (((n2 % B64) : Nat) : Int) 1) ((((n2 % B64 % 2) : Nat) : Int)) o62 ?_
    refine xn 13 [] [(144, .bool ((((n2 % B64 % 2) : Nat) : Int) == 0))] ?_
    refine xkf 144 z5 ?_
    refine xz [] [(151, .bool false)] ?_
    refine xs0 ?_
    refine SW_skip ?_
    refine xg ?_
    refine xn 1 [] [(156, .slice (some a1) (List.length (ofN B64 n)) k13)] ?_
    (refine xcm 157 [false] (cd (some a1) (k13)) (zsS (ziS (ziS (ziS (ziS (ziS (ziS (ziS (ziS (ziS (ziS (ziS (ziS (ziS zi0))))))))))))) zs0) (fun zz => ?_); obtain ⟨⟨z8, ⟨z9, z10⟩⟩, p11⟩ := zz)
    refine xz [] [(5, .int .i64 E), (4, .slice (some ⟨z8, 0, none⟩) kk z10)] ?_
    refine SW_ret ?_
    refine xmeg (.tuple #[.slice (some ⟨z8, 0, none⟩) kk z10, .int .i64 E]) [] ?_
    exact ⟨⟨((z8, z9, z10), (n, E)), by dsimp only; rw [hkk]; exact p11, hn1.1, n135, hmain⟩, [true], by dsimp only; rw [hkk], rfl, zs0⟩
  ·have z2 : decide (cmpN (F2 * y1) (F1 * y2 * 10) < 0) = false := by rw [en']; exact decide_eq_false (by omega)
   have z3 : (cmpN (F2 * y1) (F1 * y2 * 10) == 0) = false := by rw [ez]; exact decide_eq_false (by omega)
   rw [if_neg (fun z => by omega)] at hmain
   refine SW_seq ?_
   refine xg ?_
   refine xn 2 [] [(102, .slice A' (List.length (ofN B64 hi2)) c'), (101, .slice A (List.length (ofN B64 lo2)) c)] ?_
   refine xcv 103 (ct_impl_nat_cmp (lo2) (hi2) (A) (A') (c) (c') slo2 shi2) (zsS zi0 (zsS (ziS zi0) zs0)) ?_
   refine xz [] [(104, .bool (decide (cmpN lo2 hi2 ≤ 0)))] ?_
   refine xst z1 ?_
   refine xg ?_
   refine xn 3 [] [(108, .int .i64 E), (107, .slice A10 (List.length (ofN B64 w2)) k10), (106, .slice A9 (List.length (ofN B64 w1)) k9)] ?_
   refine xve 109 IntKind.i64 (IntKind.wrap IntKind.i64 (E - 1)) (E - 1) v1 ?_
   refine xcw 110 (ca2 _ _ _ _) (zsS (ziS (ziS zi0)) (zsS (ziS (ziS (ziS zi0))) zs0)) (fun A17 k17 A18 k18 => ?_)
   refine xz [] [(19, .slice A18 (List.length (ofN B64 y2)) k18), (18, .slice A17 (List.length (ofN B64 x2)) k17)] ?_
   refine xg ?_
   refine xn 4 [] [(117, .slice A' (List.length (ofN B64 hi2)) c'), (116, .slice A (List.length (ofN B64 lo2)) c), (115, .slice A18 (List.length (ofN B64 y2)) k18), (114, .slice A17 (List.length (ofN B64 x2)) k17)] ?_
   refine xcw 118 (cn2 _ _ _ _ _ _ _ _) (zsS zi0 (zsS (ziS zi0) (zsS (ziS (ziS zi0)) (zsS (ziS (ziS (ziS zi0))) zs0)))) (fun A19 k19 A20 k20 => ?_)
   refine xz [] [(21, .slice A20 (List.length (ofN B64 F2)) k20), (20, .slice A19 (List.length (ofN B64 n2)) k19)] ?_
   refine xg ?_
   refine xn 2 [] [(122, .slice A18 (List.length (ofN B64 y2)) k18), (121, .slice A14 (List.length (ofN B64 F1)) k14)] ?_
   refine xcr 123 (ct_impl_nat_mul (F1) (y2) (A14) (A18) (k14) (k18) sF1 sy2) (zsS (ziS (ziS (ziS (ziS (ziS (ziS (ziS (ziS (ziS (ziS zi0)))))))))) (zsS (ziS (ziS (ziS zi0))) zs0)) (fun A21 k21 => ?_)
   refine xcr 124 (ct_impl_word (10) (10) ⟨rfl⟩ (by omega)) zs0 (fun A22 k22 => ?_)
   refine xcr 125 (ct_impl_nat_mul (F1 * y2) (10) (A21) (A22) (k21) (k22) sP1 s10) (zsS (ziS zi0) (zsS zi0 zs0)) (fun A23 k23 => ?_)
   refine xn 7 [] [(127, .slice A12 (List.length (ofN B64 y1)) k12), (126, .slice A20 (List.length (ofN B64 F2)) k20)] ?_
   refine xcr 128 (ct_impl_nat_mul (F2) (y1) (A20) (A12) (k20) (k12) sF2 sy1) (zsS (ziS (ziS (ziS (ziS zi0)))) (zsS (ziS (ziS (ziS (ziS (ziS (ziS (ziS (ziS (ziS (ziS (ziS zi0))))))))))) zs0)) (fun A24 k24 => ?_)
   refine xz [] [(23, .slice A24 (List.length (ofN B64 (F2 * y1))) k24), (22, .slice A23 (List.length (ofN B64 (F1 * y2 * 10))) k23)] ?_
   refine xg ?_
   refine xn 2 [] [(130, .slice A23 (List.length (ofN B64 (F1 * y2 * 10))) k23), (129, .slice A24 (List.length (ofN B64 (F2 * y1))) k24)] ?_
   refine xcv 131 (ct_impl_nat_cmp (F2 * y1) (F1 * y2 * 10) (A24) (A23) (k24) (k23) sP3 sP2) (zsS zi0 (zsS (ziS zi0) zs0)) ?_
   refine xz [] [(24, .int .i64 (cmpN (F2 * y1) (F1 * y2 * 10)))] ?_
   refine xg ?_
   refine xn 3 [] [(134, .bool (decide (cmpN (F2 * y1) (F1 * y2 * 10) < 0)))] ?_
   refine xkf 134 z2 ?_
   refine xn 6 [] [(137, .bool (cmpN (F2 * y1) (F1 * y2 * 10) == 0))] ?_
   refine xkf 137 z3 ?_
   refine xz [] [(151, .bool false)] ?_
   refine xs0 ?_
   refine SW_skip ?_
   refine xg ?_
   refine xn 1 [] [(156, .slice A13 (List.length (ofN B64 n)) k13)] ?_
   (refine xcm 157 [false] (cd (A13) (k13)) (zsS (ziS (ziS (ziS (ziS (ziS (ziS (ziS (ziS (ziS (ziS (ziS (ziS (ziS zi0))))))))))))) zs0) (fun zz => ?_); obtain ⟨⟨z8, ⟨z9, z10⟩⟩, p11⟩ := zz)
   refine xz [] [(5, .int .i64 E), (4, .slice (some ⟨z8, 0, none⟩) kk z10)] ?_
   refine SW_ret ?_
   refine xmeg (.tuple #[.slice (some ⟨z8, 0, none⟩) kk z10, .int .i64 E]) [] ?_
   exact ⟨⟨((z8, z9, z10), (n, E)), by dsimp only; rw [hkk]; exact p11, hn1.1, n135, hmain⟩, [true], by dsimp only; rw [hkk], rfl, zs0⟩
 ·have z1 : decide (cmpN lo2 hi2 ≤ 0) = false := decide_eq_false (by rw [cmpN_gt' (by omega)]; decide)
  rw [if_neg (fun z => hle z.1)] at hmain
  refine SW_seq ?_
  refine xg ?_
  refine xn 2 [] [(102, .slice A' (List.length (ofN B64 hi2)) c'), (101, .slice A (List.length (ofN B64 lo2)) c)] ?_
  refine xcv 103 (ct_impl_nat_cmp (lo2) (hi2) (A) (A') (c) (c') slo2 shi2) (zsS zi0 (zsS (ziS zi0) zs0)) ?_
  refine xz [] [(104, .bool (decide (cmpN lo2 hi2 ≤ 0)))] ?_
  refine xsf z1 ?_
  refine SW_skip ?_
  refine xg ?_
  refine xn 1 [] [(156, .slice A13 (List.length (ofN B64 n)) k13)] ?_
  (refine xcm 157 [false] (cd (A13) (k13)) (zsS (ziS (ziS (ziS (ziS (ziS zi0))))) zs0) (fun zz => ?_); obtain ⟨⟨z8, ⟨z9, z10⟩⟩, p11⟩ := zz)
  refine xz [] [(5, .int .i64 E), (4, .slice (some ⟨z8, 0, none⟩) kk z10)] ?_
  refine SW_ret ?_
  refine xmeg (.tuple #[.slice (some ⟨z8, 0, none⟩) kk z10, .int .i64 E]) [] ?_
  exact ⟨⟨((z8, z9, z10), (n, E)), by dsimp only; rw [hkk]; exact p11, hn1.1, n135, hmain⟩, [true], by dsimp only; rw [hkk], rfl, zs0⟩
end Go.Proofs.YtgknelgplmohoaaDoor.M
end
section
namespace Go.Proofs.YtgknelgplmohoaaDoor.M
open Go.RowKit Go.Proofs.YtgknelgplmohoaaDoor.G Go.Proofs.YtgknelgplmohoaaDoorV.PrintWords Go.Proofs.YtgknelgplmohoaaDoorV.PrintLast Go.Proofs.YtgknelgplmohoaaDoor.X
set_option linter.unusedVariables false
set_option linter.unusedSimpArgs false
def isD (c : Int) : Bool := decide (48 ≤ c) && decide (c ≤ 57)
def dropZ : List Int → List Int
  | [] => []
  | a :: l => if a = 48 then dropZ l else a :: l
def dropE (l : List Int) : List Int × Nat := ((dropZ l.reverse).reverse, l.length - (dropZ l.reverse).length)
def stepV (c : Int) : Option Nat := if isD c = true then some 2 else if c = 46 then some 3 else if c = 105 then some 9 else if c = 110 then some 17 else none
def one (c a : Int) (n : Nat) : Option Nat := if c = a then some n else none
def stp (σ : Nat) (c : Int) : Option Nat := match σ with
  | 0 => if c = 43 ∨ c = 45 then some 1 else stepV c
  | 1 => stepV c
  | 2 => if isD c = true then some 2 else if c = 46 then some 4 else if c = 101 then some 6 else none
  | 3 => if isD c = true then some 5 else none
  | 4 => if isD c = true then some 5 else if c = 101 then some 6 else none
  | 5 => if isD c = true then some 5 else if c = 101 then some 6 else none
  | 6 => if isD c = true then some 8 else if c = 43 ∨ c = 45 then some 7 else none
  | 7 => if isD c = true then some 8 else none
  | 8 => if isD c = true then some 8 else none
  | 9 => one c 110 10
  | 10 => one c 102 11
  | 11 => one c 105 12
  | 12 => one c 110 13
  | 13 => one c 105 14
  | 14 => one c 116 15
  | 15 => one c 121 16
  | 17 => one c 97 18
  | 18 => one c 110 19
  | _ => none
def accS (σ : Nat) : Bool := [2, 4, 5, 8, 11, 16, 19].contains σ
def chain : Nat → List Int → Nat → Prop
  | σ, [], τ => σ = τ
  | σ, a :: w, τ => ∃ σ', (∀ c, stp σ c = one c a σ') ∧ accS σ = false ∧ chain σ' w τ
end Go.Proofs.YtgknelgplmohoaaDoor.M
end
section
namespace Go.Proofs.YtgknelgplmohoaaDoor.M
open Go.RowKit Go.Proofs.YtgknelgplmohoaaDoor.G Go.Proofs.YtgknelgplmohoaaDoorV.PrintWords Go.Proofs.YtgknelgplmohoaaDoorV.PrintLast Go.Proofs.YtgknelgplmohoaaDoor.X
set_option linter.unusedVariables false
set_option linter.unusedSimpArgs false
theorem dropZ_len : ∀ l : List Int, (dropZ l).length ≤ l.length
 | [] => Nat.le_refl _
 | a :: l => by
  rw [dropZ]
  split
  ·have := dropZ_len l; simp only [List.length_cons]; omega
  ·exact Nat.le_refl _
theorem dropE_zero (O : List Int) : dropE (O ++ [48]) = ((dropE O).1, (dropE O).2 + 1) := by
 have := dropZ_len O.reverse
 rw [List.length_reverse] at this
 unfold dropE
 rw [List.reverse_append, List.reverse_singleton, List.singleton_append, dropZ, if_pos rfl]
 congr 1
 rw [List.length_append, List.length_singleton]
 omega
theorem dropE_stop {O : List Int} {y : Int} (h : y ≠ 48) : dropE (O ++ [y]) = (O ++ [y], 0) := by
 unfold dropE
 rw [List.reverse_append, List.reverse_singleton, List.singleton_append, dropZ, if_neg h]
 congr 1
 ·rw [List.reverse_cons, List.reverse_reverse]
 ·simp
theorem dropE_nil : dropE [] = ([], 0) := rfl
theorem ct_impl_trimZeros (g c : Nat) (xs : List Int) (r : List Value) (x0 : Int) (tl : List Int) (hx : xs = x0 :: tl) (h0 : x0 ≠ 48) (hc : xs.length + r.length = c) (hl : xs.length ≤ 1000000) :
  CtM Tryd.prog 86 [.slice (some ⟨g, 0, none⟩) xs.length c] [⟨g, cl .u8 xs r, 5⟩] [] (γ := {r' : List Value // (dropE xs).1.length + r'.length = c}) (fun p => .tuple #[.slice (some ⟨g, 0, none⟩) (dropE xs).1.length c, .int .i64 ((dropE xs).2 : Int)]) (fun p => [⟨g, cl .u8 (dropE xs).1 p.1, 5⟩]) (fun _ => []) := by
 have z0 : decide ((xs.length : Int) > 0) = true := decide_eq_true (by rw [hx]; simp)
 have hp : 0 < xs.length := by rw [hx]; simp
 have v0 : Ve (rd xs ((0 : Nat) : Int)) x0 := ⟨by rw [hx]; rfl⟩
 have z1 : (x0 == 48) = false := by rw [beq_eq_false_iff_ne]; exact h0
 refine cm_of Tryd.func86 rfl (by kernel_rfl) (fun B w0 => ?_)
 refine xr [] [(3, .int .i64 0), (2, .slice none 0 0)] ?_
 refine SW_cut (fun s' => Weak s' ⟨[(0, .slice (some ⟨g, 0, none⟩) xs.length c)], [⟨g, cl .u8 xs r, 5⟩], []⟩) ?_ (fun s' hw => ?_)
 ·refine SW_block ?_
  refine SW_unroll ?_
  refine LW_step ?_
  refine SW_seq ?_
  refine xg ?_
  refine xn 4 [] [(8, .bool (decide ((((List.length xs) : Nat) : Int) > 0)))] ?_
  refine xkt 8 z0 ?_
  refine xn 5 [] [(9, .slice (some ⟨g, 0, none⟩) (List.length xs) c)] ?_
  refine xoi 10 5 (g) (List.length xs) (c) 0 IntKind.i64 (0) ⟨rfl⟩ (by omega) ?_
  refine xole 11 0 (g) (0) IntKind.u8 (xs) (r) 5 (x0) v0 (by first | omega | (simp <;> omega)) ?_
  refine xz [] [(13, .bool (x0 == 48))] ?_
  refine xsf z1 ?_
  refine SW_exit ?_
  exact xw zs0
 refine SW_weak hw ?_
 clear hw
 refine xr [] [(4, .int .i64 0)] ?_
 refine SW_cut (fun s' => ∃ r', (dropE xs).1.length + r'.length = c ∧ Weak s' ⟨[(0, .slice (some ⟨g, 0, none⟩) (dropE xs).1.length c), (4, .int .i64 ((dropE xs).2 : Int))], [⟨g, cl .u8 (dropE xs).1 r', 5⟩], []⟩) ?_ (fun s' hw => ?_)
 ·refine SW_block ?_
  refine SW_loopn (fun n s' => ∃ (O : List Int) (r' : List Value) (t : Nat), O.length = n ∧ (dropE xs).1 = (dropE O).1 ∧ (dropE xs).2 = t + (dropE O).2 ∧ n + r'.length = c ∧ n + t = xs.length ∧ Weak s' ⟨[(0, .slice (some ⟨g, 0, none⟩) n c), (4, .int .i64 (t : Int))], [⟨g, cl .u8 O r', 5⟩], []⟩) xs.length ⟨xs, r, 0, rfl, rfl, by omega, hc, by omega, ?_⟩ (fun n s' hI => ?_)
  ·exact xw zs0
  ·obtain ⟨O, r', t, h1, h2, h3, h4, h5, hw⟩ := hI
   refine SW_weak hw ?_
   clear hw z0 v0
   rcases List.eq_nil_or_concat O with h | ⟨O3, y, h⟩
   ·subst h
    obtain rfl : n = 0 := h1.symm
    rw [dropE_nil] at h2 h3
    dsimp only at h2 h3
    rw [h2, h3]
    refine SW_seq ?_
    refine xr [] [(27, .bool false)] ?_
    refine xs0 ?_
    refine SW_exit ?_
    refine ⟨r', h4, ?_⟩
    exact xw zs0
   ·obtain ⟨k, rfl⟩ : ∃ k, n = k + 1 := ⟨O3.length, by rw [← h1, h]; simp⟩
    have hk : O3.length = k := by
     rw [h] at h1
     simpa using h1
    have z : decide (((k + 1 : Nat) : Int) > 0) = true := decide_eq_true (by omega)
    have v1 : Ve (IntKind.i64.wrap (((k + 1 : Nat) : Int) - 1)) (k : Int) := ⟨by rw [wrap_i64 (by omega)]; omega⟩
    have v2 : Ve (rd O (k : Int)) y := ⟨by rw [h, List.concat_eq_append, rd_mid O3 [] y k hk.symm]⟩
    have v3 : Ve (IntKind.i64.wrap ((t : Int) + 1)) ((t + 1 : Nat) : Int) := ⟨by rw [wrap_i64 (by omega)]; omega⟩
    have hcl : cl .u8 O r' = cl .u8 O3 (.int .u8 y :: r') := by simp [cl, h]
    rw [List.concat_eq_append] at h
    by_cases hy : y = 48
    ·have z2 : (y == 48) = true := by simp [hy]
     rw [h, hy, dropE_zero] at h2 h3
     dsimp only at h2 h3
     clear h
     refine SW_seq ?_
     refine xg ?_
     refine xn 4 [] [(19, .bool (decide ((((k + 1) : Nat) : Int) > 0)))] ?_
     refine xkt 19 z ?_
     refine xn 7 [] [(22, .int .i64 (((k + 1) : Nat) : Int)), (20, .slice (some ⟨g, 0, none⟩) (k + 1) c)] ?_
     refine xve 23 IntKind.i64 (IntKind.wrap IntKind.i64 ((((k + 1) : Nat) : Int) - 1)) ((k : Int)) v1 ?_
     refine xoi 24 5 (g) (k + 1) (c) (k) IntKind.i64 ((k : Int)) ⟨rfl⟩ (by omega) ?_
     refine xole 25 0 (g) (k) IntKind.u8 (O) (r') 5 (y) v2 (by first | omega | (simp <;> omega)) ?_
     refine xz [] [(27, .bool (y == 48))] ?_
     refine xst z2 ?_
     refine SW_skip ?_
     refine SW_block ?_
     refine xg ?_
     refine xn 3 [] [(30, .int .i64 (((k + 1) : Nat) : Int)), (28, .slice (some ⟨g, 0, none⟩) (k + 1) c)] ?_
     refine xve 31 IntKind.i64 (IntKind.wrap IntKind.i64 ((((k + 1) : Nat) : Int) - 1)) ((k : Int)) v1 ?_
     refine xsh 32 5 (some ⟨g, 0, none⟩) (k + 1) (c) (k) IntKind.i64 ((k : Int)) ⟨rfl⟩ (by omega) ?_
     refine xz [] [(0, .slice (some ⟨g, 0, none⟩) k c)] ?_
     refine SW_region ?_
     refine xn 1 [] [(33, .int .i64 (t : Int))] ?_
     refine xve 34 IntKind.i64 (IntKind.wrap IntKind.i64 ((t : Int) + 1)) ((((t + 1) : Nat) : Int)) v3 ?_
     refine xz [] [(4, .int .i64 (((t + 1) : Nat) : Int))] ?_
     rw [hcl]
     refine ⟨k, by omega, O3, .int .u8 y :: r', t + 1, hk, h2, by omega, by simp only [List.length_cons]; omega, by omega, ?_⟩
     exact xw zs0
    ·have z2 : (y == 48) = false := by simp [hy]
     have e := dropE_stop (O := O3) hy
     rw [← h] at e
     rw [e] at h2 h3
     dsimp only at h2 h3
     have e2 : (dropE xs).1.length = k + 1 := by rw [h2, h1]
     rw [e2, h2, h3]
     clear h
     refine SW_seq ?_
     refine xg ?_
     refine xn 4 [] [(19, .bool (decide ((((k + 1) : Nat) : Int) > 0)))] ?_
     refine xkt 19 z ?_
     refine xn 7 [] [(22, .int .i64 (((k + 1) : Nat) : Int)), (20, .slice (some ⟨g, 0, none⟩) (k + 1) c)] ?_
     refine xve 23 IntKind.i64 (IntKind.wrap IntKind.i64 ((((k + 1) : Nat) : Int) - 1)) ((k : Int)) v1 ?_
     refine xoi 24 5 (g) (k + 1) (c) (k) IntKind.i64 ((k : Int)) ⟨rfl⟩ (by omega) ?_
     refine xole 25 0 (g) (k) IntKind.u8 (O) (r') 5 (y) v2 (by first | omega | (simp <;> omega)) ?_
     refine xz [] [(27, .bool (y == 48))] ?_
     refine xsf z2 ?_
     refine SW_exit ?_
     refine ⟨r', h4, ?_⟩
     exact xw zs0
 obtain ⟨r', h1, hw⟩ := hw
 refine SW_weak hw ?_
 clear hw
 refine xr [] [(3, .int .i64 (((Prod.snd (dropE xs)) : Nat) : Int)), (2, .slice (some ⟨g, 0, none⟩) (List.length (Prod.fst (dropE xs))) c)] ?_
 refine SW_ret ?_
 refine xmeg (.tuple #[.slice (some ⟨g, 0, none⟩) (List.length (Prod.fst (dropE xs))) c, .int .i64 (((Prod.snd (dropE xs)) : Nat) : Int)]) [] ?_
 exact ⟨⟨r', h1⟩, [true], rfl, rfl, zs0⟩
end Go.Proofs.YtgknelgplmohoaaDoor.M
end
section
namespace Go.Proofs.YtgknelgplmohoaaDoor.M
open Go.RowKit Go.Proofs.YtgknelgplmohoaaDoor.G Go.Proofs.YtgknelgplmohoaaDoorV.PrintWords Go.Proofs.YtgknelgplmohoaaDoorV.PrintLast Go.Proofs.YtgknelgplmohoaaDoor.X
set_option linter.unusedVariables false
set_option linter.unusedSimpArgs false
theorem digT0_head {n : Nat} (h : n ≠ 0) : ∃ x0 tl, digT0 n = x0 :: tl ∧ x0 ≠ 48 := by
 rw [digT0_pos h]
 exact rdig_last n n (Nat.le_refl _) h
theorem digT0_one : digT0 1 = [49] := by
 rw [digT0_pos (by decide), rdig_step (by decide)]
 rfl
theorem digT0_ten : digT0 10 = [49, 48] := by
 rw [digT0_pos (by decide), rdig_step (by decide), rdig_step (by decide)]
 rfl
theorem drop_same {n D : Nat} {E u : Int} (h : (n, E) = (D, u) ∨ ((n, E) = (1, u + 1) ∧ D = 10)) : (dropE (digT0 n)).1 = (dropE (digT0 D)).1 ∧ E + ((dropE (digT0 n)).2 : Int) = u + ((dropE (digT0 D)).2 : Int) := by
 rcases h with h | ⟨h, rfl⟩
 ·injection h with h1 h2
  subst h1 h2
  exact ⟨rfl, rfl⟩
 ·injection h with h1 h2
  subst h1 h2
  rw [digT0_one, digT0_ten]
  refine ⟨rfl, ?_⟩
  show u + 1 + ((0 : Nat) : Int) = u + ((1 : Nat) : Int)
  omega
structure ShD (P : Nat) (emin : Int) (S : Nat) (q : Int) (cl : Bool) (eS u : Int) (D : Nat) : Prop where
 sh : Sh cl (s6 (bndN P emin S q).1) (s6 (midN S q)) (s6 (bndN P emin S q).2.1) (tU (bndN P emin S q).2.2) (-(kK : Int)) eS
 es : -5125 ≤ eS ∧ eS ≤ 5125
 u1 : u ≤ eS
 u38 : eS - 38 ≤ u
 ul : lhN cl (s6 (bndN P emin S q).1) (s6 (bndN P emin S q).2.1) (s6 (midN S q)) (tU (bndN P emin S q).2.2 u) = true
 um : ∀ e, u < e → e ≤ eS → ¬ lhN cl (s6 (bndN P emin S q).1) (s6 (bndN P emin S q).2.1) (s6 (midN S q)) (tU (bndN P emin S q).2.2 e) = true
 d : chS cl (s6 (bndN P emin S q).1) (s6 (bndN P emin S q).2.1) (s6 (midN S q)) (tU (bndN P emin S q).2.2 u) = D
theorem ct_impl_Shortest {P : Nat} {emin emax : Int} {W E : Nat} {ex : Bool} {f : Int} (d : FD f P emin emax W E ex) (hf4 : 0 ≤ f ∧ f < 4) (x : Nat) (hx : x < B128) (cc : Int) (neg : Bool) (S : Nat) (q : Int) (hxu : unpN P emin emax W E ex x = (cc, neg, hiI S, loI S, q)) (hv : VP P emin emax cc S q) (hc : cc = 2 ∨ cc = 3)
  (eS u : Int) (D : Nat) (sd : ShD P emin S q (decide (S % 2 = 0)) eS u D) (ds : List Int) (ee : Int) (hds : (dropE (digT0 D)).1 = ds) (hee : u + ((dropE (digT0 D)).2 : Int) = ee) :
  CtM Tryd.prog 23 [.int .i64 f, .agg #[.int .u64 (hiI x), .int .u64 (loI x)]] [] [Tabled] (γ := {p : Nat × List Value × Nat // ds.length + p.2.1.length = p.2.2}) (fun p => .agg #[.slice (some ⟨p.1.1, 0, none⟩) ds.length p.1.2.2, .int .i64 ee, .bool neg, .int .i64 0]) (fun p => [⟨p.1.1, X.cl .u8 ds p.1.2.1, 5⟩]) (fun _ => []) := by
 have h := d.h
 have hF := h.toFmt
 have ci := ct_impl_isFormat f true (decide_eq_true hf4)
 have cu := ct_impl_Unpack hF f d.lf x hx
 rw [hxu, prtV] at cu
 dsimp only at cu
 obtain ⟨⟨bS0, bS1⟩, bq0, bq1, bS2, bS3⟩ := vp_fin h d.x1 hv hc
 have p1 := h.p1
 have m0 := h.m0
 have m1 := h.m1
 have b128 : 2 ^ P < B128 := Nat.pow_lt_pow_right (a := 2) (n := 128) (by decide) (by omega)
 have bS : S < B128 := by omega
 obtain ⟨w, hw⟩ : ∃ w, bndN P emin S q = w := ⟨_, rfl⟩
 have cb := ct_impl_Bounds d x hx cc neg S q hxu hv hc w hw
 obtain ⟨k, hk, ⟨l1, l2, l3⟩, g1, g2, g3⟩ := bnd_sm h d.x1 hv hc
 have hmid : midN S q < (bndN P emin S q).2.1 := by
  rw [(bnd_tq (P := P) (emin := emin) (S := S) (q := q)).2.1]
  exact Nat.mul_lt_mul_of_pos_right (show S * 2 ^ 2 < hi4 S by unfold hi4; omega) (Nat.pow_pos (by decide))
 obtain ⟨s1, s2, s3, s4, s5, s6', s7⟩ := sd
 rw [hw] at l1 l2 l3 g3 hmid s1 s5 s6' s7
 obtain ⟨lo, hi, den⟩ := w
 dsimp only at l1 l2 l3 g3 hmid s1 s5 s6' s7
 have cs := fun p1 p2 p3 j1 j2 j3 => ct_impl_shortest hw s1 s2 l1 l2 l3 hk g3 hmid bS (by omega) s3 s4 s5 s6' D s7 p1 p2 p3 j1 j2 j3 cc neg
 have hc1 : (cc == 0) = false ∧ (cc == 1) = false ∧ (cc == 4) = false ∧ (cc == 5) = false := by rcases hc with rfl | rfl <;> decide
 obtain ⟨z0, z1, z4, z5⟩ := hc1
 generalize decide (S % 2 = 0) = clo at *
 refine cm_of Tryd.func23 rfl (by kernel_rfl) (fun B w0 => ?_)
 clear s1 s5 s6' s7 hw l1 l2 l3 g1 g2 g3 hmid hv hxu
 have noweak := True.intro
 refine xg ?_
 refine xb 3 [.int .u64 (hiI x), .int .u64 (loI x)] 28 (fun g0 => ?_)
 refine xb 4 [.slice none 0 0, .int .i64 0, .bool false, .int .i64 0] 52 (fun g1 => ?_)
 refine xz [] [] ?_
 refine SW_seq ?_
 refine xg ?_
 refine xn 1 [] [(9, .int .i64 f)] ?_
 refine xcv 10 ci zs0 ?_
 refine xz [] [(11, .bool false)] ?_
 refine xs0 ?_
 refine SW_skip ?_
 refine xg ?_
 refine xn 2 [(1, [0])] [(14, .agg #[.int .u64 (hiI x), .int .u64 (loI x)]), (13, .int .i64 f)] ?_
 refine xcv 15 cu (zsS zi0 zs0) ?_
 refine xb 5 [.int .i64 0, .bool false, .int .u64 0, .int .u64 0, .int .i64 0] 33 (fun g2 => ?_)
 refine xy [(4, [2])] [] [(2, [.int .i64 cc, .bool neg, .int .u64 (hiI S), .int .u64 (loI S), .int .i64 q])] ?_
 refine SW_seq ?_
 refine xr [(1, [2])] [(17, .int .i64 cc)] ?_
 refine SW_block ?_
 refine xr [] [(18, .bool (cc == 0))] ?_
 refine xsf z0 ?_
 refine SW_seq ?_
 refine xr [] [(21, .bool (cc == 1))] ?_
 refine xsf z1 ?_
 refine xr [] [(21, .bool (cc == 4))] ?_
 refine xsf z4 ?_
 refine xrl [] [(21, .bool (cc == 5))] ?_
 refine xsf z5 ?_
 refine SW_skip ?_
 refine xd (fun hB => ?_)
 refine xdk [(0, []), (1, [0]), (3, [2])] [(32, .agg #[.int .i64 cc, .bool neg, .int .u64 (hiI S), .int .u64 (loI S), .int .i64 q]), (30, .agg #[.int .u64 (hiI x), .int .u64 (loI x)]), (29, .int .i64 f)] hB ?_
 (refine xdc 2 31 cb (zsS zi0 zs0) (fun zz => ?_); obtain ⟨⟨z6, z7⟩, ⟨⟨z8, z9⟩, ⟨z10, z11⟩⟩⟩ := zz)
 (refine xdcm 4 33 [false] [true, true, true] (cs (z6) (z8) (z10) (z7) (z9) (z11)) (zsS zi0 (zsS (ziS zi0) (zsS (ziS (ziS zi0)) zs0))) (zsS (ziS (ziS (ziS zi0))) zs0) (fun zz => ?_); obtain ⟨⟨⟨z12, ⟨z13, z14⟩⟩, ⟨z15, z16⟩⟩, p17⟩ := zz)
 refine xdk [(5, []), (6, []), (7, []), (8, []), (9, [])] [(7, .int .i64 z16), (6, .slice (some ⟨z12, 0, none⟩) (List.length (digT0 z15)) z14)] hB ?_
 refine xdz ?_
 refine xg ?_
 refine xn 1 [] [(37, .slice (some ⟨z12, 0, none⟩) (List.length (digT0 z15)) z14)] ?_
 obtain ⟨e1, e2, e3, e4⟩ := p17
 dsimp only at e1 e2 e3 e4
 obtain ⟨x0, tl, hx0, h0⟩ := digT0_head e2
 have ct := ct_impl_trimZeros z12 z14 (digT0 z15) z13 x0 tl hx0 h0 e1 (Nat.le_trans (digT0_len e3 (by decide)) (by decide))
 obtain ⟨k1, k2⟩ := drop_same e4
 rw [k1, hds] at ct
 have k3 := k2.trans hee
 obtain ⟨t, ht⟩ : ∃ t, (dropE (digT0 z15)).2 = t := ⟨_, rfl⟩
 rw [ht] at ct k3
 have hE : -5200 ≤ z16 ∧ z16 ≤ 5200 := by
  rcases e4 with e4 | ⟨e4, _⟩
  ·injection e4 with _ e5
   omega
  ·injection e4 with _ e5
   omega
 have ht2 : t ≤ 24320 := by
  have := digT0_len e3 (by decide)
  rw [← ht]
  unfold dropE
  dsimp only
  omega
 have v1 : Ve (IntKind.i64.wrap (z16 + (t : Int))) ee := ⟨by rw [wrap_i64 (by omega)]; exact k3⟩
 clear noweak
 (refine xcm 38 [false, false, false, true] ct zs0 (fun zz => ?_); obtain ⟨z17, p18⟩ := zz)
 refine xz [] [(8, .int .i64 (t : Int)), (6, .slice (some ⟨z12, 0, none⟩) (List.length ds) z14)] ?_
 refine xg ?_
 refine xn 3 [] [(43, .int .i64 (t : Int)), (42, .int .i64 z16), (41, .slice (some ⟨z12, 0, none⟩) (List.length ds) z14)] ?_
 refine xve 44 IntKind.i64 (IntKind.wrap IntKind.i64 (z16 + (t : Int))) (ee) v1 ?_
 refine xy [(5, [2]), (7, [1])] [] [(1, [.slice (some ⟨z12, 0, none⟩) (List.length ds) z14, .int .i64 ee, .bool neg, .int .i64 0])] ?_
 refine SW_ret ?_
 refine xmeg (.agg #[.slice (some ⟨z12, 0, none⟩) (List.length ds) z14, .int .i64 ee, .bool neg, .int .i64 0]) [1] ?_
 exact ⟨⟨(z12, z17, z14), p18⟩, [false, false, false, true], rfl, rfl, zs0⟩
theorem ct_impl_Shortest0 {P : Nat} {emin emax : Int} {W E : Nat} {ex : Bool} {f : Int} (d : FD f P emin emax W E ex) (hf4 : 0 ≤ f ∧ f < 4) (u1 u2 : Int) (cc : Int) (hc : cc = 0 ∨ cc = 1 ∨ cc = 4 ∨ cc = 5) (neg : Bool) (k1 k2 k3 : Int) (cu : CtV Tryd.prog 10 [.int .i64 f, .agg #[.int .u64 u1, .int .u64 u2]] [Tabled] (.agg #[.int .i64 cc, .bool neg, .int .u64 k1, .int .u64 k2, .int .i64 k3])) :
  CtV Tryd.prog 23 [.int .i64 f, .agg #[.int .u64 u1, .int .u64 u2]] [Tabled] (.agg #[.slice none 0 0, .int .i64 0, .bool (if cc = 0 then false else neg), .int .i64 (if cc = 0 then 3 else 0)]) := by
 have ci := ct_impl_isFormat f true (decide_eq_true hf4)
 refine ct_of Tryd.func23 rfl (by kernel_rfl) (fun B w0 => ?_)
 rcases hc with rfl | rfl | rfl | rfl
 ·rw [if_pos rfl, if_pos rfl]
  refine xg ?_
  refine xb 3 [.int .u64 u1, .int .u64 u2] 28 (fun g0 => ?_)
  refine xb 4 [.slice none 0 0, .int .i64 0, .bool false, .int .i64 0] 52 (fun g1 => ?_)
  refine xz [] [] ?_
  refine SW_seq ?_
  refine xg ?_
  refine xn 1 [] [(9, .int .i64 f)] ?_
  refine xcv 10 ci zs0 ?_
  refine xz [] [(11, .bool false)] ?_
  refine xs0 ?_
  refine SW_skip ?_
  refine xg ?_
  refine xn 2 [(1, [0])] [(14, .agg #[.int .u64 u1, .int .u64 u2]), (13, .int .i64 f)] ?_
  refine xcv 15 cu (zsS zi0 zs0) ?_
  refine xb 5 [.int .i64 0, .bool false, .int .u64 0, .int .u64 0, .int .i64 0] 33 (fun g2 => ?_)
  refine xy [(4, [2])] [] [(2, [.int .i64 0, .bool neg, .int .u64 k1, .int .u64 k2, .int .i64 k3])] ?_
  refine SW_seq ?_
  refine xr [(1, [2])] [(17, .int .i64 0)] ?_
  refine SW_block ?_
  refine xr [] [(18, .bool true)] ?_
  refine xs1 ?_
  refine xq [(1, [1])] [] [(1, [.slice none 0 0, .int .i64 0, .bool false, .int .i64 3])] ?_
  refine SW_ret ?_
  refine xe () (.agg #[.slice none 0 0, .int .i64 0, .bool false, .int .i64 3]) [1] ?_ trivial
  rfl
 ·rw [if_neg (by decide), if_neg (by decide)]
  refine xg ?_
  refine xb 3 [.int .u64 u1, .int .u64 u2] 28 (fun g0 => ?_)
  refine xb 4 [.slice none 0 0, .int .i64 0, .bool false, .int .i64 0] 52 (fun g1 => ?_)
  refine xz [] [] ?_
  refine SW_seq ?_
  refine xg ?_
  refine xn 1 [] [(9, .int .i64 f)] ?_
  refine xcv 10 ci zs0 ?_
  refine xz [] [(11, .bool false)] ?_
  refine xs0 ?_
  refine SW_skip ?_
  refine xg ?_
  refine xn 2 [(1, [0])] [(14, .agg #[.int .u64 u1, .int .u64 u2]), (13, .int .i64 f)] ?_
  refine xcv 15 cu (zsS zi0 zs0) ?_
  refine xb 5 [.int .i64 0, .bool false, .int .u64 0, .int .u64 0, .int .i64 0] 33 (fun g2 => ?_)
  refine xy [(4, [2])] [] [(2, [.int .i64 1, .bool neg, .int .u64 k1, .int .u64 k2, .int .i64 k3])] ?_
  refine SW_seq ?_
  refine xr [(1, [2])] [(17, .int .i64 1)] ?_
  refine SW_block ?_
  refine xr [] [(18, .bool false)] ?_
  refine xs0 ?_
  refine SW_seq ?_
  refine xr [] [(21, .bool true)] ?_
  refine xs1 ?_
  refine SW_skip ?_
  refine xs1 ?_
  refine xq [(1, [2]), (3, [1])] [] [(1, [.slice none 0 0, .int .i64 0, .bool neg, .int .i64 0])] ?_
  refine SW_ret ?_
  refine xe () (.agg #[.slice none 0 0, .int .i64 0, .bool neg, .int .i64 0]) [1] ?_ trivial
  rfl
 ·rw [if_neg (by decide), if_neg (by decide)]
  refine xg ?_
  refine xb 3 [.int .u64 u1, .int .u64 u2] 28 (fun g0 => ?_)
  refine xb 4 [.slice none 0 0, .int .i64 0, .bool false, .int .i64 0] 52 (fun g1 => ?_)
  refine xz [] [] ?_
  refine SW_seq ?_
  refine xg ?_
  refine xn 1 [] [(9, .int .i64 f)] ?_
  refine xcv 10 ci zs0 ?_
  refine xz [] [(11, .bool false)] ?_
  refine xs0 ?_
  refine SW_skip ?_
  refine xg ?_
  refine xn 2 [(1, [0])] [(14, .agg #[.int .u64 u1, .int .u64 u2]), (13, .int .i64 f)] ?_
  refine xcv 15 cu (zsS zi0 zs0) ?_
  refine xb 5 [.int .i64 0, .bool false, .int .u64 0, .int .u64 0, .int .i64 0] 33 (fun g2 => ?_)
  refine xy [(4, [2])] [] [(2, [.int .i64 4, .bool neg, .int .u64 k1, .int .u64 k2, .int .i64 k3])] ?_
  refine SW_seq ?_
  refine xr [(1, [2])] [(17, .int .i64 4)] ?_
  refine SW_block ?_
  refine xr [] [(18, .bool false)] ?_
  refine xs0 ?_
  refine SW_seq ?_
  refine xr [] [(21, .bool false)] ?_
  refine xs0 ?_
  refine xr [] [(21, .bool true)] ?_
  refine xs1 ?_
  refine SW_skip ?_
  refine xs1 ?_
  refine xq [(1, [2]), (3, [1])] [] [(1, [.slice none 0 0, .int .i64 0, .bool neg, .int .i64 0])] ?_
  refine SW_ret ?_
  refine xe () (.agg #[.slice none 0 0, .int .i64 0, .bool neg, .int .i64 0]) [1] ?_ trivial
  rfl
 ·rw [if_neg (by decide), if_neg (by decide)]
  refine xg ?_
  refine xb 3 [.int .u64 u1, .int .u64 u2] 28 (fun g0 => ?_)
  refine xb 4 [.slice none 0 0, .int .i64 0, .bool false, .int .i64 0] 52 (fun g1 => ?_)
  refine xz [] [] ?_
  refine SW_seq ?_
  refine xg ?_
  refine xn 1 [] [(9, .int .i64 f)] ?_
  refine xcv 10 ci zs0 ?_
  refine xz [] [(11, .bool false)] ?_
  refine xs0 ?_
  refine SW_skip ?_
  refine xg ?_
  refine xn 2 [(1, [0])] [(14, .agg #[.int .u64 u1, .int .u64 u2]), (13, .int .i64 f)] ?_
  refine xcv 15 cu (zsS zi0 zs0) ?_
  refine xb 5 [.int .i64 0, .bool false, .int .u64 0, .int .u64 0, .int .i64 0] 33 (fun g2 => ?_)
  refine xy [(4, [2])] [] [(2, [.int .i64 5, .bool neg, .int .u64 k1, .int .u64 k2, .int .i64 k3])] ?_
  refine SW_seq ?_
  refine xr [(1, [2])] [(17, .int .i64 5)] ?_
  refine SW_block ?_
  refine xr [] [(18, .bool false)] ?_
  refine xs0 ?_
  refine SW_seq ?_
  refine xr [] [(21, .bool false)] ?_
  refine xs0 ?_
  refine xr [] [(21, .bool false)] ?_
  refine xs0 ?_
  refine xrl [] [(21, .bool true)] ?_
  refine xs1 ?_
  refine xq [(1, [2]), (3, [1])] [] [(1, [.slice none 0 0, .int .i64 0, .bool neg, .int .i64 0])] ?_
  refine SW_ret ?_
  refine xe () (.agg #[.slice none 0 0, .int .i64 0, .bool neg, .int .i64 0]) [1] ?_ trivial
  rfl
theorem ct_impl_Shortest4 (f : Int) (hf4 : ¬ (0 ≤ f ∧ f < 4)) (u1 u2 : Int) :
  CtV Tryd.prog 23 [.int .i64 f, .agg #[.int .u64 u1, .int .u64 u2]] [Tabled] (.agg #[.slice none 0 0, .int .i64 0, .bool false, .int .i64 4]) := by
 have ci := ct_impl_isFormat f false (decide_eq_false hf4)
 refine ct_of Tryd.func23 rfl (by kernel_rfl) (fun B w0 => ?_)
 refine xg ?_
 refine xb 3 [.int .u64 u1, .int .u64 u2] 28 (fun g0 => ?_)
 refine xb 4 [.slice none 0 0, .int .i64 0, .bool false, .int .i64 0] 52 (fun g1 => ?_)
 refine xz [] [] ?_
 refine SW_seq ?_
 refine xg ?_
 refine xn 1 [] [(9, .int .i64 f)] ?_
 refine xcv 10 ci zs0 ?_
 refine xz [] [(11, .bool true)] ?_
 refine xs1 ?_
 refine xq [(1, [1])] [] [(1, [.slice none 0 0, .int .i64 0, .bool false, .int .i64 4])] ?_
 refine SW_ret ?_
 refine xe () (.agg #[.slice none 0 0, .int .i64 0, .bool false, .int .i64 4]) [1] ?_ trivial
 rfl
end Go.Proofs.YtgknelgplmohoaaDoor.M
end
section
namespace Go.Proofs.YtgknelgplmohoaaDoor.M
open Go.RowKit Go.Proofs.YtgknelgplmohoaaDoor.G Go.Proofs.YtgknelgplmohoaaDoorV.PrintWords Go.Proofs.YtgknelgplmohoaaDoorV.PrintLast Go.Proofs.YtgknelgplmohoaaDoor.X
set_option linter.unusedVariables false
set_option linter.unusedSimpArgs false
theorem inJ_atN (cl : Bool) (lo hi den : Nat) (e : Int) (he : -(kK : Int) ≤ e) (x : Nat) : inJ cl (atN lo den e).1 (atN hi den e).1 (x * (atN lo den e).2) = inJ cl (s6 lo) (s6 hi) (x * tU den e) := by
 obtain ⟨c, hc, h12⟩ := atN_scale kK e he
 unfold s6 tU
 rw [← (h12 lo den).1, ← (h12 hi den).1, ← (h12 lo den).2, Nat.mul_left_comm x c, inJ_scale hc]
theorem atN_snd (x y den : Nat) (e : Int) : (atN x den e).2 = (atN y den e).2 := by
 unfold atN
 split <;> rfl
theorem dropZ_all : ∀ l : List Int, dropZ l = [] → ∀ x ∈ l, x = 48
 | [], _, x, hx => by cases hx
 | a :: l, h, x, hx => by
  rw [dropZ] at h
  split at h
  ·next ha =>
   rcases List.mem_cons.1 hx with e | hx
   ·rw [e]; exact ha
   ·exact dropZ_all l h x hx
  ·cases h
theorem shD_ex {P : Nat} {emin emax : Int} {W E : Nat} {ex : Bool} {c : Int} {S : Nat} {q : Int} (h : Fmt2 P emin emax W E ex) (hx1 : 1 ≤ emax) (hv : VP P emin emax c S q) (hc : c = 2 ∨ c = 3) (cl : Bool) : ∃ eS u D, ShD P emin S q cl eS u D := by
 obtain ⟨eS, sh, he, hl⟩ := sh_of h hx1 hv hc cl
 have key : ∀ n : Nat, ∀ v : Int, v ≤ eS → eS - v = n → lhN cl (s6 (bndN P emin S q).1) (s6 (bndN P emin S q).2.1) (s6 (midN S q)) (tU (bndN P emin S q).2.2 v) = true →
   ∃ u, v ≤ u ∧ u ≤ eS ∧ lhN cl (s6 (bndN P emin S q).1) (s6 (bndN P emin S q).2.1) (s6 (midN S q)) (tU (bndN P emin S q).2.2 u) = true ∧ ∀ e, u < e → e ≤ eS → ¬ lhN cl (s6 (bndN P emin S q).1) (s6 (bndN P emin S q).2.1) (s6 (midN S q)) (tU (bndN P emin S q).2.2 e) = true := by
  intro n
  induction n using Nat.strongRecOn with
  | _ n ih =>
   intro v hv1 hv2 hv3
   by_cases hm : ∃ e, v < e ∧ e ≤ eS ∧ lhN cl (s6 (bndN P emin S q).1) (s6 (bndN P emin S q).2.1) (s6 (midN S q)) (tU (bndN P emin S q).2.2 e) = true
   ·obtain ⟨e, e1, e2, e3⟩ := hm
    obtain ⟨u, u1, u2, u3⟩ := ih (eS - e).toNat (by omega) e e2 (by omega) e3
    exact ⟨u, by omega, u2, u3⟩
   ·exact ⟨v, Int.le_refl _, hv1, hv3, fun e e1 e2 e3 => hm ⟨e, e1, e2, e3⟩⟩
 obtain ⟨u, u1, u2, u3, u4⟩ := key 38 (eS - 38) (by omega) (by omega) hl
 exact ⟨eS, u, _, sh, he, u2, u1, u3, u4, rfl⟩
theorem shD_len {P : Nat} {emin : Int} {S : Nat} {q : Int} {cl : Bool} {eS u : Int} {D : Nat} (sd : ShD P emin S q cl eS u D) : (digT0 D).length ≤ 24320 := by
 obtain ⟨s1, s2, s3, s4, s5, s6', s7⟩ := sd
 have hK := kK_eq
 have hV : tU (bndN P emin S q).2.2 u ≤ s6 (midN S q) := Nat.le_trans (s1.mono (by omega) s3) s1.lo
 have hc := (lh_cand (s1.p u) s1.lv s1.vh hV).1 s5
 obtain ⟨h1, h2, h3⟩ := ch_in (s1.p u) s1.lv s1.vh hV hc
 rw [s7] at h1 h2
 have h4 : 1 ≤ D := Nat.le_trans ((Nat.le_div_iff_mul_le (s1.p u)).2 (by omega)) h2
 have h5 := ((cand_iff (s1.p u) h4).2 h1).2
 have h6 := cHi_small (cl := cl) s1 (e := u) (by omega) (by omega)
 exact digT0_len (Nat.lt_of_le_of_lt h5 h6) (by decide)
end Go.Proofs.YtgknelgplmohoaaDoor.M
end
section
namespace Go.Proofs.YtgknelgplmohoaaDoor.M
open Go.RowKit Go.Proofs.YtgknelgplmohoaaDoor.G Go.Proofs.YtgknelgplmohoaaDoorV.PrintWords Go.Proofs.YtgknelgplmohoaaDoorV.PrintLast Go.Proofs.YtgknelgplmohoaaDoor.X
set_option linter.unusedVariables false
set_option linter.unusedSimpArgs false
def decV (l : List Int) : Nat := l.foldl (fun v y => v * 10 + (y.toNat - 48)) 0
theorem decV_from (l : List Int) : ∀ v, l.foldl (fun v y => v * 10 + (y.toNat - 48)) v = v * 10 ^ l.length + decV l := by
 induction l with
 | nil => intro v; simp [decV]
 | cons a l ih =>
  intro v
  unfold decV
  rw [List.foldl_cons, List.foldl_cons, ih, ih (0 * 10 + _), List.length_cons, Nat.pow_succ, Nat.add_mul, Nat.zero_mul, Nat.zero_add, Nat.mul_assoc, Nat.mul_comm 10, Nat.add_assoc]
theorem decV_append (a b : List Int) : decV (a ++ b) = decV a * 10 ^ b.length + decV b := by
 rw [decV, List.foldl_append, decV_from]
 rfl
theorem decV_snoc (a : List Int) (y : Int) : decV (a ++ [y]) = decV a * 10 + (y.toNat - 48) := by
 rw [decV, List.foldl_append]
 rfl
def Dgs (l : List Int) : Prop := ∀ y ∈ l, 48 ≤ y ∧ y ≤ 57
theorem decV_lt {l : List Int} (h : Dgs l) : decV l < 10 ^ l.length := by
 induction l with
 | nil => decide
 | cons a l ih =>
  have h1 := ih (fun z hz => h z (List.mem_cons_of_mem _ hz))
  have h2 := h a (List.mem_cons_self ..)
  have e : decV (a :: l) = (a.toNat - 48) * 10 ^ l.length + decV l := by
   rw [decV, List.foldl_cons, decV_from, Nat.zero_mul, Nat.zero_add]
  rw [e, List.length_cons, Nat.pow_succ]
  have h3 := Nat.mul_le_mul_right (10 ^ l.length) (show a.toNat - 48 ≤ 9 by omega)
  omega
theorem decV_rdig : ∀ f x, x ≤ f → decV (rdig x).reverse = x := by
 intro f
 induction f with
 | zero =>
  intro x hx
  obtain rfl : x = 0 := by omega
  rfl
 | succ f ih =>
  intro x hx
  by_cases h0 : x = 0
  ·subst h0
   rfl
  ·rw [rdig_step h0, List.reverse_cons, decV_snoc, ih (x / 10) (by omega)]
   omega
theorem decV_digT0 (x : Nat) : decV (digT0 x) = x := by
 by_cases h : x = 0
 ·subst h
  rfl
 ·rw [digT0_pos h, decV_rdig x x (Nat.le_refl _)]
theorem digT0_dgs (x : Nat) : Dgs (digT0 x) := by
 by_cases h : x = 0
 ·subst h
  intro y hy
  rw [digT0_zero] at hy
  rw [List.mem_singleton.1 hy]
  decide
 ·rw [digT0_pos h]
  intro y hy
  exact rdig_dig x x (Nat.le_refl _) y (List.mem_reverse.1 hy)
theorem tens_sm {v n : Nat} (h : v < 10 ^ n) (hn : n ≤ 24400) : Sm v := by
 refine Sm.of (k := 4 * n) (Nat.lt_of_lt_of_le h ?_) (by omega)
 rw [Nat.pow_mul]
 exact Nat.pow_le_pow_left (by decide) n
theorem fromDigits_step (l : List Int) (ih : ∀ l' : List Int, l'.length < l.length → Dgs l' → ∀ A c, CtR Tryd.prog 95 [.slice A l'.length c] [Row .u8 A c l'] .u64 (ofN B64 (decV l'))) (hN : l.length ≤ 24320) (hd : Dgs l) (A : Option Addr) (c : Nat) : CtR Tryd.prog 95 [.slice A l.length c] [Row .u8 A c l] .u64 (ofN B64 (decV l)) := by
 refine ct_of Tryd.func95 rfl (by kernel_rfl) (fun B w0 => ?_)
 by_cases h40 : 40 < l.length
 ·have z : decide ((l.length : Int) > 40) = true := decide_eq_true (by omega)
  obtain ⟨k, hk⟩ : ∃ k, l.length / 2 = k := ⟨_, rfl⟩
  obtain ⟨m, hm⟩ : ∃ m, l.length - k = m := ⟨_, rfl⟩
  have v1 : Ve (IntKind.i64.wrap ((l.length : Int).tdiv 2)) (k : Int) := ⟨by rw [Int.tdiv_eq_ediv_of_nonneg (by omega), wrap_i64 (by omega)]; omega⟩
  have v2 : Ve (IntKind.i64.wrap ((l.length : Int) - (k : Int))) (m : Int) := ⟨by rw [wrap_i64 (by omega)]; omega⟩
  have e1 : (l.take m).length = m := by rw [List.length_take]; omega
  have e2 : (l.drop m).length = k := by rw [List.length_drop]; omega
  have c1 := ih (l.take m) (by omega) (fun y hy => hd y (List.mem_of_mem_take hy)) A c
  obtain ⟨A2, hA2⟩ : ∃ A2, (if c = m then A else A.map (·.add m)) = A2 := ⟨_, rfl⟩
  have c2 := ih (l.drop m) (by omega) (fun y hy => hd y (List.mem_of_mem_drop hy)) A2 (c - m)
  have ev : decV l = decV (l.take m) * 10 ^ k + decV (l.drop m) := by
   conv => lhs; rw [← List.take_append_drop m l]
   rw [decV_append, e2]
  have s1 := tens_sm (decV_lt (fun y hy => hd y (List.mem_of_mem_take hy)) : decV (l.take m) < _) (by rw [e1]; omega)
  have s2 := tens_sm (decV_lt (fun y hy => hd y (List.mem_of_mem_drop hy)) : decV (l.drop m) < _) (by rw [e2]; omega)
  have s3 := tens_sm (decV_lt hd) (by omega)
  have s4 : Sm (10 ^ k) := tens_sm (Nat.pow_lt_pow_right (by decide) (Nat.lt_succ_self k)) (by omega)
  have s5 : Sm (decV (l.take m) * 10 ^ k) := s3.mono (by omega)
  rw [e1] at c1
  rw [e2] at c2
  have hkl : l.length - m = k := by omega
  refine SW_know zi0 (fun w h => h.2) (fun hc => ?_)
  refine SW_fact (G := Row .u8 A c (l.take m)) zi0 (fun w h => row_take m c (by omega) h) ?_
  refine SW_fact (G := Row .u8 A2 (c - m) (l.drop m)) (ziS zi0) (fun w h => row_drop hA2 (by omega) h) ?_
  rw [ev]
  refine xr [] [(2, .slice none 0 0)] ?_
  refine SW_seq ?_
  refine xr [] [(9, .bool (decide ((((List.length l) : Nat) : Int) > 40)))] ?_
  refine xst z ?_
  refine xg ?_
  refine xn 2 [] [(11, .int .i64 (((List.length l) : Nat) : Int))] ?_
  refine xve 12 IntKind.i64 (IntKind.wrap IntKind.i64 (Int.tdiv (((List.length l) : Nat) : Int) 2)) ((k : Int)) v1 ?_
  refine xz [] [(3, .int .i64 (k : Int))] ?_
  refine xd (fun hB => ?_)
  refine xdk [(0, []), (1, []), (2, []), (3, []), (7, []), (10, []), (11, []), (12, []), (13, [])] [(26, .int .i64 (k : Int)), (25, .int .i64 (((List.length l) : Nat) : Int)), (23, .slice A (List.length l) c), (20, .int .i64 (k : Int)), (16, .int .i64 (k : Int)), (15, .int .i64 (((List.length l) : Nat) : Int)), (13, .slice A (List.length l) c)] hB ?_
  refine xdve 4 hB 17 IntKind.i64 (IntKind.wrap IntKind.i64 ((((List.length l) : Nat) : Int) - (k : Int))) ((m : Int)) v2 ?_
  refine xdve 14 hB 27 IntKind.i64 (IntKind.wrap IntKind.i64 ((((List.length l) : Nat) : Int) - (k : Int))) ((m : Int)) v2 ?_
  refine xdsh 5 hB 18 5 A l.length c m .i64 (by omega) ?_
  refine xdsl 15 hB 28 5 A A2 l.length c m .i64 hA2 (by omega) ?_
  rw [hkl]
  refine xdr 6 19 c1 (zsS (ziS zi0) zs0) (fun A3 k3 => ?_)
  refine xdr 8 21 (ct_impl_ten ((k : Int)) (k) ⟨rfl⟩ (by omega)) zs0 (fun A4 k4 => ?_)
  refine xdr 9 22 (ct_impl_nat_mul (decV (List.take m l)) (10 ^ k) (A3) (A4) (k3) (k4) s1 s4) (zsS (ziS zi0) (zsS zi0 zs0)) (fun A5 k5 => ?_)
  refine xdr 16 29 c2 (zsS (ziS (ziS (ziS zi0))) zs0) (fun A6 k6 => ?_)
  refine xdr 17 30 (ct_impl_nat_add (decV (List.take m l) * 10 ^ k) (decV (List.drop m l)) (A5) (A6) (k5) (k6) s5 s2) (zsS (ziS zi0) (zsS zi0 zs0)) (fun A7 k7 => ?_)
  refine xdk [(18, [])] [(2, .slice A7 (List.length (ofN B64 (decV (List.take m l) * 10 ^ k + decV (List.drop m l)))) k7)] hB ?_
  refine xdz ?_
  refine SW_ret ?_
  refine xe (A7, k7) (.slice A7 (List.length (ofN B64 (decV (List.take m l) * 10 ^ k + decV (List.drop m l)))) k7) [] ?_ (zsS zi0 zs0)
  rfl
 ·have z : decide ((l.length : Int) > 40) = false := decide_eq_false (by omega)
  refine xr [] [(2, .slice none 0 0)] ?_
  refine SW_seq ?_
  refine xr [] [(9, .bool (decide ((((List.length l) : Nat) : Int) > 40)))] ?_
  refine xsf z ?_
  refine SW_skip ?_
  refine xr [] [(4, .slice none 0 0)] ?_
  refine SW_seq ?_
  refine xr [] [(33, .int .i64 0), (32, .int .i64 (((List.length l) : Nat) : Int)), (31, .slice A (List.length l) c)] ?_
  refine SW_block ?_
  refine SW_tru (Row_nil .u64 0) ?_
  refine SW_loopn (fun m s => ∃ (i : Nat) (A2 : Option Addr) (c2 : Nat), m + i = l.length ∧ Weak s ⟨[(33, .int .i64 (i : Int)), (32, .int .i64 (l.length : Int)), (31, .slice A l.length c), (4, .slice A2 (ofN B64 (decV (l.take i))).length c2)], [], [Row .u8 A c l, Row .u64 A2 c2 (ofN B64 (decV (l.take i)))]⟩) l.length ⟨0, none, 0, rfl, ?_⟩ (fun m s hI => ?_)
  ·rw [List.take_zero, show decV [] = 0 from rfl, ofN_nil B64_2]
   exact xw (zsS (ziS zi0) (zsS zi0 zs0))
  ·obtain ⟨i, A2, c2, h1, hw⟩ := hI
   refine SW_weak hw ?_
   clear hw
   by_cases hi : i < l.length
   ·have z : decide ((i : Int) < (l.length : Int)) = true := decide_eq_true (by omega)
    obtain ⟨m, rfl⟩ : ∃ m', m = m' + 1 := ⟨m - 1, by omega⟩
    refine SW_know zi0 (fun w h => row_at h (by omega)) (fun ⟨ad, e⟩ => ?_)
    subst e
    have vi : Ve (IntKind.i64.wrap ((i : Int) + 1)) ((i + 1 : Nat) : Int) := ⟨by rw [wrap_i64 (by omega)]; omega⟩
    have ht : l.take (i + 1) = l.take i ++ [rd l (i : Int)] := by
     rw [List.take_add_one, rd_some hi]
     rfl
    have hy : 48 ≤ rd l (i : Int) ∧ rd l (i : Int) ≤ 57 := by
     have := List.mem_of_getElem? (rd_some hi)
     exact hd _ this
    have hn : decV (l.take (i + 1)) = decV (l.take i) * 10 + ((rd l (i : Int)).toNat - 48) := by rw [ht, decV_snoc]
    have s1 := tens_sm (decV_lt (l := l.take i) (fun y hy => hd y (List.mem_of_mem_take hy))) (by rw [List.length_take]; omega)
    have s2 := tens_sm (decV_lt (l := l.take (i + 1)) (fun y hy => hd y (List.mem_of_mem_take hy))) (by rw [List.length_take]; omega)
    obtain ⟨V, hV⟩ : ∃ V, decV (l.take i) = V := ⟨_, rfl⟩
    obtain ⟨y, hye⟩ : ∃ y : Int, rd l (i : Int) = y := ⟨_, rfl⟩
    rw [hV, hye] at hn
    rw [hV] at s1
    rw [hn] at s2
    rw [hye] at hy
    have v0 : Ve (rd l (i : Int)) y := ⟨hye⟩
    obtain ⟨d, hde⟩ : ∃ d, y.toNat - 48 = d := ⟨_, rfl⟩
    have v1 : Ve (IntKind.u8.wrap (y - 48)) (d : Int) := ⟨by simp [IntKind.wrap, IntKind.bits, IntKind.signed]; omega⟩
    have v2 : Ve (IntKind.u64.wrap (d : Int)) (d : Int) := ⟨by rw [wrap_u64_id (by omega)]⟩
    rw [hde] at hn s2
    have hd9 : d < 18446744073709551616 := by omega
    have s3 : Sm (V * 10) := s2.mono (by omega)
    have s4 : Sm 10 := Sm.of (k := 4) (by decide) (by decide)
    have s5 : Sm d := s2.mono (by omega)
    rw [hV]
    clear hV hye hde
    refine xr [] [(34, .bool (decide ((i : Int) < (((List.length l) : Nat) : Int))))] ?_
    refine SW_seq ?_
    refine xst z ?_
    refine SW_skip ?_
    refine SW_seq ?_
    refine SW_block ?_
    refine xg ?_
    refine xfi 35 5 (ad) (List.length l) (c) (i) IntKind.i64 ((i : Int)) ⟨rfl⟩ (by omega) ?_
    refine xfle 36 zi0 (i) (y) v0 (by omega) ?_
    refine xz [] [(6, .int .u8 y)] ?_
    refine SW_region ?_
    refine xn 1 [] [(37, .slice A2 (List.length (ofN B64 V)) c2)] ?_
    refine xcr 38 (ct_impl_word (10) (10) ⟨rfl⟩ (by omega)) zs0 (fun A3 k3 => ?_)
    refine xcr 39 (ct_impl_nat_mul (V) (10) (A2) (A3) (c2) (k3) s1 s4) (zsS (ziS (ziS zi0)) (zsS zi0 zs0)) (fun A4 k4 => ?_)
    refine xn 4 [] [(40, .int .u8 y)] ?_
    refine xve 41 IntKind.u8 (IntKind.wrap IntKind.u8 (y - 48)) ((d : Int)) v1 ?_
    refine xve 42 IntKind.u64 (IntKind.wrap IntKind.u64 (d : Int)) ((d : Int)) v2 ?_
    refine xcr 43 (ct_impl_word ((d : Int)) (d) ⟨rfl⟩ hd9) zs0 (fun A5 k5 => ?_)
    refine xcr 44 (ct_impl_nat_add (V * 10) (d) (A4) (A5) (k4) (k5) s3 s5) (zsS (ziS zi0) (zsS zi0 zs0)) (fun A6 k6 => ?_)
    refine xz [] [(4, .slice A6 (List.length (ofN B64 (V * 10 + d))) k6)] ?_
    refine SW_region ?_
    refine xve 45 IntKind.i64 (IntKind.wrap IntKind.i64 ((i : Int) + 1)) ((((i + 1) : Nat) : Int)) vi ?_
    refine xz [] [(33, .int .i64 (((i + 1) : Nat) : Int))] ?_
    rw [← hn]
    refine ⟨m, by omega, i + 1, A6, k6, by omega, ?_⟩
    exact xw (zsS (ziS (ziS (ziS (ziS zi0)))) (zsS zi0 zs0))
   ·have z : decide ((i : Int) < (l.length : Int)) = false := decide_eq_false (by omega)
    rw [List.take_of_length_le (by omega)]
    refine xr [] [(34, .bool (decide ((i : Int) < (((List.length l) : Nat) : Int))))] ?_
    refine SW_seq ?_
    refine xsf z ?_
    refine SW_exit ?_
    refine xr [] [(2, .slice A2 (List.length (ofN B64 (decV l))) c2)] ?_
    refine SW_ret ?_
    refine xe (A2, c2) (.slice A2 (List.length (ofN B64 (decV l))) c2) [] ?_ (zsS (ziS zi0) zs0)
    rfl
theorem ct_impl_fromDigits : ∀ (N : Nat) (l : List Int), l.length ≤ N → l.length ≤ 24320 → Dgs l → ∀ A c, CtR Tryd.prog 95 [.slice A l.length c] [Row .u8 A c l] .u64 (ofN B64 (decV l)) := by
 intro N
 induction N with
 | zero => exact fun l hl hN hd A c => fromDigits_step l (fun l' h => absurd h (by omega)) hN hd A c
 | succ N ih => exact fun l hl hN hd A c => fromDigits_step l (fun l' h hd' => ih l' (by omega) (by omega) hd') hN hd A c
end Go.Proofs.YtgknelgplmohoaaDoor.M
end
section
namespace Go.Proofs.YtgknelgplmohoaaDoor.M
open Go.RowKit Go.Proofs.YtgknelgplmohoaaDoor.G Go.Proofs.YtgknelgplmohoaaDoorV.PrintWords Go.Proofs.YtgknelgplmohoaaDoorV.PrintLast Go.Proofs.YtgknelgplmohoaaDoor.X
set_option linter.unusedVariables false
set_option linter.unusedSimpArgs false
theorem dropZ_eq : ∀ l : List Int, ∃ k, l = List.replicate k 48 ++ dropZ l ∧ k + (dropZ l).length = l.length
  | [] => ⟨0, rfl, rfl⟩
  | a :: l => by
    rw [dropZ]
    by_cases h : a = 48
    · rw [if_pos h]
      obtain ⟨k, h1, h2⟩ := dropZ_eq l
      refine ⟨k + 1, ?_, by simp only [List.length_cons]; omega⟩
      rw [List.replicate_succ, List.cons_append, ← h1, h]
    · rw [if_neg h]
      exact ⟨0, rfl, by simp⟩
theorem dropE_eq (l : List Int) : l = (dropE l).1 ++ List.replicate (dropE l).2 48 := by
  obtain ⟨k, h1, h2⟩ := dropZ_eq l.reverse
  unfold dropE
  dsimp only
  rw [List.length_reverse] at h2
  have e : l.length - (dropZ l.reverse).length = k := by omega
  rw [e]
  have := congrArg List.reverse h1
  rwa [List.reverse_reverse, List.reverse_append, List.reverse_replicate] at this
theorem decV_zeros (k : Nat) : decV (List.replicate k 48) = 0 := by
  induction k with
  | zero => rfl
  | succ k ih => rw [List.replicate_succ', decV_snoc, ih]; rfl
theorem dropZ_head : ∀ l : List Int, ∀ x r, dropZ l = x :: r → x ≠ 48
  | [], x, r, h => by cases h
  | a :: l, x, r, h => by
    rw [dropZ] at h
    split at h
    · exact dropZ_head l x r h
    · next ha =>
      injection h with h1 _
      rw [← h1]
      exact ha
structure Digs (ds : List Int) (cut D n : Nat) : Prop where
  dg : Dgs ds
  ne : ds ≠ []
  hd : rd ds ((0 : Nat) : Int) ≠ 48
  lt : rd ds ((ds.length - 1 : Nat) : Int) ≠ 48
  v : decV ds = n
  e : D = n * 10 ^ cut
  n0 : n ≠ 0
  nl : n % 10 ≠ 0
  l1 : ds.length ≤ 1 → n < 10
  l2 : 1 < ds.length → 10 < n
theorem digs_of {D : Nat} (h0 : D ≠ 0) : ∃ n, Digs (dropE (digT0 D)).1 (dropE (digT0 D)).2 D n := by
  have he := dropE_eq (digT0 D)
  have hg := digT0_dgs D
  have hv := decV_digT0 D
  obtain ⟨x0, tl, hx0, hx⟩ := digT0_head h0
  have hpw := digT0_pow h0
  have hl : ∀ x r, dropZ (digT0 D).reverse = x :: r → x ≠ 48 := fun x r h => dropZ_head _ x r h
  have hne : dropZ (digT0 D).reverse ≠ [] := fun z => hx (dropZ_all _ z x0 (by rw [hx0]; simp))
  have hds : (dropE (digT0 D)).1 = (dropZ (digT0 D).reverse).reverse := rfl
  obtain ⟨ds, hd⟩ : ∃ ds, (dropE (digT0 D)).1 = ds := ⟨_, rfl⟩
  obtain ⟨cut, hc⟩ : ∃ cut, (dropE (digT0 D)).2 = cut := ⟨_, rfl⟩
  rw [hd, hc] at he
  rw [hd] at hds
  rw [hd, hc]
  have hgd : Dgs ds := fun y hy => hg y (by rw [he]; exact List.mem_append_left _ hy)
  have hdn : ds ≠ [] := by rw [hds]; simpa using hne
  obtain ⟨z, zs, hz⟩ : ∃ z zs, dropZ (digT0 D).reverse = z :: zs := by
    cases hq : dropZ (digT0 D).reverse with
    | nil => exact absurd hq hne
    | cons z zs => exact ⟨z, zs, rfl⟩
  have hz48 := hl z zs hz
  have hsn : ds = zs.reverse ++ [z] := by rw [hds, hz, List.reverse_cons]
  have hzg := hgd z (by rw [hsn]; simp)
  have hD : D = decV ds * 10 ^ cut := by
    have := hv
    rw [he, decV_append, List.length_replicate, decV_zeros] at this
    omega
  have hdec : decV ds = decV zs.reverse * 10 + (z.toNat - 48) := by rw [hsn, decV_snoc]
  have hzn : z.toNat - 48 < 10 ∧ z.toNat - 48 ≠ 0 := by omega
  have hlen : ds.length = zs.length + 1 := by rw [hsn]; simp
  have hhd : rd ds ((0 : Nat) : Int) = x0 := by
    have e1 : ds ++ List.replicate cut 48 = x0 :: tl := by rw [← he, hx0]
    cases hq : ds with
    | nil => exact absurd hq hdn
    | cons a al =>
      rw [hq] at e1
      exact (List.cons.inj e1).1
  refine ⟨decV ds, hgd, hdn, by rw [hhd]; exact hx, ?_, rfl, hD, fun zz => by rw [zz] at hD; omega, by omega, fun h1 => ?_, fun h1 => ?_⟩
  · rw [hlen, Nat.add_sub_cancel, hsn, rd_nat, List.getD_eq_getElem?_getD, List.getElem?_append_right (by simp)]
    simpa using hz48
  · have : zs.length = 0 := by omega
    have := List.eq_nil_of_length_eq_zero this
    rw [hdec, this]
    show decV ([] : List Int) * 10 + _ < 10
    rw [show decV ([] : List Int) = 0 from rfl]
    omega
  · have hz2 : decV zs.reverse ≠ 0 := by
      cases hq : zs.reverse with
      | nil => rw [List.reverse_eq_nil_iff] at hq; rw [hq] at hlen; simp at hlen; omega
      | cons a al =>
        have ha : ds = a :: (al ++ [z]) := by rw [hsn, hq]; rfl
        have ha48 : a ≠ 48 := by
          have := hhd
          rw [ha] at this
          have e2 : a = x0 := this
          rw [e2]; exact hx
        have hag := hgd a (by rw [ha]; simp)
        have e3 : decV (a :: al) = (a.toNat - 48) * 10 ^ al.length + decV al := by
          rw [show a :: al = [a] ++ al from rfl, decV_append]
          congr 2
          show 0 * 10 + (a.toNat - 48) = _
          omega
        rw [e3]
        have : 1 * 1 ≤ (a.toNat - 48) * 10 ^ al.length := Nat.mul_le_mul (by omega) (Nat.pow_pos (by decide))
        omega
    omega
section
variable {P : Nat} {emin : Int} {S : Nat} {q : Int} {cl : Bool} {eS u : Int} {D : Nat}
structure ShLaw (cl : Bool) (L V H : Nat) (T : Int → Nat) (ee : Int) (n k : Nat) : Prop where
  inn : inJ cl L H (n * T ee) = true
  none : 1 < k → inJ cl L H (cLo cl L (T (ee + 1)) * T (ee + 1)) = false
  near : ∀ m, (m = n - 1 ∨ m = n + 1) → inJ cl L H (m * T ee) = true → farN V (T ee) n < farN V (T ee) m ∨ (farN V (T ee) n = farN V (T ee) m ∧ n % 2 = 0)
theorem sh_law (sd : ShD P emin S q cl eS u D) {n : Nat} (hg : Digs (dropE (digT0 D)).1 (dropE (digT0 D)).2 D n) : ShLaw cl (s6 (bndN P emin S q).1) (s6 (midN S q)) (s6 (bndN P emin S q).2.1) (tU (bndN P emin S q).2.2) (u + ((dropE (digT0 D)).2 : Int)) n (dropE (digT0 D)).1.length := by
  obtain ⟨s1, s2, s3, s4, s5, s6', s7⟩ := sd
  have hK := kK_eq
  obtain ⟨L, hL⟩ : ∃ L, s6 (bndN P emin S q).1 = L := ⟨_, rfl⟩
  obtain ⟨H, hH⟩ : ∃ H, s6 (bndN P emin S q).2.1 = H := ⟨_, rfl⟩
  obtain ⟨V, hV⟩ : ∃ V, s6 (midN S q) = V := ⟨_, rfl⟩
  obtain ⟨T, hT⟩ : ∃ T, tU (bndN P emin S q).2.2 = T := ⟨_, rfl⟩
  rw [hL, hV, hH, hT] at s1
  rw [hL, hV, hH, hT] at s5 s7 ⊢
  simp only [hL, hV, hH, hT] at s6'
  have hlv := s1.lv
  have hvh := s1.vh
  have pu := s1.p u
  have hVu : T u ≤ V := Nat.le_trans (s1.mono (by omega) s3) s1.lo
  have hcu := (lh_cand pu hlv hvh hVu).1 s5
  obtain ⟨hin, hd1, hd2⟩ := ch_in pu hlv hvh hVu hcu
  rw [s7] at hin hd1 hd2
  obtain ⟨cut, hc⟩ : ∃ cut, (dropE (digT0 D)).2 = cut := ⟨_, rfl⟩
  obtain ⟨kk, hkk⟩ : ∃ kk, (dropE (digT0 D)).1.length = kk := ⟨_, rfl⟩
  have hg6 := hg.e
  have hg7 := hg.n0
  have hg8 := hg.nl
  have hg9 := hg.l1
  have hg10 := hg.l2
  have hdig := hc
  rw [hc] at hg6 ⊢
  rw [hkk] at hg9 hg10 ⊢
  have hTe : T (u + (cut : Int)) = 10 ^ cut * T u := s1.pow (by omega) cut
  obtain ⟨ee, hee⟩ : ∃ ee, u + (cut : Int) = ee := ⟨_, rfl⟩
  rw [hee] at hTe ⊢
  have hnt : n * T ee = D * T u := by rw [hTe, hg6, Nat.mul_assoc]
  have pe := s1.p ee
  have hD1 : 1 ≤ V / T u := (Nat.le_div_iff_mul_le pu).2 (by omega)
  refine ⟨by rw [hnt]; exact hin, fun hk1 => ?_, fun m hm hmi => ?_⟩
  · -- no multiple of the next unit
    cases hb : inJ cl L H (cLo cl L (T (ee + 1)) * T (ee + 1)) with
    | false => rfl
    | true =>
      exfalso
      have hl1 := cLo_pos cl L (T (ee + 1))
      rcases Int.lt_or_le eS (ee + 1) with h | h
      · obtain ⟨t1, t2⟩ := s1.top (by omega) (by omega) hl1 hb
        rw [t2, t1, Nat.one_mul] at hb
        have tS := s1.t eS (by omega)
        have hlS : lhN cl L H V (T eS) = true := (lh_cand (s1.p eS) hlv hvh s1.lo).2 ((cand_ex (s1.p eS)).2 ⟨10, by decide, by rw [← tS]; exact hb⟩)
        have hue : u = eS := by
          rcases Int.lt_or_le u eS with z | z
          · exact absurd hlS (s6' eS z (Int.le_refl _))
          · omega
        have hcut : cut = 0 := by omega
        have hV10 : V / T u < 10 := (Nat.div_lt_iff_lt_mul pu).2 (by rw [hue, ← tS]; exact s1.hi)
        rw [hcut, Nat.pow_zero, Nat.mul_one] at hg6
        have := hg10 hk1
        omega
      · have hle : T (ee + 1) ≤ V := Nat.le_trans (s1.mono (by omega) h) s1.lo
        exact s6' (ee + 1) (by omega) h ((lh_cand (s1.p _) hlv hvh hle).2 ((cand_ex (s1.p _)).2 ⟨_, hl1, hb⟩))
  · -- no neighbour is nearer
    have hV1 := dt_lt (V := V) pu
    have hV0 := dt_le V (T u)
    have hmd : V % T u = V - V / T u * T u := by have := Nat.div_add_mod V (T u); rw [Nat.mul_comm] at this; omega
    have hsum : (V / T u + 1) * T u = V / T u * T u + T u := by rw [Nat.add_mul, Nat.one_mul]
    have hfn : farN V (T ee) n = farN V (T u) D := by unfold farN; rw [hnt]
    have hm1 : n = (n - 1) + 1 := by omega
    have e1 : (n - 1) * T ee + T ee = n * T ee := by
      have : (n - 1) * T ee + 1 * T ee = (n - 1 + 1) * T ee := (Nat.add_mul _ _ _).symm
      rwa [Nat.one_mul, Nat.sub_add_cancel (by omega)] at this
    have e2 : (n + 1) * T ee = n * T ee + T ee := by rw [Nat.add_mul, Nat.one_mul]
    have hDt : D * T u = V / T u * T u ∨ D * T u = V / T u * T u + T u := by
      rcases (show D = V / T u ∨ D = V / T u + 1 by omega) with z | z
      · left; rw [← z]
      · right; rw [z, hsum]
    by_cases hcz : cut = 0
    · have hTT : T ee = T u := by rw [hTe, hcz, Nat.pow_zero, Nat.one_mul]
      have hnD : n = D := by rw [hg6, hcz, Nat.pow_zero, Nat.mul_one]
      subst hnD
      rw [hTT] at e1 e2 hmi ⊢
      have hR := rrS_iff2 (V := V) (t := T u)
      obtain ⟨a1, a2, a3, a4, a5⟩ := around (cl := cl) pu hlv hvh hVu
      unfold chS at s7
      have hcv := fun x h1 h2 => inJ_conv (cl := cl) (x := x) hmi (inJ_mid hlv hvh) h1 h2
      have hcw := fun x h1 h2 => inJ_conv (cl := cl) (x := x) (inJ_mid hlv hvh) hmi h1 h2
      rcases hDt with hDe | hDe
      · have hD0 : n = V / T u := by
          rcases (show n = V / T u ∨ n = V / T u + 1 by omega) with z | z
          · exact z
          · rw [z, hsum] at hDe; omega
        rcases hm with rfl | rfl
        · left
          unfold farN
          split <;> split <;> omega
        · have hhi : inJ cl L H ((V / T u + 1) * T u) = true := by rw [← hD0]; exact hmi
          have hlo : inJ cl L H (V / T u * T u) = true := by rw [← hDe]; exact hin
          rw [if_pos hlo, if_pos hhi] at s7
          rcases hR with ⟨r1, r2⟩ | ⟨r1, r2⟩
          · omega
          · rcases r2 with r2 | r2
            · left
              unfold farN
              split <;> split <;> omega
            · right
              refine ⟨?_, by omega⟩
              unfold farN
              split <;> split <;> omega
      · have hD0 : n = V / T u + 1 := by
          rcases (show n = V / T u ∨ n = V / T u + 1 by omega) with z | z
          · rw [z] at hDe; omega
          · exact z
        rcases hm with rfl | rfl
        · have hlo : inJ cl L H (V / T u * T u) = true := by
            have : (n - 1) * T u = V / T u * T u := by rw [hD0, Nat.add_sub_cancel]
            rw [← this]; exact hmi
          have hhi : inJ cl L H ((V / T u + 1) * T u) = true := by rw [← hD0]; exact hin
          rw [if_pos hlo, if_pos hhi] at s7
          rcases hR with ⟨r1, r2⟩ | ⟨r1, r2⟩
          · rcases r2 with r2 | r2
            · left
              unfold farN
              split <;> split <;> omega
            · right
              refine ⟨?_, by omega⟩
              unfold farN
              split <;> split <;> omega
          · omega
        · left
          unfold farN
          split <;> split <;> omega
    · -- a coarser unit
      left
      have h10 : 10 * T u ≤ T ee := by
        rw [hTe]
        have : 10 ^ 1 ≤ 10 ^ cut := Nat.pow_le_pow_right (by decide) (by omega)
        exact Nat.mul_le_mul_right _ (by omega)
      rcases hm with rfl | rfl
      · unfold farN
        split <;> split <;> omega
      · unfold farN
        split <;> split <;> omega
end
end Go.Proofs.YtgknelgplmohoaaDoor.M
end
section
namespace Go.Proofs.YtgknelgplmohoaaDoor.M
open Go.RowKit Go.Proofs.YtgknelgplmohoaaDoor.G Go.Proofs.YtgknelgplmohoaaDoorV.PrintWords Go.Proofs.YtgknelgplmohoaaDoorV.PrintLast Go.Proofs.YtgknelgplmohoaaDoor.X
set_option linter.unusedVariables false
set_option linter.unusedSimpArgs false
structure Fr (a : List Int) (x : Nat) : Prop where
 d : Dig B64 a
 l : a.length ≤ 1200
 v : val B64 a = x
theorem Fr.bits {a : List Int} {x : Nat} (h : Fr a x) : ∃ m, IsBits x m ∧ m ≤ 76800 := by
 have := fits_bits h.d h.l
 rw [h.v] at this
 exact this
theorem Fr.sm {a : List Int} {x : Nat} (h : Fr a x) : Sm x := by
 obtain ⟨m, h1, h2⟩ := h.bits
 exact Sm.of h1.1 (by omega)
theorem Fr.of {x m : Nat} (hm : x < 2 ^ m) (h : m ≤ 76800) : Fr (ofN B64 x) x := by
 obtain ⟨d, n, v⟩ := ofN_spec B64_2 x
 exact ⟨d, len1200 hm h, v⟩
theorem Fr.of1 {l : Nat} (hl : l < 18446744073709551616) : Fr [(l : Int)] l := by
 refine ⟨fun n hn => ?_, by simp, by simp [val, B64]⟩
 simp at hn
 unfold B64
 omega
theorem Fr.sIn {a : List Int} {x : Nat} (h : Fr a x) (A : Option Addr) (c : Nat) : CtR Tryd.prog 49 [.slice A a.length c] [Row .u64 A c a] .u64 (ofN B32 x) := by
 obtain ⟨d1, n1, v1⟩ := ofN_spec B32_2 x
 exact ct_spec_l1In_rows a A c h.d (by have := h.l; omega) _ d1 n1 (by rw [v1, h.v])
section
variable {a b : List Int} {x y : Nat}
theorem ct_spec_NatCmp_rows (a b : List Int) (x y : Nat) (fa : Fr a x) (fb : Fr b y) (A A' : Option Addr) (c c' : Nat) : CtV Tryd.prog 15 [.slice A a.length c, .slice A' b.length c'] [Row .u64 A c a, Row .u64 A' c' b] (.int .i64 (cmpN x y)) := by
 have la := decide_eq_true fa.l
 have lb := decide_eq_true fb.l
 have s1 := fa.sm
 have s2 := fb.sm
 have ca := fa.sIn A c
 have cb := fb.sIn A' c'
 refine ct_of Tryd.func15 rfl (by kernel_rfl) (fun B w0 => ?_)
 refine xr [] [(4, .int .i64 0)] ?_
 refine SW_seq ?_
 refine xg ?_
 refine xn 1 [] [(5, .slice A (List.length a) c)] ?_
 refine xcv 6 (ct_spec_l1Fits (List.length a) (c) (A) (true) la) zs0 ?_
 refine xn 5 [] [(9, .slice A' (List.length b) c'), (8, .bool false)] ?_
 refine xcv 10 (ct_spec_l1Fits (List.length b) (c') (A') (true) lb) zs0 ?_
 refine xz [] [(12, .bool false)] ?_
 refine xs0 ?_
 refine SW_skip ?_
 refine xg ?_
 refine xn 1 [] [(13, .slice A (List.length a) c)] ?_
 refine xcr 14 ca (zsS zi0 zs0) (fun A0 k0 => ?_)
 refine xn 3 [] [(15, .slice A' (List.length b) c')] ?_
 refine xcr 16 cb (zsS (ziS (ziS zi0)) zs0) (fun A1 k1 => ?_)
 refine xcv 17 (ct_spec_l1Cmp (x) (y) (A0) (A1) (k0) (k1) s1 s2) (zsS (ziS zi0) (zsS zi0 zs0)) ?_
 refine xz [] [(4, .int .i64 (cmpN x y))] ?_
 refine SW_ret ?_
 refine xe () (.int .i64 (cmpN x y)) [] ?_ trivial
 rfl
theorem ct_spec_NatMul_rows (a b : List Int) (x y : Nat) (fa : Fr a x) (fb : Fr b y) (sxy : Sm (x * y)) (A A' : Option Addr) (c c' : Nat) : CtR Tryd.prog 13 [.slice A a.length c, .slice A' b.length c'] [Row .u64 A c a, Row .u64 A' c' b] .u64 (ofN B64 (x * y)) := by
 have la := decide_eq_true fa.l
 have lb := decide_eq_true fb.l
 have s1 := fa.sm
 have s2 := fb.sm
 have ca := fa.sIn A c
 have cb := fb.sIn A' c'
 refine ct_of Tryd.func13 rfl (by kernel_rfl) (fun B w0 => ?_)
 refine xr [] [(4, .slice none 0 0)] ?_
 refine SW_seq ?_
 refine xg ?_
 refine xn 1 [] [(5, .slice A (List.length a) c)] ?_
 refine xcv 6 (ct_spec_l1Fits (List.length a) (c) (A) (true) la) zs0 ?_
 refine xn 5 [] [(9, .slice A' (List.length b) c'), (8, .bool false)] ?_
 refine xcv 10 (ct_spec_l1Fits (List.length b) (c') (A') (true) lb) zs0 ?_
 refine xz [] [(12, .bool false)] ?_
 refine xs0 ?_
 refine SW_skip ?_
 refine xg ?_
 refine xn 1 [] [(13, .slice A (List.length a) c)] ?_
 refine xcr 14 ca (zsS zi0 zs0) (fun A0 k0 => ?_)
 refine xn 3 [] [(15, .slice A' (List.length b) c')] ?_
 refine xcr 16 cb (zsS (ziS (ziS zi0)) zs0) (fun A1 k1 => ?_)
 refine xcr 17 (ct_spec_l1Mul (x) (y) (A0) (A1) (k0) (k1) s1 s2) (zsS (ziS zi0) (zsS zi0 zs0)) (fun A2 k2 => ?_)
 refine xcr 18 (ct_spec_l1Out (x * y) (A2) (k2) sxy) (zsS zi0 zs0) (fun A3 k3 => ?_)
 refine xz [] [(4, .slice A3 (List.length (ofN B64 (x * y))) k3)] ?_
 refine SW_ret ?_
 refine xe (A3, k3) (.slice A3 (List.length (ofN B64 (x * y))) k3) [] ?_ (zsS zi0 zs0)
 rfl
theorem ct_spec_NatShift_rows (a : List Int) (x : Nat) (fa : Fr a x) (k : Int) (n : Nat) (hk : Nn k n) (hn : n ≤ 80000) (A : Option Addr) (c : Nat) : CtR Tryd.prog 64 [.slice A a.length c, .int .i64 k] [Row .u64 A c a] .u64 (ofN B64 (x * 2 ^ n)) := by
 obtain ⟨rfl⟩ := hk
 have la := decide_eq_true fa.l
 have s1 := fa.sm
 obtain ⟨m, hm, hm1⟩ := fa.bits
 have s2 : Sm (x * 2 ^ n) := Sm.of (k := m + n) (by rw [Nat.pow_add]; exact Nat.mul_lt_mul_of_pos_right hm.1 (Nat.pow_pos (by decide))) (by omega)
 have ca := fa.sIn A c
 have z1 : decide ((n : Int) > 80000) = false := decide_eq_false (by omega)
 have z2 : decide ((n : Int) < -80000) = false := decide_eq_false (by omega)
 have z3 : decide ((n : Int) ≥ 0) = true := decide_eq_true (by omega)
 refine ct_of Tryd.func64 rfl (by kernel_rfl) (fun B w0 => ?_)
 refine xr [] [(4, .slice none 0 0)] ?_
 refine SW_seq ?_
 refine xg ?_
 refine xn 1 [] [(5, .slice A (List.length a) c)] ?_
 refine xcv 6 (ct_spec_l1Fits (List.length a) (c) (A) (true) la) zs0 ?_
 refine xn 8 [] [(12, .bool (decide ((n : Int) > 80000)))] ?_
 refine xkf 12 z1 ?_
 refine xz [] [(15, .bool (decide ((n : Int) < -80000)))] ?_
 refine xsf z2 ?_
 refine SW_skip ?_
 refine SW_seq ?_
 refine xr [] [(17, .bool (decide ((n : Int) ≥ 0)))] ?_
 refine xst z3 ?_
 refine xg ?_
 refine xn 1 [] [(18, .slice A (List.length a) c)] ?_
 refine xcr 19 ca (zsS zi0 zs0) (fun A0 k0 => ?_)
 refine xn 3 [] [(20, .int .i64 (n : Int))] ?_
 refine xcr 21 (ct_spec_l1Left (x) (A0) (k0) ((n : Int)) (n) ⟨rfl⟩ (by omega) s1) (zsS zi0 zs0) (fun A1 k1 => ?_)
 refine xcr 22 (ct_spec_l1Out (x * 2 ^ n) (A1) (k1) s2) (zsS zi0 zs0) (fun A2 k2 => ?_)
 refine xz [] [(4, .slice A2 (List.length (ofN B64 (x * 2 ^ n))) k2)] ?_
 refine SW_ret ?_
 refine xe (A2, k2) (.slice A2 (List.length (ofN B64 (x * 2 ^ n))) k2) [] ?_ (zsS zi0 zs0)
 rfl
end
end Go.Proofs.YtgknelgplmohoaaDoor.M
end
section
namespace Go.Proofs.YtgknelgplmohoaaDoor.M
open Go.RowKit Go.Proofs.YtgknelgplmohoaaDoor.G Go.Proofs.YtgknelgplmohoaaDoorV.PrintWords Go.Proofs.YtgknelgplmohoaaDoorV.PrintLast Go.Proofs.YtgknelgplmohoaaDoor.X
set_option linter.unusedVariables false
set_option linter.unusedSimpArgs false
theorem ct_spec_NatSub (x y : Nat) (a b : List Int) (da : Dig B64 a) (db : Dig B64 b) (la : a.length ≤ 1200) (lb : b.length ≤ 1200) (ea : val B64 a = x) (eb : val B64 b = y) (h : y ≤ x) (A A' : Option Addr) (c c' : Nat) : CtRV Tryd.prog 35 [.slice A a.length c, .slice A' b.length c'] [Row .u64 A c a, Row .u64 A' c' b] .u64 (ofN B64 (x - y)) (.bool true) := by
 have fa := decide_eq_true la
 have fb := decide_eq_true lb
 obtain ⟨d1, n1, v1⟩ := ofN_spec B32_2 x
 obtain ⟨d2, n2, v2⟩ := ofN_spec B32_2 y
 have sx' : Sm x := by
  obtain ⟨m, hm, hm1⟩ := fits_bits da la
  rw [ea] at hm
  exact Sm.of hm.1 (by omega)
 have sy : Sm y := sx'.mono h
 have sxy : Sm (x - y) := sx'.mono (Nat.sub_le _ _)
 have ca := ct_spec_l1In_rows a A c da (by omega) _ d1 n1 (by rw [v1, ea])
 have cb := ct_spec_l1In_rows b A' c' db (by omega) _ d2 n2 (by rw [v2, eb])
 have z1 : decide (cmpN x y < 0) = false := by rw [cmpN_neg]; exact decide_eq_false (by omega)
 refine ct_of Tryd.func35 rfl (by kernel_rfl) (fun B w0 => ?_)
 refine xr [] [(5, .bool false), (4, .slice none 0 0)] ?_
 refine SW_seq ?_
 refine xg ?_
 refine xn 1 [] [(6, .slice A (List.length a) c)] ?_
 refine xcv 7 (ct_spec_l1Fits (List.length a) (c) (A) (true) fa) zs0 ?_
 refine xn 5 [] [(10, .slice A' (List.length b) c'), (9, .bool false)] ?_
 refine xcv 11 (ct_spec_l1Fits (List.length b) (c') (A') (true) fb) zs0 ?_
 refine xn 10 [] [(15, .slice A (List.length a) c), (14, .bool false)] ?_
 refine xcr 16 ca (zsS zi0 zs0) (fun A0 k0 => ?_)
 refine xn 12 [] [(17, .slice A' (List.length b) c')] ?_
 refine xcr 18 cb (zsS (ziS (ziS zi0)) zs0) (fun A1 k1 => ?_)
 refine xcv 19 (ct_spec_l1Cmp (x) (y) (A0) (A1) (k0) (k1) sx' sy) (zsS (ziS zi0) (zsS zi0 zs0)) ?_
 refine xz [] [(21, .bool (decide (cmpN x y < 0)))] ?_
 refine xsf z1 ?_
 refine SW_skip ?_
 refine xg ?_
 refine xn 1 [] [(22, .slice A (List.length a) c)] ?_
 refine xcr 23 ca (zsS (ziS (ziS zi0)) zs0) (fun A2 k2 => ?_)
 refine xn 3 [] [(24, .slice A' (List.length b) c')] ?_
 refine xcr 25 cb (zsS (ziS (ziS (ziS (ziS zi0)))) zs0) (fun A3 k3 => ?_)
 refine xcr 26 (ct_spec_l1Sub (x) (y) (A2) (A3) (k2) (k3) sx' h) (zsS (ziS zi0) (zsS zi0 zs0)) (fun A4 k4 => ?_)
 refine xcr 27 (ct_spec_l1Out (x - y) (A4) (k4) sxy) (zsS zi0 zs0) (fun A5 k5 => ?_)
 refine xz [] [(5, .bool true), (4, .slice A5 (List.length (ofN B64 (x - y))) k5)] ?_
 refine SW_ret ?_
 refine xe (A5, k5) (.tuple #[.slice A5 (List.length (ofN B64 (x - y))) k5, .bool true]) [] ?_ (zsS zi0 zs0)
 rfl
end Go.Proofs.YtgknelgplmohoaaDoor.M
end
section
namespace Go.Proofs.YtgknelgplmohoaaDoor.M
open Go.RowKit Go.Proofs.YtgknelgplmohoaaDoor.G Go.Proofs.YtgknelgplmohoaaDoorV.PrintWords Go.Proofs.YtgknelgplmohoaaDoorV.PrintLast Go.Proofs.YtgknelgplmohoaaDoor.X
set_option linter.unusedVariables false
set_option linter.unusedSimpArgs false
def nx (bt : List Int) (i : Nat) : Nat := if i < bt.length then (rd bt (i : Int)).toNat else 0
end Go.Proofs.YtgknelgplmohoaaDoor.M
end
section
namespace Go.Proofs.YtgknelgplmohoaaDoor.M
open Go.RowKit Go.Proofs.YtgknelgplmohoaaDoor.G Go.Proofs.YtgknelgplmohoaaDoorV.PrintWords Go.Proofs.YtgknelgplmohoaaDoorV.PrintLast Go.Proofs.YtgknelgplmohoaaDoor.X
set_option linter.unusedVariables false
set_option linter.unusedSimpArgs false
theorem ct_impl_allDigits (l : List Int) (hd : Dgs l) (hl : l.length ≤ 100000) (h0 : 0 < l.length) (A : Option Addr) (c : Nat) : CtV Tryd.prog 94 [.slice A l.length c] [Row .u8 A c l] (.bool true) := by
 refine ct_of Tryd.func94 rfl (by kernel_rfl) (fun B w0 => ?_)
 have z0 : decide ((l.length : Int) > 0) = true := decide_eq_true (by omega)
 refine xr [] [(2, .bool false)] ?_
 refine SW_seq ?_
 refine xr [] [(7, .int .i64 0), (6, .int .i64 (((List.length l) : Nat) : Int)), (5, .slice A (List.length l) c)] ?_
 refine SW_block ?_
 refine SW_loopn (fun m s => ∃ i : Nat, m + i = l.length ∧ Weak s ⟨[(0, .slice A l.length c), (5, .slice A l.length c), (6, .int .i64 (l.length : Int)), (7, .int .i64 (i : Int))], [], [Row .u8 A c l]⟩) l.length ⟨0, rfl, ?_⟩ (fun m s hI => ?_)
 ·exact xw (zsS zi0 zs0)
 ·obtain ⟨i, h1, hw⟩ := hI
  refine SW_weak hw ?_
  clear hw
  by_cases hi : i < l.length
  ·have z : decide ((i : Int) < (l.length : Int)) = true := decide_eq_true (by omega)
   obtain ⟨m, rfl⟩ : ∃ m', m = m' + 1 := ⟨m - 1, by omega⟩
   refine SW_know zi0 (fun w h => row_at h (by omega)) (fun ⟨ad, e⟩ => ?_)
   subst e
   have hy : 48 ≤ rd l (i : Int) ∧ rd l (i : Int) ≤ 57 := hd _ (List.mem_of_getElem? (rd_some hi))
   have vi : Ve (IntKind.i64.wrap ((i : Int) + 1)) ((i + 1 : Nat) : Int) := veI (by omega) (by omega)
   have z2 : decide (rd l (i : Int) < 48) = false := decide_eq_false (by omega)
   have z3 : decide (rd l (i : Int) > 57) = false := decide_eq_false (by omega)
   refine xr [] [(8, .bool (decide ((i : Int) < (((List.length l) : Nat) : Int))))] ?_
   refine SW_seq ?_
   refine xst z ?_
   refine SW_skip ?_
   refine SW_seq ?_
   refine SW_block ?_
   refine xg ?_
   refine xfi 9 5 (ad) (List.length l) (c) (i) IntKind.i64 ((i : Int)) ⟨rfl⟩ (by omega) ?_
   refine xfl 10 zi0 (i) (by omega) ?_
   refine xz [] [(4, .int .u8 (rd l (i : Int)))] ?_
   refine xg ?_
   refine xn 3 [] [(13, .bool (decide (rd l (i : Int) < 48)))] ?_
   refine xkf 13 z2 ?_
   refine xz [] [(16, .bool (decide (rd l (i : Int) > 57)))] ?_
   refine xsf z3 ?_
   refine SW_skip ?_
   refine SW_region ?_
   refine xve 17 IntKind.i64 (IntKind.wrap IntKind.i64 ((i : Int) + 1)) ((((i + 1) : Nat) : Int)) vi ?_
   refine xz [] [(7, .int .i64 (((i + 1) : Nat) : Int))] ?_
   refine ⟨m, by omega, i + 1, by omega, ?_⟩
   exact xw (zsS zi0 zs0)
  ·have z : decide ((i : Int) < (l.length : Int)) = false := decide_eq_false (by omega)
   refine xr [] [(8, .bool (decide ((i : Int) < (((List.length l) : Nat) : Int))))] ?_
   refine SW_seq ?_
   refine xsf z ?_
   refine SW_exit ?_
   refine xr [] [(2, .bool (decide ((((List.length l) : Nat) : Int) > 0)))] ?_
   refine SW_ret ?_
   refine xe () (.bool (decide ((((List.length l) : Nat) : Int) > 0))) [] ?_ trivial
   rw [z0]
theorem ct_impl_NatFromText (l : List Int) (hd : Dgs l) (hl : l.length ≤ 20000) (h0 : 0 < l.length) (A : Option Addr) (c : Nat) : CtRV Tryd.prog 29 [.slice A l.length c] [Row .u8 A c l] .u64 (ofN B64 (decV l)) (.bool true) := by
 have z : decide ((l.length : Int) > 20000) = false := decide_eq_false (by omega)
 have c1 := ct_impl_allDigits l hd (by omega) h0 A c
 have c2 := ct_impl_fromDigits l.length l (Nat.le_refl _) (by omega) hd A c
 refine ct_of Tryd.func29 rfl (by kernel_rfl) (fun B w0 => ?_)
 refine xr [] [(3, .bool false), (2, .slice none 0 0)] ?_
 refine SW_seq ?_
 refine xg ?_
 refine xn 4 [] [(7, .bool (decide ((((List.length l) : Nat) : Int) > 20000)))] ?_
 refine xkf 7 z ?_
 refine xn 5 [] [(8, .slice A (List.length l) c)] ?_
 refine xcv 9 c1 (zsS zi0 zs0) ?_
 refine xz [] [(11, .bool false)] ?_
 refine xs0 ?_
 refine SW_skip ?_
 refine xg ?_
 refine xn 1 [] [(12, .slice A (List.length l) c)] ?_
 refine xcr 13 c2 (zsS zi0 zs0) (fun A0 k0 => ?_)
 refine xz [] [(3, .bool true), (2, .slice A0 (List.length (ofN B64 (decV l))) k0)] ?_
 refine SW_ret ?_
 refine xe (A0, k0) (.tuple #[.slice A0 (List.length (ofN B64 (decV l))) k0, .bool true]) [] ?_ (zsS zi0 zs0)
 rfl
theorem ct_spec_NatAdd_rows (a b : List Int) (x y : Nat) (fa : Fr a x) (fb : Fr b y) (A A' : Option Addr) (c c' : Nat) : CtR Tryd.prog 34 [.slice A a.length c, .slice A' b.length c'] [Row .u64 A c a, Row .u64 A' c' b] .u64 (ofN B64 (x + y)) := by
 have la := decide_eq_true fa.l
 have lb := decide_eq_true fb.l
 have s1 := fa.sm
 have s2 := fb.sm
 obtain ⟨m, hm, hm1⟩ := fa.bits
 obtain ⟨n, hn, hn1⟩ := fb.bits
 have s3 : Sm (x + y) := by
  obtain ⟨E, hE⟩ : ∃ E : Nat, E = 76800 := ⟨_, rfl⟩
  have h1 := Nat.lt_of_lt_of_le hm.1 (Nat.pow_le_pow_right (by decide : 2 > 0) (show m ≤ E by omega))
  have h2 := Nat.lt_of_lt_of_le hn.1 (Nat.pow_le_pow_right (by decide : 2 > 0) (show n ≤ E by omega))
  refine Sm.of (k := E + 1) ?_ (by omega)
  rw [Nat.pow_succ]
  omega
 have ca := fa.sIn A c
 have cb := fb.sIn A' c'
 refine ct_of Tryd.func34 rfl (by kernel_rfl) (fun B w0 => ?_)
 refine xr [] [(4, .slice none 0 0)] ?_
 refine SW_seq ?_
 refine xg ?_
 refine xn 1 [] [(5, .slice A (List.length a) c)] ?_
 refine xcv 6 (ct_spec_l1Fits (List.length a) (c) (A) (true) la) zs0 ?_
 refine xn 5 [] [(9, .slice A' (List.length b) c'), (8, .bool false)] ?_
 refine xcv 10 (ct_spec_l1Fits (List.length b) (c') (A') (true) lb) zs0 ?_
 refine xz [] [(12, .bool false)] ?_
 refine xs0 ?_
 refine SW_skip ?_
 refine xg ?_
 refine xn 1 [] [(13, .slice A (List.length a) c)] ?_
 refine xcr 14 ca (zsS zi0 zs0) (fun A0 k0 => ?_)
 refine xn 3 [] [(15, .slice A' (List.length b) c')] ?_
 refine xcr 16 cb (zsS (ziS (ziS zi0)) zs0) (fun A1 k1 => ?_)
 refine xcr 17 (ct_spec_l1Add (x) (y) (A0) (A1) (k0) (k1) s1 s2) (zsS (ziS zi0) (zsS zi0 zs0)) (fun A2 k2 => ?_)
 refine xcr 18 (ct_spec_l1Out (x + y) (A2) (k2) s3) (zsS zi0 zs0) (fun A3 k3 => ?_)
 refine xz [] [(4, .slice A3 (List.length (ofN B64 (x + y))) k3)] ?_
 refine SW_ret ?_
 refine xe (A3, k3) (.slice A3 (List.length (ofN B64 (x + y))) k3) [] ?_ (zsS zi0 zs0)
 rfl
end Go.Proofs.YtgknelgplmohoaaDoor.M
end
section
namespace Go.Proofs.YtgknelgplmohoaaDoor.M
open Go.RowKit Go.Proofs.YtgknelgplmohoaaDoor.G Go.Proofs.YtgknelgplmohoaaDoorV.PrintWords Go.Proofs.YtgknelgplmohoaaDoorV.PrintLast Go.Proofs.YtgknelgplmohoaaDoor.X
set_option linter.unusedVariables false
set_option linter.unusedSimpArgs false
theorem ct_spec_l1Reader_next (g : Nat) (A : Option Addr) (c : Nat) (bt : List Int) (a : Int) (i : Nat) (ha : Nn a i) (hi : i ≤ bt.length) (hx : bt.length ≤ 1048576) (dx : Dig 256 bt) :
  CtM Tryd.prog 37 [.pointer (some ⟨g, 0, none⟩)] [⟨g, [.slice A bt.length c, .int .i64 a], 74⟩] [Row .u8 A c bt] (γ := {p : Nat × Nat // p.1 ≤ bt.length ∧ p.2 < 256}) (fun p => .int .i64 (p.1.2 : Int)) (fun p => [⟨g, [.slice A bt.length c, .int .i64 (p.1.1 : Int)], 74⟩]) (fun _ => []) := by
 obtain ⟨rfl⟩ := ha
 refine cm_of Tryd.func37 rfl (by kernel_rfl) (fun B w0 => ?_)
 by_cases h : i < bt.length
 ·have z : decide ((i : Int) ≥ (bt.length : Int)) = false := decide_eq_false (by omega)
  refine SW_know zi0 (fun w h => row_at h (by omega)) (fun ⟨ad, e⟩ => ?_)
  subst e
  have v1 : Ve (IntKind.i64.wrap ((i : Int) + 1)) ((i + 1 : Nat) : Int) := ⟨by rw [wrap_i64 (by omega)]; rfl⟩
  have hd := dx.rd (by decide) (i : Int)
  have v2 : Ve (IntKind.i64.wrap (rd bt (i : Int))) (rd bt (i : Int)).toNat := ⟨by rw [wrap_i64 (by omega)]; omega⟩
  refine xr [] [(2, .int .i64 0)] ?_
  refine SW_seq ?_
  refine xd (fun hB => ?_)
  refine xdk [(0, []), (1, []), (2, []), (3, [0]), (4, []), (5, []), (6, []), (7, [0]), (8, []), (9, [])] [(13, .bool (decide ((i : Int) ≥ (((List.length bt) : Nat) : Int))))] hB ?_
  refine xdz ?_
  refine xsf z ?_
  refine SW_skip ?_
  refine xd (fun hB => ?_)
  refine xdk [(0, []), (1, []), (2, []), (3, [0]), (4, []), (5, []), (6, []), (7, [0])] [(21, .int .i64 (i : Int)), (17, .slice (some ad) (List.length bt) c)] hB ?_
  refine xdfi 8 hB 22 5 (ad) (List.length bt) (c) (i) IntKind.i64 ((i : Int)) ⟨rfl⟩ (by omega) ?_
  refine xdfl 9 hB 23 zi0 (i) (by omega) ?_
  refine xdk [(10, [])] [(3, .int .u8 (rd bt (i : Int)))] hB ?_
  refine xdz ?_
  refine xg ?_
  refine xn 4 [(3, [0])] [(27, .int .i64 (i : Int)), (24, .pointer (some ⟨g, 0, none⟩))] ?_
  refine xve 28 IntKind.i64 (IntKind.wrap IntKind.i64 ((i : Int) + 1)) ((((i + 1) : Nat) : Int)) v1 ?_
  refine xy [(7, [0])] [] [(0, [.slice (some ad) (List.length bt) c, .int .i64 (((i + 1) : Nat) : Int)])] ?_
  refine xg ?_
  refine xn 1 [] [(31, .int .u8 (rd bt (i : Int)))] ?_
  refine xve 32 IntKind.i64 (IntKind.wrap IntKind.i64 (rd bt (i : Int))) ((((Int.toNat (rd bt (i : Int))) : Nat) : Int)) v2 ?_
  refine xz [] [(2, .int .i64 (((Int.toNat (rd bt (i : Int))) : Nat) : Int))] ?_
  refine SW_ret ?_
  refine xmeg (.int .i64 (((Int.toNat (rd bt (i : Int))) : Nat) : Int)) [] ?_
  exact ⟨⟨(i + 1, (rd bt (i : Int)).toNat), by dsimp only; omega, by dsimp only; omega⟩, [true], rfl, rfl, zs0⟩
 ·have z : decide ((i : Int) ≥ (bt.length : Int)) = true := decide_eq_true (by omega)
  refine xr [] [(2, .int .i64 0)] ?_
  refine SW_seq ?_
  refine xd (fun hB => ?_)
  refine xdk [(0, []), (1, []), (2, []), (3, [0]), (4, []), (5, []), (6, []), (7, [0]), (8, []), (9, [])] [(13, .bool (decide ((i : Int) ≥ (((List.length bt) : Nat) : Int))))] hB ?_
  refine xdz ?_
  refine xst z ?_
  refine xr [] [(2, .int .i64 0)] ?_
  refine SW_ret ?_
  refine xmeg (.int .i64 0) [] ?_
  exact ⟨⟨(i, 0), hi, Nat.succ_pos _⟩, [true], rfl, rfl, zs0⟩
theorem wrap_u64_nat (z : Int) : ∃ y : Nat, y < 18446744073709551616 ∧ IntKind.u64.wrap z = (y : Int) := by
 refine ⟨(IntKind.u64.wrap z).toNat, ?_, ?_⟩ <;> simp [IntKind.wrap, IntKind.bits, IntKind.signed] <;> omega
theorem ct_spec_l1Reader_wide (g : Nat) (A : Option Addr) (c : Nat) (bt : List Int) (a : Int) (i : Nat) (ha : Nn a i) (hi : i ≤ bt.length) (hx : bt.length ≤ 1048576) (dx : Dig 256 bt) :
  CtM Tryd.prog 98 [.pointer (some ⟨g, 0, none⟩)] [⟨g, [.slice A bt.length c, .int .i64 a], 74⟩] [Row .u8 A c bt] (γ := {p : Nat × Nat // p.1 ≤ bt.length ∧ p.2 < 18446744073709551616}) (fun p => .int .u64 (p.1.2 : Int)) (fun p => [⟨g, [.slice A bt.length c, .int .i64 (p.1.1 : Int)], 74⟩]) (fun _ => []) := by
 obtain ⟨rfl⟩ := ha
 refine cm_of Tryd.func98 rfl (by kernel_rfl) (fun B w0 => ?_)
 refine xr [] [(2, .int .u64 0)] ?_
 refine xr [] [(3, .int .u64 0)] ?_
 refine SW_seq ?_
 refine xr [] [(4, .int .i64 0)] ?_
 refine SW_block ?_
 refine SW_loopn (fun m s => ∃ (j i' x : Nat), m + j = 8 ∧ i' ≤ bt.length ∧ x < 18446744073709551616 ∧ Weak s ⟨[(0, .pointer (some ⟨g, 0, none⟩)), (3, .int .u64 (x : Int)), (4, .int .i64 (j : Int))], [⟨g, [.slice A bt.length c, .int .i64 (i' : Int)], 74⟩], [Row .u8 A c bt]⟩) 8 ⟨0, i, 0, rfl, hi, by decide, ?_⟩ (fun m s hI => ?_)
 ·exact xw (zsS zi0 zs0)
 ·obtain ⟨j, i', x, h1, h2, h3, hw⟩ := hI
  refine SW_weak hw ?_
  clear hw
  by_cases hj : j < 8
  ·have z : decide ((j : Int) < 8) = true := decide_eq_true (by omega)
   obtain ⟨m, rfl⟩ : ∃ m', m = m' + 1 := ⟨m - 1, by omega⟩
   have v1 : Ve (IntKind.i64.wrap ((j : Int) + 1)) ((j + 1 : Nat) : Int) := ⟨by rw [wrap_i64 (by omega)]; rfl⟩
   refine SW_seq ?_
   refine xr [] [(6, .bool (decide ((j : Int) < 8)))] ?_
   refine xst z ?_
   refine SW_skip ?_
   refine SW_seq ?_
   refine SW_block ?_
   refine SW_region ?_
   refine xn 3 [] [(11, .pointer (some ⟨g, 0, none⟩)), (10, .int .u64 (IntKind.wrap IntKind.u64 ((x : Int) * 2 ^ min (Int.toNat 8) (IntKind.bits IntKind.u64))))] ?_
   (refine xcm 12 [true] (ct_spec_l1Reader_next (g) (A) (c) (bt) (((i' : Nat) : Int)) (i') ⟨rfl⟩ h2 hx dx) (zsS zi0 zs0) (fun zz => ?_); obtain ⟨⟨z0, z1⟩, p2⟩ := zz)
   refine xz [] [(3, .int .u64 (IntKind.wrap IntKind.u64 (((BitVec.toNat (BitVec.ofInt (IntKind.bits IntKind.u64) (IntKind.wrap IntKind.u64 ((x : Int) * 2 ^ min (Int.toNat 8) (IntKind.bits IntKind.u64))) ||| BitVec.ofInt (IntKind.bits IntKind.u64) (IntKind.wrap IntKind.u64 (z1 : Int)))) : Nat) : Int)))] ?_
   refine SW_region ?_
   refine xn 1 [] [(7, .int .i64 (j : Int))] ?_
   refine xve 8 IntKind.i64 (IntKind.wrap IntKind.i64 ((j : Int) + 1)) ((((j + 1) : Nat) : Int)) v1 ?_
   refine xz [] [(4, .int .i64 (((j + 1) : Nat) : Int))] ?_
   obtain ⟨y, hy, ey⟩ := wrap_u64_nat ((BitVec.toNat (BitVec.ofInt IntKind.u64.bits (IntKind.u64.wrap ((x : Int) * 2 ^ min (Int.toNat 8) IntKind.u64.bits)) ||| BitVec.ofInt IntKind.u64.bits (IntKind.u64.wrap (z1 : Int))) : Nat) : Int)
   rw [ey]
   refine ⟨m, by omega, j + 1, z0, y, by omega, p2.1, hy, ?_⟩
   exact xw (zsS zi0 zs0)
  ·have z : decide ((j : Int) < 8) = false := decide_eq_false (by omega)
   refine SW_seq ?_
   refine xr [] [(6, .bool (decide ((j : Int) < 8)))] ?_
   refine xsf z ?_
   refine SW_exit ?_
   refine xr [] [(2, .int .u64 (x : Int))] ?_
   refine SW_ret ?_
   refine xmeg (.int .u64 (x : Int)) [] ?_
   exact ⟨⟨(i', x), h2, h3⟩, [true], rfl, rfl, zs0⟩
end Go.Proofs.YtgknelgplmohoaaDoor.M
end
section
namespace Go.Proofs.YtgknelgplmohoaaDoor.M
open Go.RowKit Go.Proofs.YtgknelgplmohoaaDoor.G Go.Proofs.YtgknelgplmohoaaDoorV.PrintWords Go.Proofs.YtgknelgplmohoaaDoorV.PrintLast Go.Proofs.YtgknelgplmohoaaDoor.X
set_option linter.unusedVariables false
set_option linter.unusedSimpArgs false
theorem ct_spec_l1Reader_format (g : Nat) (A : Option Addr) (c : Nat) (bt : List Int) (a : Int) (i : Nat) (ha : Nn a i) (hi : i ≤ bt.length) (hx : bt.length ≤ 1048576) (dx : Dig 256 bt) :
  CtM Tryd.prog 36 [.pointer (some ⟨g, 0, none⟩)] [⟨g, [.slice A bt.length c, .int .i64 a], 74⟩] [Row .u8 A c bt] (γ := {p : Nat × Int // p.1 ≤ bt.length ∧ -1000 ≤ p.2 ∧ p.2 ≤ 1000}) (fun p => .int .i64 p.1.2) (fun p => [⟨g, [.slice A bt.length c, .int .i64 (p.1.1 : Int)], 74⟩]) (fun _ => []) := by
 refine cm_of Tryd.func36 rfl (by kernel_rfl) (fun B w0 => ?_)
 refine xr [] [(2, .int .i64 0)] ?_
 refine xg ?_
 refine xn 1 [] [(4, .pointer (some ⟨g, 0, none⟩))] ?_
 (refine xcm 5 [true] (ct_spec_l1Reader_next (g) (A) (c) (bt) (a) (i) ha hi hx dx) (zsS zi0 zs0) (fun zz => ?_); obtain ⟨⟨z0, z1⟩, p2⟩ := zz)
 refine xz [] [(3, .int .i64 (z1 : Int))] ?_
 refine SW_seq ?_
 refine xr [] [(7, .bool (decide ((z1 : Int) ≥ 248)))] ?_
 refine xs (decide ((z1 : Int) ≥ 248)) (fun q0 => ?_) (fun q0 => ?_)
 ·have v1 : Ve (IntKind.i64.wrap ((z1 : Int) - 252)) ((z1 : Int) - 252) := ⟨wrap_i64 (by omega)⟩
  refine xg ?_
  refine xn 1 [] [(8, .int .i64 (z1 : Int))] ?_
  refine xve 9 IntKind.i64 (IntKind.wrap IntKind.i64 ((z1 : Int) - 252)) ((z1 : Int) - 252) v1 ?_
  refine xz [] [(2, .int .i64 ((z1 : Int) - 252))] ?_
  refine SW_ret ?_
  refine xmeg (.int .i64 ((z1 : Int) - 252)) [] ?_
  exact ⟨⟨(z0, (z1 : Int) - 252), p2.1, by dsimp only; omega, by dsimp only; omega⟩, [true], rfl, rfl, zs0⟩
 ·have v1 : Ve (Int.tmod (z1 : Int) 4) ((z1 % 4 : Nat) : Int) := ⟨by rw [Int.tmod_eq_emod_of_nonneg (by omega)]; omega⟩
  refine SW_skip ?_
  refine xg ?_
  refine xn 1 [] [(10, .int .i64 (z1 : Int))] ?_
  refine xve 11 IntKind.i64 (Int.tmod (z1 : Int) 4) ((((z1 % 4) : Nat) : Int)) v1 ?_
  refine xz [] [(2, .int .i64 (((z1 % 4) : Nat) : Int))] ?_
  refine SW_ret ?_
  refine xmeg (.int .i64 (((z1 % 4) : Nat) : Int)) [] ?_
  exact ⟨⟨(z0, ((z1 % 4 : Nat) : Int)), p2.1, by dsimp only; omega, by dsimp only; omega⟩, [true], rfl, rfl, zs0⟩
end Go.Proofs.YtgknelgplmohoaaDoor.M
end
section
namespace Go.Proofs.YtgknelgplmohoaaDoor.M
open Go.RowKit Go.Proofs.YtgknelgplmohoaaDoor.G Go.Proofs.YtgknelgplmohoaaDoorV.PrintWords Go.Proofs.YtgknelgplmohoaaDoorV.PrintLast Go.Proofs.YtgknelgplmohoaaDoor.X
set_option linter.unusedVariables false
set_option linter.unusedSimpArgs false
theorem packR_lt {P : Nat} {emin emax : Int} {W E : Nat} {ex : Bool} (h : Fmt2 P emin emax W E ex) {c : Int} {neg : Bool} {S : Nat} {q : Int} : (packR P emin emax W E ex c neg S q).1 < B128 := by
 have p3 := h.p3
 have w2 := h.w2
 have e0 : 0 < 2 ^ E := Nat.pow_pos (by decide)
 have z0 : 0 < 2 ^ (P - 1) := Nat.pow_pos (by decide)
 have key : ∀ w, packN P emax W E ex c neg S q = some w → w < B128 := by
  intro w hw
  have fin : ∀ neg lead e r, e < 2 ^ E → r < 2 ^ (P - 1) → makeN P W ex neg lead e r < B128 := fun neg lead e r he hr => Nat.lt_of_lt_of_le (makeN_lt h.toFmt neg lead e r he hr) (show 2 ^ W ≤ 2 ^ 128 from Nat.pow_le_pow_right (by decide) w2)
  unfold packN at hw
  split at hw
  ·cases hw
   exact fin _ _ _ _ e0 z0
  ·split at hw
   ·cases hw
    exact fin _ _ _ _ (by omega) z0
   ·split at hw
    ·cases hw
     exact fin _ _ _ _ (by omega) (Nat.pow_lt_pow_right (by decide) (by omega))
    ·split at hw
     ·split at hw
      ·rename_i hS
       cases hw
       exact fin _ _ _ _ e0 hS
      ·cases hw
     ·split at hw
      ·split at hw
       ·rename_i hS
        cases hw
        exact fin _ _ _ _ (by omega) (Nat.mod_lt _ z0)
       ·cases hw
      ·cases hw
 unfold packR
 split
 ·decide
 ·rename_i w hw
  split
  ·exact key w hw
  ·decide
theorem wrap_rng (z : Int) : -9223372036854775808 ≤ IntKind.i64.wrap z ∧ IntKind.i64.wrap z ≤ 9223372036854775807 := by
 simp [IntKind.wrap, IntKind.bits, IntKind.signed]
 omega
theorem hi_mk (x y : Nat) (hx : x < 18446744073709551616) (hy : y < 18446744073709551616) : hiI (y + x * 18446744073709551616) = (x : Int) := by
 unfold hiI
 omega
theorem lo_mk (x y : Nat) (hy : y < 18446744073709551616) : loI (y + x * 18446744073709551616) = (y : Int) := by
 unfold loI
 omega
theorem two_val' (x y : Nat) (hx : x < 18446744073709551616) (hy : y < 18446744073709551616) : Dig B64 [(x : Int), (y : Int)] ∧ val B64 [(x : Int), (y : Int)] = x + y * 18446744073709551616 := by
 refine ⟨Dig.cons (by unfold B64; omega) (Dig.cons (by unfold B64; omega) (Dig.nil _)), ?_⟩
 rw [val_cons, val_one]
 unfold B64
 rw [Int.toNat_natCast, Int.toNat_natCast]
 omega
theorem ct_spec_l1In' (g x y : Nat) (hx : x < 18446744073709551616) (hy : y < 18446744073709551616) : CtM Tryd.prog 49 [.slice (some ⟨g, 0, none⟩) 2 2] [⟨g, [.int .u64 (x : Int), .int .u64 (y : Int)], 26⟩] [] (γ := Option Addr × Nat) (fun p => .slice p.1 (ofN B32 (x + y * 18446744073709551616)).length p.2) (fun _ => []) (fun p => [Row .u64 p.1 p.2 (ofN B32 (x + y * 18446744073709551616))]) := by
 obtain ⟨d, v⟩ := two_val' x y hx hy
 obtain ⟨d2, n2, v2⟩ := ofN_spec B32_2 (x + y * 18446744073709551616)
 exact ctM_row (xs := [(x : Int), (y : Int)]) rfl (by simp) (by simp) (ct_spec_l1In_rows [(x : Int), (y : Int)] _ 2 d (by simp) _ d2 n2 (by rw [v2, v]))
theorem ct_spec_l1Reader_word (f : Int) (g : Nat) (A : Option Addr) (c : Nat) (bt : List Int) (a : Int) (i : Nat) (ha : Nn a i) (hi : i ≤ bt.length) (hx : bt.length ≤ 1048576) (dx : Dig 256 bt) :
  CtM Tryd.prog 38 [.pointer (some ⟨g, 0, none⟩), .int .i64 f] [⟨g, [.slice A bt.length c, .int .i64 a], 74⟩] [Row .u8 A c bt] (γ := {p : Nat × Nat // p.1 ≤ bt.length ∧ p.2 < B128}) (fun p => .agg #[.int .u64 (hiI p.1.2), .int .u64 (loI p.1.2)]) (fun p => [⟨g, [.slice A bt.length c, .int .i64 (p.1.1 : Int)], 74⟩]) (fun _ => []) := by
 obtain ⟨rfl⟩ := ha
 refine cm_of Tryd.func38 rfl (by kernel_rfl) (fun B w0 => ?_)
 -- the format that is drawn in
 obtain ⟨f', P, emin, emax, W, E, ex, r1, r2, r3, r4, r5, r6, d, hr, hf'⟩ : ∃ f' P emin emax W E ex r1 r2 r3 r4 r5 r6, FD f' P emin emax W E ex ∧ spec_Describe.f f = some (r1, r2, r3, r4, r5, r6) ∧ ((f = f' ∧ (P : Int) = r1 ∧ emin = r2 ∧ emax = r3 ∧ (W : Int) = r4 ∧ (E : Int) = r5 ∧ ex = r6) ∨ (f' = 1 ∧ r1 = 0)) := by
  rcases fd_or f with ⟨_, P, emin, emax, W, E, ex, d⟩ | ⟨_, hs, hl⟩
  ·exact ⟨f, P, emin, emax, W, E, ex, _, _, _, _, _, _, d, d.sf, .inl ⟨rfl, rfl, rfl, rfl, rfl, rfl, rfl⟩⟩
  ·exact ⟨1, 53, -1022, 1023, 64, 11, false, _, _, _, _, _, _, ⟨fmt2_1, by decide, rfl, rfl⟩, hs, .inr ⟨rfl, rfl⟩⟩
 have cd := spec_Describe.calls f _ _ _ _ _ _ hr
 have h := d.h
 have hF := h.toFmt
 have hs := d.sf
 have p0 := h.p0
 have p1 := h.p1
 have p3 := h.p3
 have m0 := h.m0
 have m1 := h.m1
 have zP : ((P : Int) == 0) = false := by rw [beq_eq_false_iff_ne]; omega
 refine xg ?_
 refine xb 4 [.int .u64 0, .int .u64 0] 28 (fun g0 => ?_)
 refine xz [] [] ?_
 refine xg ?_
 refine xn 1 [] [(14, .int .i64 f)] ?_
 refine xcv 15 cd zs0 ?_
 refine xb 5 [.int .i64 0, .int .i64 0, .int .i64 0, .int .i64 0, .int .i64 0, .bool false] 85 (fun g1 => ?_)
 refine xy [(3, [2])] [] [(2, [.int .i64 r1, .int .i64 r2, .int .i64 r3, .int .i64 r4, .int .i64 r5, .bool r6])] ?_
 refine SW_cut (fun s' => Weak s' ⟨[(0, .pointer (some ⟨g, 0, none⟩)), (1, .int .i64 f'), (4, .pointer (some ⟨g0, 0, none⟩)), (5, .pointer (some ⟨g1, 0, none⟩))], [⟨g, [.slice A bt.length c, .int .i64 (i : Int)], 74⟩, ⟨g0, [.int .u64 0, .int .u64 0], 28⟩, ⟨g1, [.int .i64 (P : Int), .int .i64 emin, .int .i64 emax, .int .i64 (W : Int), .int .i64 (E : Int), .bool ex], 85⟩], [Row .u8 A c bt]⟩) ?_ ?_
 ·rcases hf' with ⟨rfl, rfl, rfl, rfl, rfl, rfl, rfl⟩ | ⟨rfl, rfl⟩
  ·refine xr [(1, [2])] [(18, .bool ((P : Int) == 0))] ?_
   refine xsf zP ?_
   refine SW_skip ?_
   exact xw (zsS zi0 zs0)
  ·refine xr [(1, [2])] [(18, .bool true)] ?_
   refine xs1 ?_
   refine xg ?_
   refine xcv 19 (ct_spec_Describe (1) hs) zs0 ?_
   refine xy [(1, [2])] [] [(2, [.int .i64 (P : Int), .int .i64 emin, .int .i64 emax, .int .i64 (W : Int), .int .i64 (E : Int), .bool ex])] ?_
   refine xrl [] [(1, .int .i64 1)] ?_
   exact xw (zsS zi0 zs0)
 ·rintro s' hw
  refine SW_weak hw ?_
  clear hw
  have w1 : Ve (IntKind.i64.wrap (emin - (P : Int))) (emin - (P : Int)) := ⟨wrap_i64 (by omega)⟩
  have w2 : Ve (IntKind.i64.wrap (emin - (P : Int) + 1)) (emin - (P : Int) + 1) := ⟨wrap_i64 (by omega)⟩
  refine xg ?_
  refine xn 1 [] [(20, .pointer (some ⟨g, 0, none⟩))] ?_
  (refine xcm 21 [true] (ct_spec_l1Reader_next (g) (A) (c) (bt) ((i : Int)) (i) ⟨rfl⟩ hi hx dx) (zsS zi0 zs0) (fun zz => ?_); obtain ⟨⟨z4, z5⟩, p6⟩ := zz)
  refine xz [] [(6, .int .i64 (z5 : Int))] ?_
  refine xg ?_
  refine xn 1 [] [(22, .pointer (some ⟨g, 0, none⟩))] ?_
  (refine xcm 23 [true] (ct_spec_l1Reader_next (g) (A) (c) (bt) ((z4 : Int)) (z4) ⟨rfl⟩ (by omega) hx dx) (zsS zi0 zs0) (fun zz => ?_); obtain ⟨⟨z7, z8⟩, p9⟩ := zz)
  refine xz [] [(7, .bool (Int.tmod (z8 : Int) 3 == 1))] ?_
  refine xg ?_
  refine xn 2 [] [(27, .agg #[.int .i64 0, .bool (Int.tmod (z8 : Int) 3 == 1), .int .u64 0, .int .u64 0, .int .i64 0])] ?_
  refine xb 8 [.int .i64 0, .bool false, .int .u64 0, .int .u64 0, .int .i64 0] 33 (fun g2 => ?_)
  refine xy [(3, [3])] [] [(3, [.int .i64 0, .bool (Int.tmod (z8 : Int) 3 == 1), .int .u64 0, .int .u64 0, .int .i64 0])] ?_
  refine xg ?_
  refine xn 4 [(1, [2]), (3, [2])] [(31, .int .i64 (P : Int)), (29, .int .i64 emin)] ?_
  refine xve 32 IntKind.i64 (IntKind.wrap IntKind.i64 (emin - (P : Int))) (emin - (P : Int)) w1 ?_
  refine xve 33 IntKind.i64 (IntKind.wrap IntKind.i64 (emin - (P : Int) + 1)) (emin - (P : Int) + 1) w2 ?_
  refine xz [] [(9, .int .i64 (emin - (P : Int) + 1))] ?_
  generalize hnb : (Int.tmod (z8 : Int) 3 == 1) = nb
  have v12 : Ve (Int.tmod (z5 : Int) 12) ((z5 % 12 : Nat) : Int) := ⟨by rw [Int.tmod_eq_emod_of_nonneg (by omega)]; omega⟩
  have hq0 : -9223372036854775808 ≤ emin - (P : Int) + 1 ∧ emin - (P : Int) + 1 ≤ 9223372036854775807 := by omega
  have hb0 : 0 < B128 := by decide
  have hbv : ∀ x y : Nat, x < 18446744073709551616 → y < 18446744073709551616 → x + y * 18446744073709551616 < B128 := fun x y hx hy => by
   have : B128 = 340282366920938463463374607431768211456 := by decide
   omega
  have hsm : ∀ x y : Nat, x < 18446744073709551616 → y < 18446744073709551616 → Sm (x + y * 18446744073709551616) := fun x y hx hy => sm128 (Nat.lt_trans (hbv x y hx hy) (by decide))
  have hdv : ∀ x y n : Nat, x < 18446744073709551616 → y < 18446744073709551616 → (x + y * 18446744073709551616) / 2 ^ n < B128 := fun x y n hx hy => Nat.lt_of_le_of_lt (Nat.div_le_self _ _) (hbv x y hx hy)
  have hmv : ∀ x y n : Nat, x < 18446744073709551616 → y < 18446744073709551616 → (x + y * 18446744073709551616) % 2 ^ n < B128 := fun x y n hx hy => Nat.lt_of_le_of_lt (Nat.mod_le _ _) (hbv x y hx hy)
  have hw1 := h.w1
  have hW : W ≤ 128 := h.w2
  have hle : ∀ z : Nat, 129 - P + z % (P - 1) ≤ 100000000000 := fun z => by
   have := Nat.mod_lt z (show 0 < P - 1 by omega)
   omega
  have hN : ∀ z : Nat, Nn (IntKind.i64.wrap (((129 - P : Nat) : Int) + ((z % (P - 1) : Nat) : Int))) (129 - P + z % (P - 1)) := fun z => by
   have := Nat.mod_lt z (show 0 < P - 1 by omega)
   exact Nn.wrap (by omega) (by omega)
  have b128 : 2 ^ P < B128 := Nat.pow_lt_pow_right (a := 2) (n := 128) (by decide) (by omega)
  have v1 : Ve (IntKind.i64.wrap ((P : Int) - 1)) ((P - 1 : Nat) : Int) := ⟨by rw [wrap_i64 (by omega)]; omega⟩
  have v129 : Ve (IntKind.i64.wrap (129 - (P : Int))) ((129 - P : Nat) : Int) := ⟨by rw [wrap_i64 (by omega)]; omega⟩
  refine SW_cut (fun s' => ∃ (i' : Nat) (cc : Int) (n2 : Bool) (S : Nat) (q : Int), i' ≤ bt.length ∧ S < B128 ∧ (-9223372036854775808 ≤ q ∧ q ≤ 9223372036854775807) ∧ Weak2 s' ⟨[(0, .pointer (some ⟨g, 0, none⟩)), (1, .int .i64 f'), (4, .pointer (some ⟨g0, 0, none⟩)), (6, .int .i64 (z5 : Int)), (7, .bool nb), (8, .pointer (some ⟨g2, 0, none⟩)), (9, .int .i64 (emin - (P : Int) + 1))], [⟨g, [.slice A bt.length c, .int .i64 (i' : Int)], 74⟩, ⟨g0, [.int .u64 0, .int .u64 0], 28⟩, ⟨g2, [.int .i64 cc, .bool n2, .int .u64 (hiI S), .int .u64 (loI S), .int .i64 q], 33⟩], [Row .u8 A c bt]⟩) ?_ ?_
  ·refine xg ?_
   refine xn 1 [] [(34, .int .i64 (z5 : Int))] ?_
   refine xve 35 IntKind.i64 (Int.tmod (z5 : Int) 12) ((((z5 % 12) : Nat) : Int)) v12 ?_
   refine xz [] [] ?_
   refine SW_block ?_
   refine xr [] [(131, .bool ((((z5 % 12) : Nat) : Int) == 0))] ?_
   refine xs ((((z5 % 12) : Nat) : Int) == 0) (fun q0 => ?_) (fun q0 => ?_)
   ·refine xql [(1, [3])] [] [(3, [.int .i64 1, .bool nb, .int .u64 0, .int .u64 0, .int .i64 0])] ?_
    refine ⟨z7, 1, nb, 0, 0, p9.1, hb0, by decide, ?_⟩
    exact xw2 [true, true, false, true] (zsS zi0 zs0)
   ·refine xr [] [(134, .bool ((((z5 % 12) : Nat) : Int) == 1))] ?_
    refine xs ((((z5 % 12) : Nat) : Int) == 1) (fun q1 => ?_) (fun q1 => ?_)
    ·refine xql [(1, [3])] [] [(3, [.int .i64 4, .bool nb, .int .u64 0, .int .u64 0, .int .i64 0])] ?_
     refine ⟨z7, 4, nb, 0, 0, p9.1, hb0, by decide, ?_⟩
     exact xw2 [true, true, false, true] (zsS zi0 zs0)
    ·refine xr [] [(137, .bool ((((z5 % 12) : Nat) : Int) == 2))] ?_
     refine xs ((((z5 % 12) : Nat) : Int) == 2) (fun q2 => ?_) (fun q2 => ?_)
     ·refine xql [(1, [3])] [] [(3, [.int .i64 5, .bool false, .int .u64 0, .int .u64 0, .int .i64 0])] ?_
      refine ⟨z7, 5, false, 0, 0, p9.1, hb0, by decide, ?_⟩
      exact xw2 [true, true, false, true] (zsS zi0 zs0)
     ·refine xr [] [(140, .bool ((((z5 % 12) : Nat) : Int) == 3))] ?_
      refine xs ((((z5 % 12) : Nat) : Int) == 3) (fun q3 => ?_) (fun q3 => ?_)
      ·refine xq [(1, [3])] [] [(3, [.int .i64 2, .bool nb, .int .u64 0, .int .u64 0, .int .i64 0])] ?_
       refine xq [(2, [3])] [] [(3, [.int .i64 2, .bool nb, .int .u64 0, .int .u64 0, .int .i64 (emin - (P : Int) + 1)])] ?_
       refine xdml [false, true, true, true] (fun hB => ?_)
       refine xdk [(0, []), (2, []), (6, []), (7, [1]), (9, []), (11, []), (12, [1])] [(157, .int .i64 (P : Int)), (154, .pointer (some ⟨g, 0, none⟩)), (152, .int .i64 (P : Int)), (147, .pointer (some ⟨g, 0, none⟩)), (145, .pointer (some ⟨g, 0, none⟩))] hB ?_
       refine xdve 8 hB 153 IntKind.i64 (IntKind.wrap IntKind.i64 (129 - (P : Int))) ((((129 - P) : Nat) : Int)) v129 ?_
       refine xdve 13 hB 158 IntKind.i64 (IntKind.wrap IntKind.i64 ((P : Int) - 1)) ((((P - 1) : Nat) : Int)) v1 ?_
       (refine xdcm 1 146 [true] [false, true, true, true] (ct_spec_l1Reader_wide (g) (A) (c) (bt) ((z7 : Int)) (z7) ⟨rfl⟩ (by omega) hx dx) (zsS zi0 zs0) (zsS zi0 zs0) (fun zz => ?_); obtain ⟨⟨z10, z11⟩, p12⟩ := zz)
       (refine xdcm 3 148 [true] [false, true, true, true] (ct_spec_l1Reader_wide (g) (A) (c) (bt) ((z10 : Int)) (z10) ⟨rfl⟩ (by omega) hx dx) (zsS zi0 zs0) (zsS zi0 zs0) (fun zz => ?_); obtain ⟨⟨z13, z14⟩, p15⟩ := zz)
       refine xdbl 4 149 [.int .u64 (z11 : Int), .int .u64 (z14 : Int)] 26 2 (fun g3 => ?_)
       (refine xdcm 5 150 [false, false, false, false, true] [false, true, true, true, false] (ct_spec_l1In' (g3) (z11) (z14) (by omega) (by omega)) zs0 (zsS zi0 zs0) (fun zz => ?_); obtain ⟨z16, z17⟩ := zz)
       (refine xdcm 10 155 [true] [false, true, true, true] (ct_spec_l1Reader_next (g) (A) (c) (bt) ((z13 : Int)) (z13) ⟨rfl⟩ (by omega) hx dx) (zsS (ziS zi0) zs0) (zsS (ziS zi0) zs0) (fun zz => ?_); obtain ⟨⟨z18, z19⟩, p20⟩ := zz)
       refine xdqri 14 hB 159 ((z19 : Int)) ((((P - 1) : Nat) : Int)) ((z19)) ((P - 1)) ⟨rfl⟩ ⟨rfl⟩ (by omega) (by omega) ?_
       refine xdk [(15, [])] [(160, .int .i64 (IntKind.wrap IntKind.i64 ((((129 - P) : Nat) : Int) + (((z19 % (P - 1)) : Nat) : Int))))] hB ?_
       refine xdr 16 161 (ct_spec_l1Right (z11 + z14 * 18446744073709551616) (z16) (z17) (IntKind.wrap IntKind.i64 ((((129 - P) : Nat) : Int) + (((z19 % (P - 1)) : Nat) : Int))) (129 - P + z19 % (P - 1)) (hN _) (hle _) (hsm _ _ (by omega) (by omega))) (zsS zi0 zs0) (fun A0 k0 => ?_)
       refine xdv 17 162 (ct_spec_l2Word ((z11 + z14 * 18446744073709551616) / 2 ^ (129 - P + z19 % (P - 1))) (A0) (k0) (hdv _ _ _ (by omega) (by omega))) (zsS zi0 zs0) ?_
       refine xdk [(18, [])] [(163, .pointer (some ⟨g2, 2, none⟩))] hB ?_
       refine xds 19 [3] [(3, [.int .i64 2, .bool nb, .int .u64 (hiI ((z11 + z14 * 18446744073709551616) / 2 ^ (129 - P + z19 % (P - 1)))), .int .u64 (loI ((z11 + z14 * 18446744073709551616) / 2 ^ (129 - P + z19 % (P - 1)))), .int .i64 (emin - (P : Int) + 1)])] ?_
       refine xdz ?_
       refine ⟨z18, 2, nb, (z11 + z14 * 18446744073709551616) / 2 ^ (129 - P + z19 % (P - 1)), emin - (P : Int) + 1, p20.1, hdv _ _ _ p12.2 p15.2, hq0, ?_⟩
       exact xw2 [true, true, false, true] (zsS (ziS (ziS zi0)) zs0)
      ·refine xr [] [(164, .bool ((((z5 % 12) : Nat) : Int) == 4))] ?_
       refine xs ((((z5 % 12) : Nat) : Int) == 4) (fun q4 => ?_) (fun q4 => ?_)
       ·refine xg ?_
        refine xn 1 [] [(166, .pointer (some ⟨g, 0, none⟩))] ?_
        (refine xcm 167 [true] (ct_spec_l1Reader_wide (g) (A) (c) (bt) ((z7 : Int)) (z7) ⟨rfl⟩ (by omega) hx dx) (zsS zi0 zs0) (fun zz => ?_); obtain ⟨⟨z10, z11⟩, p12⟩ := zz)
        refine xn 3 [] [(168, .pointer (some ⟨g, 0, none⟩))] ?_
        (refine xcm 169 [true] (ct_spec_l1Reader_wide (g) (A) (c) (bt) ((z10 : Int)) (z10) ⟨rfl⟩ (by omega) hx dx) (zsS zi0 zs0) (fun zz => ?_); obtain ⟨⟨z13, z14⟩, p15⟩ := zz)
        refine xy [(5, [1])] [] [(1, [.int .u64 (z11 : Int), .int .u64 (z14 : Int)])] ?_
        refine SW_ret ?_
        refine xmeg (.agg #[.int .u64 (z11 : Int), .int .u64 (z14 : Int)]) [1] ?_
        exact ⟨⟨(z13, z14 + z11 * 18446744073709551616), p15.1, hbv z14 z11 p15.2 p12.2⟩, [true], by dsimp only; rw [hi_mk _ _ p12.2 p15.2, lo_mk _ _ p15.2], rfl, zs0⟩
       ·refine xr [] [(171, .bool ((((z5 % 12) : Nat) : Int) == 5))] ?_
        refine xs ((((z5 % 12) : Nat) : Int) == 5) (fun q5 => ?_) (fun q5 => ?_)
        ·refine xdm [false, true, true, true] (fun hB => ?_)
         refine xdk [(0, []), (2, []), (6, []), (7, [1])] [(180, .int .i64 (W : Int)), (175, .pointer (some ⟨g, 0, none⟩)), (173, .pointer (some ⟨g, 0, none⟩))] hB ?_
         (refine xdcm 1 174 [true] [false, true, true, true] (ct_spec_l1Reader_wide (g) (A) (c) (bt) ((z7 : Int)) (z7) ⟨rfl⟩ (by omega) hx dx) (zsS zi0 zs0) (zsS zi0 zs0) (fun zz => ?_); obtain ⟨⟨z10, z11⟩, p12⟩ := zz)
         (refine xdcm 3 176 [true] [false, true, true, true] (ct_spec_l1Reader_wide (g) (A) (c) (bt) ((z10 : Int)) (z10) ⟨rfl⟩ (by omega) hx dx) (zsS zi0 zs0) (zsS zi0 zs0) (fun zz => ?_); obtain ⟨⟨z13, z14⟩, p15⟩ := zz)
         refine xdbl 4 177 [.int .u64 (z11 : Int), .int .u64 (z14 : Int)] 26 2 (fun g3 => ?_)
         (refine xdcm 5 178 [false, false, false, false, true] [false, true, true, true, false] (ct_spec_l1In' (g3) (z11) (z14) (by omega) (by omega)) zs0 (zsS zi0 zs0) (fun zz => ?_); obtain ⟨z16, z17⟩ := zz)
         refine xdr 8 181 (ct_spec_l2Low (z11 + z14 * 18446744073709551616) (z16) (z17) ((W : Int)) (W) ⟨rfl⟩ (by omega) (hsm _ _ (by omega) (by omega))) (zsS zi0 zs0) (fun A0 k0 => ?_)
         refine xdv 9 182 (ct_spec_l2Word ((z11 + z14 * 18446744073709551616) % 2 ^ W) (A0) (k0) (hmv _ _ _ (by omega) (by omega))) (zsS zi0 zs0) ?_
         refine xds 10 [1] [(1, [.int .u64 (hiI ((z11 + z14 * 18446744073709551616) % 2 ^ W)), .int .u64 (loI ((z11 + z14 * 18446744073709551616) % 2 ^ W))])] ?_
         refine xdz ?_
         refine SW_ret ?_
         refine xmeg (.agg #[.int .u64 (hiI ((z11 + z14 * 18446744073709551616) % 2 ^ W)), .int .u64 (loI ((z11 + z14 * 18446744073709551616) % 2 ^ W))]) [1] ?_
         exact ⟨⟨(z13, (z11 + z14 * 18446744073709551616) % 2 ^ W), p15.1, hmv z11 z14 W p12.2 p15.2⟩, [true], rfl, rfl, zs0⟩
        ·refine xq [(1, [3])] [] [(3, [.int .i64 3, .bool nb, .int .u64 0, .int .u64 0, .int .i64 0])] ?_
         refine xg ?_
         refine xn 2 [(1, [2])] [(38, .int .i64 (P : Int))] ?_
         refine xve 39 IntKind.i64 (IntKind.wrap IntKind.i64 ((P : Int) - 1)) ((((P - 1) : Nat) : Int)) v1 ?_
         refine xcr 40 (ct_spec_l2Two ((((P - 1) : Nat) : Int)) (P - 1) ⟨rfl⟩ (by omega)) zs0 (fun A0 k0 => ?_)
         refine xz [] [(10, .slice A0 (List.length (ofN B32 (2 ^ (P - 1)))) k0)] ?_
         have sP : Sm (2 ^ P) := sm128 (Nat.lt_of_lt_of_le b128 (by decide))
         have sP1 : Sm (2 ^ (P - 1)) := sP.mono (Nat.pow_le_pow_right (by decide) (by omega))
         have hc3 : ∀ z : Nat, Nn (IntKind.u64.wrap (IntKind.i64.wrap (1 + Int.tmod (z : Int) 3))) (1 + z % 3) := fun z => by
          have e : Int.tmod (z : Int) 3 = ((z % 3 : Nat) : Int) := by rw [Int.tmod_eq_emod_of_nonneg (by omega)]; omega
          rw [e]
          exact Nn.u (Nn.wrap (by omega) (by omega)) (by omega)
         have hc4 : ∀ z : Nat, Nn (IntKind.u64.wrap (Int.tmod (z : Int) 4)) (z % 4) := fun z => by
          have e : Int.tmod (z : Int) 4 = ((z % 4 : Nat) : Int) := by rw [Int.tmod_eq_emod_of_nonneg (by omega)]; omega
          rw [e]
          exact Nn.u ⟨rfl⟩ (by omega)
         have hs3 : ∀ z : Nat, Sm (1 + z % 3) := fun z => sm128 (Nat.lt_trans (show 1 + z % 3 < 4 by omega) (by decide))
         have hs4 : ∀ z : Nat, Sm (z % 4) := fun z => sm128 (Nat.lt_trans (show z % 4 < 4 by omega) (by decide))
         have hsl : ∀ z : Nat, Sm (z % 2 ^ (P - 1)) := fun z => sP1.mono (Nat.le_of_lt (Nat.mod_lt _ (Nat.pow_pos (by decide))))
         have hl3 : ∀ z : Nat, 1 + z % 3 ≤ 2 ^ P := fun z => by
          have h1 : 1 + z % 3 ≤ 2 ^ 2 := by omega
          exact Nat.le_trans h1 (Nat.pow_le_pow_right (by decide) p0)
         have b128' := b128
         have t2 := two_P hF
         have hl4 : ∀ z : Nat, 2 ^ (P - 1) + z % 2 ^ (P - 1) < B128 := fun z => by
          have := Nat.mod_lt z (Nat.pow_pos (n := P - 1) (show 0 < 2 by decide))
          omega
         have hP1 : 2 ^ (P - 1) < B128 := Nat.lt_of_le_of_lt (Nat.pow_le_pow_right (by decide) (by omega)) b128
         have t2 := two_P hF
         have hP113 : 2 ^ P ≤ 2 ^ 113 := Nat.pow_le_pow_right (by decide) p1
         have pd : (2 : Nat) ^ 113 + 2 ^ 113 < B128 := by decide
         have hp4 : 4 ≤ 2 ^ (P - 1) := (show 2 ^ 2 ≤ 2 ^ (P - 1) from Nat.pow_le_pow_right (by decide) (by omega))
         refine SW_cut (fun s' => ∃ (i' : Nat) (Sg : Nat) (A1 : Option Addr) (c1 : Nat), i' ≤ bt.length ∧ Sg < B128 ∧ Weak2 s' ⟨[(0, .pointer (some ⟨g, 0, none⟩)), (1, .int .i64 f'), (4, .pointer (some ⟨g0, 0, none⟩)), (5, .pointer (some ⟨g1, 0, none⟩)), (6, .int .i64 (z5 : Int)), (7, .bool nb), (8, .pointer (some ⟨g2, 0, none⟩)), (9, .int .i64 (emin - (P : Int) + 1)), (10, .slice A1 (ofN B32 Sg).length c1)], [⟨g, [.slice A bt.length c, .int .i64 (i' : Int)], 74⟩, ⟨g0, [.int .u64 0, .int .u64 0], 28⟩, ⟨g1, [.int .i64 (P : Int), .int .i64 emin, .int .i64 emax, .int .i64 (W : Int), .int .i64 (E : Int), .bool ex], 85⟩, ⟨g2, [.int .i64 3, .bool nb, .int .u64 0, .int .u64 0, .int .i64 0], 33⟩], [Row .u8 A c bt, Row .u64 A1 c1 (ofN B32 Sg)]⟩) ?_ ?_
         ·refine xg ?_
          refine xn 1 [] [(41, .pointer (some ⟨g, 0, none⟩))] ?_
          (refine xcm 42 [true] (ct_spec_l1Reader_next (g) (A) (c) (bt) ((z7 : Int)) (z7) ⟨rfl⟩ (by omega) hx dx) (zsS (ziS zi0) zs0) (fun zz => ?_); obtain ⟨⟨z10, z11⟩, p12⟩ := zz)
          refine xz [] [(43, .int .i64 (Int.tmod (z11 : Int) 5))] ?_
          refine SW_block ?_
          refine xr [] [(56, .bool (Int.tmod (z11 : Int) 5 == 0))] ?_
          refine xs (Int.tmod (z11 : Int) 5 == 0) (fun q6 => ?_) (fun q6 => ?_)
          ·refine SW_skip ?_
           refine ⟨(z10), (2 ^ (P - 1)), (A0), (k0), ?_, ?_, xw2 [true, true, true, true] (zsS (ziS zi0) (zsS zi0 zs0))⟩
           ·omega
           ·exact hP1
          ·refine xr [] [(58, .bool (Int.tmod (z11 : Int) 5 == 1))] ?_
           refine xs (Int.tmod (z11 : Int) 5 == 1) (fun q7 => ?_) (fun q7 => ?_)
           ·refine SW_region ?_
            refine xn 2 [(1, [2])] [(61, .int .i64 (P : Int))] ?_
            refine xcr 62 (ct_spec_l2Two ((P : Int)) (P) ⟨rfl⟩ (by omega)) zs0 (fun A1 k1 => ?_)
            refine xn 4 [] [(63, .pointer (some ⟨g, 0, none⟩))] ?_
            (refine xcm 64 [true] (ct_spec_l1Reader_next (g) (A) (c) (bt) ((z10 : Int)) (z10) ⟨rfl⟩ (by omega) hx dx) (zsS (ziS (ziS zi0)) zs0) (fun zz => ?_); obtain ⟨⟨z13, z14⟩, p15⟩ := zz)
            refine xn 8 [] [(67, .int .u64 (IntKind.wrap IntKind.u64 (IntKind.wrap IntKind.i64 (1 + Int.tmod (z14 : Int) 3))))] ?_
            refine xcr 68 (ct_spec_l1Of (IntKind.wrap IntKind.u64 (IntKind.wrap IntKind.i64 (1 + Int.tmod (z14 : Int) 3))) (1 + z14 % 3) (hc3 _) (by omega)) zs0 (fun A2 k2 => ?_)
            refine xcr 69 (ct_spec_l1Sub (2 ^ P) (1 + z14 % 3) (A1) (A2) (k1) (k2) sP (hl3 _)) (zsS (ziS zi0) (zsS zi0 zs0)) (fun A3 k3 => ?_)
            refine xz [] [(10, .slice A3 (List.length (ofN B32 (2 ^ P - (1 + z14 % 3)))) k3)] ?_
            refine ⟨(z13), (2 ^ P - (1 + z14 % 3)), (A3), (k3), ?_, ?_, xw2 [true, true, true, true] (zsS (ziS (ziS (ziS (ziS zi0)))) (zsS zi0 zs0))⟩
            ·omega
            ·omega
           ·refine xr [] [(70, .bool (Int.tmod (z11 : Int) 5 == 2))] ?_
            refine xs (Int.tmod (z11 : Int) 5 == 2) (fun q8 => ?_) (fun q8 => ?_)
            ·refine SW_region ?_
             refine xn 2 [] [(73, .pointer (some ⟨g, 0, none⟩)), (72, .slice A0 (List.length (ofN B32 (2 ^ (P - 1)))) k0)] ?_
             (refine xcm 74 [true] (ct_spec_l1Reader_next (g) (A) (c) (bt) ((z10 : Int)) (z10) ⟨rfl⟩ (by omega) hx dx) (zsS (ziS zi0) zs0) (fun zz => ?_); obtain ⟨⟨z13, z14⟩, p15⟩ := zz)
             refine xn 5 [] [(76, .int .u64 (IntKind.wrap IntKind.u64 (Int.tmod (z14 : Int) 4)))] ?_
             refine xcr 77 (ct_spec_l1Of (IntKind.wrap IntKind.u64 (Int.tmod (z14 : Int) 4)) (z14 % 4) (hc4 _) (by omega)) zs0 (fun A1 k1 => ?_)
             refine xcr 78 (ct_spec_l1Add (2 ^ (P - 1)) (z14 % 4) (A0) (A1) (k0) (k1) sP1 (hs4 _)) (zsS (ziS zi0) (zsS zi0 zs0)) (fun A2 k2 => ?_)
             refine xz [] [(10, .slice A2 (List.length (ofN B32 (2 ^ (P - 1) + z14 % 4))) k2)] ?_
             refine ⟨(z13), (2 ^ (P - 1) + z14 % 4), (A2), (k2), ?_, ?_, xw2 [true, true, true, true] (zsS (ziS (ziS (ziS zi0))) (zsS zi0 zs0))⟩
             ·omega
             ·omega
            ·refine xdml [false, true, true, true] (fun hB => ?_)
             refine xdk [(0, []), (1, []), (3, []), (7, []), (8, [1])] [(52, .int .i64 (P : Int)), (47, .pointer (some ⟨g, 0, none⟩)), (45, .pointer (some ⟨g, 0, none⟩)), (44, .slice A0 (List.length (ofN B32 (2 ^ (P - 1)))) k0)] hB ?_
             refine xdve 9 hB 53 IntKind.i64 (IntKind.wrap IntKind.i64 ((P : Int) - 1)) ((((P - 1) : Nat) : Int)) v1 ?_
             (refine xdcm 2 46 [true] [false, true, true, true] (ct_spec_l1Reader_wide (g) (A) (c) (bt) ((z10 : Int)) (z10) ⟨rfl⟩ (by omega) hx dx) (zsS (ziS zi0) zs0) (zsS zi0 (zsS (ziS zi0) zs0)) (fun zz => ?_); obtain ⟨⟨z13, z14⟩, p15⟩ := zz)
             (refine xdcm 4 48 [true] [false, true, true, true] (ct_spec_l1Reader_wide (g) (A) (c) (bt) ((z13 : Int)) (z13) ⟨rfl⟩ (by omega) hx dx) (zsS (ziS zi0) zs0) (zsS zi0 (zsS (ziS zi0) zs0)) (fun zz => ?_); obtain ⟨⟨z16, z17⟩, p18⟩ := zz)
             refine xdbl 5 49 [.int .u64 (z14 : Int), .int .u64 (z17 : Int)] 26 2 (fun g3 => ?_)
             (refine xdcm 6 50 [false, false, false, false, true] [false, true, true, true, false] (ct_spec_l1In' (g3) (z14) (z17) (by omega) (by omega)) zs0 (zsS zi0 (zsS (ziS zi0) zs0)) (fun zz => ?_); obtain ⟨z19, z20⟩ := zz)
             refine xdr 10 54 (ct_spec_l2Low (z14 + z17 * 18446744073709551616) (z19) (z20) ((((P - 1) : Nat) : Int)) (P - 1) ⟨rfl⟩ (by omega) (hsm _ _ (by omega) (by omega))) (zsS zi0 zs0) (fun A1 k1 => ?_)
             refine xdr 11 55 (ct_spec_l1Add (2 ^ (P - 1)) ((z14 + z17 * 18446744073709551616) % 2 ^ (P - 1)) (A0) (A1) (k0) (k1) sP1 (hsl _)) (zsS (ziS (ziS zi0)) (zsS zi0 zs0)) (fun A2 k2 => ?_)
             refine xdk [(12, [])] [(10, .slice A2 (List.length (ofN B32 (2 ^ (P - 1) + (z14 + z17 * 18446744073709551616) % 2 ^ (P - 1)))) k2)] hB ?_
             refine xdz ?_
             refine ⟨(z16), (2 ^ (P - 1) + (z14 + z17 * 18446744073709551616) % 2 ^ (P - 1)), (A2), (k2), ?_, ?_, xw2 [true, true, true, true] (zsS (ziS (ziS (ziS (ziS zi0)))) (zsS zi0 zs0))⟩
             ·omega
             ·exact hl4 _
         ·rintro s' ⟨i', Sg, A1, c1, hi', hSg, hw⟩
          refine SW_weak2 hw ?_
          clear hw
          have sSg : Sm Sg := sm128 (Nat.lt_trans hSg (by decide))
          have vd : Nn (IntKind.i64.wrap (IntKind.i64.wrap (emax - emin) + 1)) (emax - emin + 1).toNat := Nn.wrap (by rw [wrap_i64 (by omega)]; have h1 := h.mn; have h2 := d.x1; omega) (by omega)
          have hd0 : 0 < (emax - emin + 1).toNat := by have := h.mn; have := d.x1; omega
          refine xg ?_
          refine xn 1 [] [(79, .slice A1 (List.length (ofN B32 Sg)) c1)] ?_
          refine xcv 80 (ct_spec_l2Word (Sg) (A1) (c1) hSg) (zsS (ziS zi0) zs0) ?_
          refine xy [(3, [3])] [] [(3, [.int .i64 3, .bool nb, .int .u64 (hiI Sg), .int .u64 (loI Sg), .int .i64 0])] ?_
          refine xg ?_
          refine xn 1 [] [(82, .pointer (some ⟨g, 0, none⟩))] ?_
          (refine xcm 83 [true] (ct_spec_l1Reader_next (g) (A) (c) (bt) (((i' : Nat) : Int)) (i') ⟨rfl⟩ hi' hx dx) (zsS zi0 zs0) (fun zz => ?_); obtain ⟨⟨z10, z11⟩, p12⟩ := zz)
          refine xn 4 [] [(85, .pointer (some ⟨g, 0, none⟩)), (84, .int .i64 (IntKind.wrap IntKind.i64 ((z11 : Int) * 256)))] ?_
          (refine xcm 86 [true] (ct_spec_l1Reader_next (g) (A) (c) (bt) ((z10 : Int)) (z10) ⟨rfl⟩ (by omega) hx dx) (zsS zi0 zs0) (fun zz => ?_); obtain ⟨⟨z13, z14⟩, p15⟩ := zz)
          refine xz [] [(11, .int .i64 (IntKind.wrap IntKind.i64 (IntKind.wrap IntKind.i64 ((z11 : Int) * 256) + (z14 : Int))))] ?_
          refine xg ?_
          refine xn 1 [] [(88, .pointer (some ⟨g, 0, none⟩))] ?_
          (refine xcm 89 [true] (ct_spec_l1Reader_next (g) (A) (c) (bt) ((z13 : Int)) (z13) ⟨rfl⟩ (by omega) hx dx) (zsS zi0 zs0) (fun zz => ?_); obtain ⟨⟨z16, z17⟩, p18⟩ := zz)
          refine xz [] [(90, .int .i64 (Int.tmod (z17 : Int) 4))] ?_
          refine SW_block ?_
          refine xr [] [(102, .bool (Int.tmod (z17 : Int) 4 == 0))] ?_
          refine xs (Int.tmod (z17 : Int) 4 == 0) (fun q6 => ?_) (fun q6 => ?_)
          ·refine xql [(4, [2]), (8, [3])] [] [(3, [.int .i64 3, .bool nb, .int .u64 (hiI Sg), .int .u64 (loI Sg), .int .i64 (IntKind.wrap IntKind.i64 (IntKind.wrap IntKind.i64 (IntKind.wrap IntKind.i64 (Int.tmod (IntKind.wrap IntKind.i64 (IntKind.wrap IntKind.i64 ((z11 : Int) * 256) + (z14 : Int))) 120 - 60) - (P : Int)) + 1))])] ?_
           refine ⟨(z16), (3 : Int), (nb), (Sg), (IntKind.wrap IntKind.i64 (IntKind.wrap IntKind.i64 (IntKind.wrap IntKind.i64 (Int.tmod (IntKind.wrap IntKind.i64 (IntKind.wrap IntKind.i64 ((z11 : Int) * 256) + (z14 : Int))) 120 - 60) - (P : Int)) + 1) : Int), ?_, ?_, ?_, xw2 [true, true, false, true] (zsS zi0 zs0)⟩
           ·omega
           ·exact hSg
           ·exact wrap_rng _
          ·refine xr [] [(112, .bool (Int.tmod (z17 : Int) 4 == 1))] ?_
           refine xs (Int.tmod (z17 : Int) 4 == 1) (fun q7 => ?_) (fun q7 => ?_)
           ·refine xql [(5, [3])] [] [(3, [.int .i64 3, .bool nb, .int .u64 (hiI Sg), .int .u64 (loI Sg), .int .i64 (IntKind.wrap IntKind.i64 (emin - (P : Int) + 1 + Int.tmod (IntKind.wrap IntKind.i64 (IntKind.wrap IntKind.i64 ((z11 : Int) * 256) + (z14 : Int))) 3))])] ?_
            refine ⟨(z16), (3 : Int), (nb), (Sg), (IntKind.wrap IntKind.i64 (emin - (P : Int) + 1 + Int.tmod (IntKind.wrap IntKind.i64 (IntKind.wrap IntKind.i64 ((z11 : Int) * 256) + (z14 : Int))) 3) : Int), ?_, ?_, ?_, xw2 [true, true, false, true] (zsS zi0 zs0)⟩
            ·omega
            ·exact hSg
            ·exact wrap_rng _
           ·refine xr [] [(119, .bool (Int.tmod (z17 : Int) 4 == 2))] ?_
            refine xs (Int.tmod (z17 : Int) 4 == 2) (fun q8 => ?_) (fun q8 => ?_)
            ·refine xql [(1, [2]), (3, [2]), (10, [3])] [] [(3, [.int .i64 3, .bool nb, .int .u64 (hiI Sg), .int .u64 (loI Sg), .int .i64 (IntKind.wrap IntKind.i64 (IntKind.wrap IntKind.i64 (IntKind.wrap IntKind.i64 (emax - (P : Int)) + 1) - Int.tmod (IntKind.wrap IntKind.i64 (IntKind.wrap IntKind.i64 ((z11 : Int) * 256) + (z14 : Int))) 3))])] ?_
             refine ⟨(z16), (3 : Int), (nb), (Sg), (IntKind.wrap IntKind.i64 (IntKind.wrap IntKind.i64 (IntKind.wrap IntKind.i64 (emax - (P : Int)) + 1) - Int.tmod (IntKind.wrap IntKind.i64 (IntKind.wrap IntKind.i64 ((z11 : Int) * 256) + (z14 : Int))) 3) : Int), ?_, ?_, ?_, xw2 [true, true, false, true] (zsS zi0 zs0)⟩
             ·omega
             ·exact hSg
             ·exact wrap_rng _
            ·refine SW_region ?_
             refine xn 8 [(3, [2]), (5, [2])] [(98, .int .i64 (IntKind.wrap IntKind.i64 (IntKind.wrap IntKind.i64 (emax - emin) + 1))), (92, .int .i64 (IntKind.wrap IntKind.i64 (IntKind.wrap IntKind.i64 ((z11 : Int) * 256) + (z14 : Int)))), (91, .int .i64 (emin - (P : Int) + 1))] ?_
             refine xqri 99 (IntKind.wrap IntKind.i64 (IntKind.wrap IntKind.i64 ((z11 : Int) * 256) + (z14 : Int))) (IntKind.wrap IntKind.i64 (IntKind.wrap IntKind.i64 (emax - emin) + 1)) ((((z11) * 256) + (z14))) ((Int.toNat (emax - emin + 1))) (Nn.w (Nn.add (Nn.w (Nn.mul ⟨rfl⟩ ⟨rfl⟩) (by omega)) ⟨rfl⟩) (by omega)) vd (by omega) (by omega) ?_
             refine xy [(11, [3])] [] [(3, [.int .i64 3, .bool nb, .int .u64 (hiI Sg), .int .u64 (loI Sg), .int .i64 (IntKind.wrap IntKind.i64 (emin - (P : Int) + 1 + ((((z11 * 256 + z14) % Int.toNat (emax - emin + 1)) : Nat) : Int)))])] ?_
             refine ⟨(z16), (3 : Int), (nb), (Sg), (IntKind.wrap IntKind.i64 (emin - (P : Int) + 1 + ((((z11 * 256 + z14) % Int.toNat (emax - emin + 1)) : Nat) : Int)) : Int), ?_, ?_, ?_, xw2 [true, true, false, true] (zsS zi0 zs0)⟩
             ·omega
             ·exact hSg
             ·exact wrap_rng _
  ·rintro s' ⟨i', cc, n2, S, q, hi', hS, hq, hw⟩
   refine SW_weak2 hw ?_
   clear hw
   have zq : Zn q q := ⟨rfl, hq.1, hq.2⟩
   obtain ⟨r, er⟩ : ∃ r, packR P emin emax W E ex cc n2 S q = r := ⟨_, rfl⟩
   have hr1 : r.1 < B128 := by rw [← er]; exact packR_lt h
   have cp := ct_spec_Pack' h f' hs cc n2 (hiI S) (loI S) S ⟨rfl, rfl⟩ hS q q zq
   rw [er] at cp
   have z7n : Nn (IntKind.u64.wrap (IntKind.i64.wrap (1 + Int.tmod (z5 : Int) 7))) (1 + z5 % 7) := by
    have e : Int.tmod (z5 : Int) 7 = ((z5 % 7 : Nat) : Int) := by rw [Int.tmod_eq_emod_of_nonneg (by omega)]; omega
    rw [e]
    exact Nn.u (Nn.wrap (by omega) (by omega)) (by omega)
   have w7 : Wd 0 (IntKind.u64.wrap (IntKind.i64.wrap (1 + Int.tmod (z5 : Int) 7))) (1 + z5 % 7) := by
    rw [z7n.out]
    exact ⟨by unfold hiI; omega, by unfold loI; omega⟩
   have b7 : 1 + z5 % 7 < B128 := Nat.lt_trans (show 1 + z5 % 7 < 8 by omega) (by decide)
   have zq0 : Zn (emin - (P : Int) + 1) (emin - (P : Int) + 1) := ⟨rfl, hq0.1, hq0.2⟩
   obtain ⟨r1, r2⟩ := r
   dsimp only at cp hr1
   cases r2 with
   | true =>
    refine xg ?_
    refine xn 2 [(1, [2])] [(185, .agg #[.int .i64 cc, .bool n2, .int .u64 (hiI S), .int .u64 (loI S), .int .i64 q]), (184, .int .i64 f')] ?_
    refine xcv 186 cp zs0 ?_
    refine xn 6 [] [(188, .bool true), (187, .agg #[.int .u64 (hiI r1), .int .u64 (loI r1)])] ?_
    refine xb 12 [.int .u64 0, .int .u64 0] 28 (fun g3 => ?_)
    refine xy [(7, [3])] [(13, .bool true)] [(3, [.int .u64 (hiI r1), .int .u64 (loI r1)])] ?_
    refine SW_seq ?_
    refine xr [] [(190, .bool false)] ?_
    refine xs0 ?_
    refine SW_skip ?_
    refine xq [(0, [3]), (1, [1])] [] [(1, [.int .u64 (hiI r1), .int .u64 (loI r1)])] ?_
    refine SW_ret ?_
    refine xmeg (.agg #[.int .u64 (hiI r1), .int .u64 (loI r1)]) [1] ?_
    exact ⟨⟨(i', r1), hi', hr1⟩, [true], rfl, rfl, zs0⟩
   | false =>
    refine xg ?_
    refine xn 2 [(1, [2])] [(185, .agg #[.int .i64 cc, .bool n2, .int .u64 (hiI S), .int .u64 (loI S), .int .i64 q]), (184, .int .i64 f')] ?_
    refine xcv 186 cp zs0 ?_
    refine xn 6 [] [(188, .bool false), (187, .agg #[.int .u64 (hiI r1), .int .u64 (loI r1)])] ?_
    refine xb 12 [.int .u64 0, .int .u64 0] 28 (fun g3 => ?_)
    refine xy [(7, [3])] [(13, .bool false)] [(3, [.int .u64 (hiI r1), .int .u64 (loI r1)])] ?_
    refine SW_seq ?_
    refine xr [] [(190, .bool true)] ?_
    refine xs1 ?_
    refine SW_region ?_
    refine xn 9 [] [(200, .agg #[.int .i64 2, .bool nb, .int .u64 0, .int .u64 (IntKind.wrap IntKind.u64 (IntKind.wrap IntKind.i64 (1 + Int.tmod (z5 : Int) 7))), .int .i64 (emin - (P : Int) + 1)]), (192, .int .i64 f')] ?_
    refine xcv 201 (ct_spec_Pack' h (f') hs (2) (nb) (0) (IntKind.wrap IntKind.u64 (IntKind.wrap IntKind.i64 (1 + Int.tmod (z5 : Int) 7))) (1 + z5 % 7) w7 b7 (emin - (P : Int) + 1) (emin - (P : Int) + 1) zq0) zs0 ?_
    refine xy [(13, [3])] [] [(3, [.int .u64 (hiI (Prod.fst (packR P emin emax W E ex 2 nb (1 + z5 % 7) (emin - (P : Int) + 1)))), .int .u64 (loI (Prod.fst (packR P emin emax W E ex 2 nb (1 + z5 % 7) (emin - (P : Int) + 1))))])] ?_
    refine xq [(0, [3]), (1, [1])] [] [(1, [.int .u64 (hiI (Prod.fst (packR P emin emax W E ex 2 nb (1 + z5 % 7) (emin - (P : Int) + 1)))), .int .u64 (loI (Prod.fst (packR P emin emax W E ex 2 nb (1 + z5 % 7) (emin - (P : Int) + 1))))])] ?_
    refine SW_ret ?_
    refine xmeg (.agg #[.int .u64 (hiI (Prod.fst (packR P emin emax W E ex 2 nb (1 + z5 % 7) (emin - (P : Int) + 1)))), .int .u64 (loI (Prod.fst (packR P emin emax W E ex 2 nb (1 + z5 % 7) (emin - (P : Int) + 1))))]) [1] ?_
    exact ⟨⟨(i', (packR P emin emax W E ex 2 nb (1 + z5 % 7) (emin - (P : Int) + 1)).1), hi', packR_lt h⟩, [true], rfl, rfl, zs0⟩
theorem ct_spec_DrawUnpack (A : Option Addr) (c : Nat) (bt : List Int) (hx : bt.length ≤ 1048576) (dx : Dig 256 bt) :
  Ct Tryd.prog 89 [.slice A bt.length c] [Row .u8 A c bt] (γ := {p : Int × Nat // (-1000 ≤ p.1 ∧ p.1 ≤ 1000) ∧ p.2 < B128}) (fun p => .tuple #[.int .i64 p.1.1, .agg #[.int .u64 (hiI p.1.2), .int .u64 (loI p.1.2)]]) (fun _ => []) := by
 have h0 : 0 ≤ bt.length := Nat.zero_le _
 refine ct_of Tryd.func89 rfl (by kernel_rfl) (fun B w0 => ?_)
 refine xg ?_
 refine xn 1 [] [(2, .int .i64 0)] ?_
 refine xb 3 [.int .u64 0, .int .u64 0] 28 (fun g0 => ?_)
 refine xz [] [] ?_
 refine xg ?_
 refine xn 2 [] [(7, .agg #[.slice A (List.length bt) c, .int .i64 0])] ?_
 refine xb 8 [.slice A (List.length bt) c, .int .i64 0] 74 (fun g1 => ?_)
 refine xz [] [(4, .pointer (some ⟨g1, 0, none⟩))] ?_
 refine xg ?_
 refine xn 1 [] [(9, .pointer (some ⟨g1, 0, none⟩))] ?_
 (refine xcm 10 [false, true] (ct_spec_l1Reader_format (g1) (A) (c) (bt) (0) (0) ⟨rfl⟩ h0 hx dx) (zsS zi0 zs0) (fun zz => ?_); obtain ⟨⟨z0, z1⟩, p2⟩ := zz)
 refine xz [] [(5, .int .i64 z1)] ?_
 refine xg ?_
 refine xn 3 [] [(13, .int .i64 z1), (12, .pointer (some ⟨g1, 0, none⟩)), (11, .int .i64 z1)] ?_
 (refine xcm 14 [false, true] (ct_spec_l1Reader_word (z1) (g1) (A) (c) (bt) ((z0 : Int)) (z0) ⟨rfl⟩ (by omega) hx dx) (zsS zi0 zs0) (fun zz => ?_); obtain ⟨⟨z3, z4⟩, p5⟩ := zz)
 refine xy [(5, [0])] [(2, .int .i64 z1)] [(0, [.int .u64 (hiI z4), .int .u64 (loI z4)])] ?_
 refine SW_ret ?_
 refine xe ?_ (.tuple #[.int .i64 z1, .agg #[.int .u64 (hiI z4), .int .u64 (loI z4)]]) [0] ?_ ?_
 ·exact ⟨(z1, z4), p2.2, p5.2⟩
 ·rfl
 ·exact zs0
end Go.Proofs.YtgknelgplmohoaaDoor.M
end
section
namespace Go.Proofs.YtgknelgplmohoaaDoor.M
open Go.RowKit Go.Proofs.YtgknelgplmohoaaDoor.G Go.Proofs.YtgknelgplmohoaaDoorV.PrintWords Go.Proofs.YtgknelgplmohoaaDoorV.PrintLast Go.Proofs.YtgknelgplmohoaaDoor.X
set_option linter.unusedVariables false
set_option linter.unusedSimpArgs false
theorem ct_spec_NatPow_ten (k : Int) (e : Nat) (hk : Nn k e) (he : e ≤ 5400) : CtR Tryd.prog 128 [.int .u64 10, .int .i64 k] [] .u64 (ofN B64 (10 ^ e)) := by
 obtain ⟨rfl⟩ := hk
 have b4 : IsBits 10 4 := ⟨by decide, .inr (by decide)⟩
 have s10 : Sm 10 := Sm.of (k := 4) (by decide) (by decide)
 have s1 : Sm 1 := Sm.of (k := 1) (by decide) (by decide)
 have c10 := ct_spec_l1Of 10 10 ⟨rfl⟩ (by decide)
 have cb := fun A c => ct_spec_l1Bits 10 A c s10 4 b4
 have z1 : decide ((e : Int) < 0) = false := decide_eq_false (by omega)
 have z2 : decide ((e : Int) > 20000) = false := decide_eq_false (by omega)
 have v4 : Ve (IntKind.i64.wrap (((4 : Nat) : Int) * (e : Int))) ((4 * e : Nat) : Int) := ⟨by rw [wrap_i64 (by omega)]; omega⟩
 have z3 : decide (((4 * e : Nat) : Int) > 76800) = false := decide_eq_false (by omega)
 have sT : ∀ n : Nat, n ≤ e → Sm (10 ^ n) := fun n hn => ten_sm' (by omega)
 refine ct_of Tryd.func128 rfl (by kernel_rfl) (fun B w0 => ?_)
 refine xr [] [(4, .slice none 0 0)] ?_
 refine xg ?_
 refine xn 1 [] [(7, .int .u64 10)] ?_
 refine xcr 8 c10 zs0 (fun A0 k0 => ?_)
 refine xz [] [(5, .slice A0 (List.length (ofN B32 10)) k0)] ?_
 refine SW_seq ?_
 refine xg ?_
 refine xn 7 [] [(15, .bool (decide ((e : Int) > 20000)))] ?_
 refine xkf 15 z2 ?_
 refine xn 8 [] [(16, .slice A0 (List.length (ofN B32 10)) k0)] ?_
 refine xcv 17 (cb _ _) (zsS zi0 zs0) ?_
 refine xn 10 [] [(18, .int .i64 (e : Int))] ?_
 refine xve 19 IntKind.i64 (IntKind.wrap IntKind.i64 ((4 : Int) * (e : Int))) ((((4 * e) : Nat) : Int)) v4 ?_
 refine xz [] [(21, .bool (decide ((((4 * e) : Nat) : Int) > 76800)))] ?_
 refine xsf z3 ?_
 refine SW_skip ?_
 refine xg ?_
 refine xcr 22 (ct_spec_l1Of (1) (1) ⟨rfl⟩ (by omega)) zs0 (fun A1 k1 => ?_)
 refine xz [] [(6, .slice A1 (List.length (ofN B32 1)) k1)] ?_
 refine SW_cut (fun s' => ∃ (A : Option Addr) (c : Nat), Weak2 s' ⟨[(6, .slice A (ofN B32 (10 ^ e)).length c)], [], [Row .u64 A c (ofN B32 (10 ^ e))]⟩) ?_ (fun s' hs' => ?_)
 ·refine SW_block ?_
  refine SW_loopn (fun m s' => ∃ (j : Nat) (A : Option Addr) (c : Nat), j + m = e ∧ Weak2 s' ⟨[(1, .int .i64 (m : Int)), (5, .slice A0 (ofN B32 10).length k0), (6, .slice A (ofN B32 (10 ^ j)).length c)], [], [Row .u64 A c (ofN B32 (10 ^ j)), Row .u64 A0 k0 (ofN B32 10)]⟩) e ⟨0, A1, k1, by omega, ?_⟩ (fun m s' hI => ?_)
  ·rw [Nat.pow_zero]
   exact xw2 [] (zsS zi0 (zsS (ziS zi0) zs0))
  ·obtain ⟨j, A, c, h1, hw⟩ := hI
   refine SW_weak2 hw ?_
   clear hw
   have sj := sT j (by omega)
   by_cases hm : 0 < m
   ·have y1 : decide ((m : Int) > 0) = true := decide_eq_true (by omega)
    obtain ⟨m, rfl⟩ : ∃ m', m = m' + 1 := ⟨m - 1, by omega⟩
    have v1 : Ve (IntKind.i64.wrap (((m + 1 : Nat) : Int) - 1)) (m : Int) := ⟨by rw [wrap_i64 (by omega)]; omega⟩
    have ej : 10 ^ (j + 1) = 10 ^ j * 10 := Nat.pow_succ _ _
    refine SW_seq ?_
    refine xr [] [(24, .bool (decide ((((m + 1) : Nat) : Int) > 0)))] ?_
    refine xst y1 ?_
    refine SW_skip ?_
    refine SW_seq ?_
    refine SW_block ?_
    refine SW_region ?_
    refine xn 2 [] [(28, .slice A0 (List.length (ofN B32 10)) k0), (27, .slice A (List.length (ofN B32 (10 ^ j))) c)] ?_
    refine xcr 29 (ct_spec_l1Mul (10 ^ j) (10) (A) (A0) (c) (k0) sj s10) (zsS zi0 (zsS (ziS zi0) zs0)) (fun A2 k2 => ?_)
    refine xz [] [(6, .slice A2 (List.length (ofN B32 (10 ^ j * 10))) k2)] ?_
    refine SW_region ?_
    refine xn 1 [] [(25, .int .i64 (((m + 1) : Nat) : Int))] ?_
    refine xve 26 IntKind.i64 (IntKind.wrap IntKind.i64 ((((m + 1) : Nat) : Int) - 1)) ((m : Int)) v1 ?_
    refine xz [] [(1, .int .i64 (m : Int))] ?_
    refine ⟨m, by omega, j + 1, A2, k2, by omega, ?_⟩
    rw [ej]
    exact xw2 [] (zsS zi0 (zsS (ziS (ziS zi0)) zs0))
   ·have y1 : decide ((m : Int) > 0) = false := decide_eq_false (by omega)
    obtain rfl : j = e := by omega
    refine SW_seq ?_
    refine xr [] [(24, .bool (decide ((m : Int) > 0)))] ?_
    refine xsf y1 ?_
    refine SW_exit ?_
    refine ⟨(A), (c), xw2 [] (zsS zi0 zs0)⟩
 obtain ⟨A, c, hw⟩ := hs'
 refine SW_weak2 hw ?_
 clear hw
 have sTe := sT e (Nat.le_refl _)
 refine xg ?_
 refine xn 1 [] [(30, .slice A (List.length (ofN B32 (10 ^ e))) c)] ?_
 refine xcr 31 (ct_spec_l1Out (10 ^ e) (A) (c) sTe) (zsS zi0 zs0) (fun A2 k2 => ?_)
 refine xz [] [(4, .slice A2 (List.length (ofN B64 (10 ^ e))) k2)] ?_
 refine SW_ret ?_
 refine xe (A2, k2) (.slice A2 (List.length (ofN B64 (10 ^ e))) k2) [] ?_ (zsS zi0 zs0)
 rfl
theorem ct_laws_ten (k : Int) (e : Nat) (hk : Nn k e) (he : e ≤ 5400) : CtR Tryd.prog 96 [.int .i64 k] [] .u64 (ofN B64 (10 ^ e)) := by
 obtain ⟨rfl⟩ := hk
 have n0 : Nn (e : Int) e := ⟨rfl⟩
 have cp := ct_spec_NatPow_ten (e : Int) e n0 he
 refine ct_of Tryd.func96 rfl (by kernel_rfl) (fun B w0 => ?_)
 refine xr [] [(2, .slice none 0 0)] ?_
 refine xg ?_
 refine xn 1 [] [(3, .int .i64 (e : Int))] ?_
 refine xcr 4 cp zs0 (fun A0 k0 => ?_)
 refine xz [] [(2, .slice A0 (List.length (ofN B64 (10 ^ e))) k0)] ?_
 refine SW_ret ?_
 refine xe (A0, k0) (.slice A0 (List.length (ofN B64 (10 ^ e))) k0) [] ?_ (zsS zi0 zs0)
 rfl
theorem ct_laws_within (x lo hi : Nat) (cl : Bool) (A A2 A3 : Option Addr) (c c2 c3 : Nat) (fx : Fr (ofN B64 x) x) (fl : Fr (ofN B64 lo) lo) (fh : Fr (ofN B64 hi) hi) (b : Bool) (hb : inJ cl lo hi x = b) :
  CtV Tryd.prog 32 [.slice A (ofN B64 x).length c, .slice A2 (ofN B64 lo).length c2, .slice A3 (ofN B64 hi).length c3, .bool cl] [Row .u64 A c (ofN B64 x), Row .u64 A2 c2 (ofN B64 lo), Row .u64 A3 c3 (ofN B64 hi)] (.bool b) := by
 subst hb
 have q1 := ct_spec_NatCmp_rows _ _ x lo fx fl A A2 c c2
 have q2 := ct_spec_NatCmp_rows _ _ x hi fx fh A A3 c c3
 have eI : inJ cl lo hi x = ((decide (lo < x) || (decide (lo = x) && cl)) && (decide (x < hi) || (decide (x = hi) && cl))) := rfl
 rw [eI]
 have e1 : ∀ a b : Nat, (cmpN a b == 1) = decide (b < a) := fun a b => by
  rw [Bool.eq_iff_iff, beq_iff_eq, decide_eq_true_iff]
  unfold cmpN
  split
  ·constructor <;> intro h <;> omega
  ·split
   ·constructor <;> intro h <;> omega
   ·constructor <;> intro h <;> omega
 have e2 := cmp_zero x lo
 have e3 : ∀ a b : Nat, (cmpN a b == -1) = decide (a < b) := fun a b => by
  rw [Bool.eq_iff_iff, beq_iff_eq, decide_eq_true_iff]
  unfold cmpN
  split
  ·constructor <;> intro h <;> omega
  ·split
   ·constructor <;> intro h <;> omega
   ·constructor <;> intro h <;> omega
 have e4 := cmp_zero x hi
 refine ct_of Tryd.func32 rfl (by kernel_rfl) (fun B w0 => ?_)
 clear fx fl fh eI
 by_cases h1 : lo < x
 ·have z1 : (cmpN x lo == 1) = true := by rw [e1]; exact decide_eq_true h1
  rw [decide_eq_true h1, Bool.true_or, Bool.true_and]
  by_cases h2 : x < hi
  ·have z2 : (cmpN x hi == -1) = true := by rw [e3]; exact decide_eq_true h2
   rw [decide_eq_true h2, Bool.true_or]
   refine xr [] [(8, .bool false)] ?_
   refine xg ?_
   refine xn 2 [] [(12, .slice A2 (List.length (ofN B64 lo)) c2), (11, .slice A (List.length (ofN B64 x)) c)] ?_
   refine xcv 13 q1 (zsS zi0 (zsS (ziS zi0) zs0)) ?_
   refine xz [] [(9, .int .i64 (cmpN x lo))] ?_
   refine xg ?_
   refine xn 2 [] [(15, .slice A3 (List.length (ofN B64 hi)) c3), (14, .slice A (List.length (ofN B64 x)) c)] ?_
   refine xcv 16 q2 (zsS zi0 (zsS (ziS (ziS zi0)) zs0)) ?_
   refine xz [] [(10, .int .i64 (cmpN x hi))] ?_
   refine xg ?_
   refine xn 3 [] [(19, .bool (cmpN x lo == 1))] ?_
   refine xkt 19 z1 ?_
   refine xn 13 [] [(29, .bool (cmpN x hi == -1)), (26, .bool true)] ?_
   refine xkt 29 z2 ?_
   refine xz [] [(8, .bool true)] ?_
   refine SW_ret ?_
   refine xe () (.bool true) [] ?_ trivial
   rfl
  ·have z2 : (cmpN x hi == -1) = false := by rw [e3]; exact decide_eq_false h2
   rw [decide_eq_false h2, Bool.false_or]
   by_cases h3 : x = hi
   ·have z3 : (cmpN x hi == 0) = true := by rw [e4]; exact decide_eq_true h3
    rw [decide_eq_true h3, Bool.true_and]
    refine xr [] [(8, .bool false)] ?_
    refine xg ?_
    refine xn 2 [] [(12, .slice A2 (List.length (ofN B64 lo)) c2), (11, .slice A (List.length (ofN B64 x)) c)] ?_
    refine xcv 13 q1 (zsS zi0 (zsS (ziS zi0) zs0)) ?_
    refine xz [] [(9, .int .i64 (cmpN x lo))] ?_
    refine xg ?_
    refine xn 2 [] [(15, .slice A3 (List.length (ofN B64 hi)) c3), (14, .slice A (List.length (ofN B64 x)) c)] ?_
    refine xcv 16 q2 (zsS zi0 (zsS (ziS (ziS zi0)) zs0)) ?_
    refine xz [] [(10, .int .i64 (cmpN x hi))] ?_
    refine xg ?_
    refine xn 3 [] [(19, .bool (cmpN x lo == 1))] ?_
    refine xkt 19 z1 ?_
    refine xn 13 [] [(29, .bool (cmpN x hi == -1)), (26, .bool true)] ?_
    refine xkf 29 z2 ?_
    refine xn 16 [] [(32, .bool (cmpN x hi == 0))] ?_
    refine xkt 32 z3 ?_
    refine xz [] [(8, .bool cl)] ?_
    refine SW_ret ?_
    refine xe () (.bool cl) [] ?_ trivial
    rfl
   ·have z3 : (cmpN x hi == 0) = false := by rw [e4]; exact decide_eq_false h3
    rw [decide_eq_false h3, Bool.false_and]
    refine xr [] [(8, .bool false)] ?_
    refine xg ?_
    refine xn 2 [] [(12, .slice A2 (List.length (ofN B64 lo)) c2), (11, .slice A (List.length (ofN B64 x)) c)] ?_
    refine xcv 13 q1 (zsS zi0 (zsS (ziS zi0) zs0)) ?_
    refine xz [] [(9, .int .i64 (cmpN x lo))] ?_
    refine xg ?_
    refine xn 2 [] [(15, .slice A3 (List.length (ofN B64 hi)) c3), (14, .slice A (List.length (ofN B64 x)) c)] ?_
    refine xcv 16 q2 (zsS zi0 (zsS (ziS (ziS zi0)) zs0)) ?_
    refine xz [] [(10, .int .i64 (cmpN x hi))] ?_
    refine xg ?_
    refine xn 3 [] [(19, .bool (cmpN x lo == 1))] ?_
    refine xkt 19 z1 ?_
    refine xn 13 [] [(29, .bool (cmpN x hi == -1)), (26, .bool true)] ?_
    refine xkf 29 z2 ?_
    refine xn 16 [] [(32, .bool (cmpN x hi == 0))] ?_
    refine xkf 32 z3 ?_
    refine xz [] [(8, .bool false)] ?_
    refine SW_ret ?_
    refine xe () (.bool false) [] ?_ trivial
    rfl
 ·have z1 : (cmpN x lo == 1) = false := by rw [e1]; exact decide_eq_false h1
  rw [decide_eq_false h1, Bool.false_or]
  by_cases h0 : lo = x
  ·have z0 : (cmpN x lo == 0) = true := by rw [e2]; exact decide_eq_true h0.symm
   rw [decide_eq_true h0, Bool.true_and]
   cases cl with
   | false =>
    rw [Bool.false_and]
    refine xr [] [(8, .bool false)] ?_
    refine xg ?_
    refine xn 2 [] [(12, .slice A2 (List.length (ofN B64 lo)) c2), (11, .slice A (List.length (ofN B64 x)) c)] ?_
    refine xcv 13 q1 (zsS zi0 (zsS (ziS zi0) zs0)) ?_
    refine xz [] [(9, .int .i64 (cmpN x lo))] ?_
    refine xg ?_
    refine xn 2 [] [(15, .slice A3 (List.length (ofN B64 hi)) c3), (14, .slice A (List.length (ofN B64 x)) c)] ?_
    refine xcv 16 q2 (zsS zi0 (zsS (ziS (ziS zi0)) zs0)) ?_
    refine xz [] [(10, .int .i64 (cmpN x hi))] ?_
    refine xg ?_
    refine xn 3 [] [(19, .bool (cmpN x lo == 1))] ?_
    refine xkf 19 z1 ?_
    refine xn 6 [] [(22, .bool (cmpN x lo == 0))] ?_
    refine xkt 22 z0 ?_
    refine xz [] [(8, .bool false)] ?_
    refine SW_ret ?_
    refine xe () (.bool false) [] ?_ trivial
    rfl
   | true =>
    rw [Bool.true_and, Bool.and_true]
    by_cases h2 : x < hi
    ·have z2 : (cmpN x hi == -1) = true := by rw [e3]; exact decide_eq_true h2
     rw [decide_eq_true h2, Bool.true_or]
     refine xr [] [(8, .bool false)] ?_
     refine xg ?_
     refine xn 2 [] [(12, .slice A2 (List.length (ofN B64 lo)) c2), (11, .slice A (List.length (ofN B64 x)) c)] ?_
     refine xcv 13 q1 (zsS zi0 (zsS (ziS zi0) zs0)) ?_
     refine xz [] [(9, .int .i64 (cmpN x lo))] ?_
     refine xg ?_
     refine xn 2 [] [(15, .slice A3 (List.length (ofN B64 hi)) c3), (14, .slice A (List.length (ofN B64 x)) c)] ?_
     refine xcv 16 q2 (zsS zi0 (zsS (ziS (ziS zi0)) zs0)) ?_
     refine xz [] [(10, .int .i64 (cmpN x hi))] ?_
     refine xg ?_
     refine xn 3 [] [(19, .bool (cmpN x lo == 1))] ?_
     refine xkf 19 z1 ?_
     refine xn 6 [] [(22, .bool (cmpN x lo == 0))] ?_
     refine xkt 22 z0 ?_
     refine xn 13 [] [(29, .bool (cmpN x hi == -1)), (26, .bool true)] ?_
     refine xkt 29 z2 ?_
     refine xz [] [(8, .bool true)] ?_
     refine SW_ret ?_
     refine xe () (.bool true) [] ?_ trivial
     rfl
    ·have z2 : (cmpN x hi == -1) = false := by rw [e3]; exact decide_eq_false h2
     rw [decide_eq_false h2, Bool.false_or]
     by_cases h3 : x = hi
     ·have z3 : (cmpN x hi == 0) = true := by rw [e4]; exact decide_eq_true h3
      rw [decide_eq_true h3]
      refine xr [] [(8, .bool false)] ?_
      refine xg ?_
      refine xn 2 [] [(12, .slice A2 (List.length (ofN B64 lo)) c2), (11, .slice A (List.length (ofN B64 x)) c)] ?_
      refine xcv 13 q1 (zsS zi0 (zsS (ziS zi0) zs0)) ?_
      refine xz [] [(9, .int .i64 (cmpN x lo))] ?_
      refine xg ?_
      refine xn 2 [] [(15, .slice A3 (List.length (ofN B64 hi)) c3), (14, .slice A (List.length (ofN B64 x)) c)] ?_
      refine xcv 16 q2 (zsS zi0 (zsS (ziS (ziS zi0)) zs0)) ?_
      refine xz [] [(10, .int .i64 (cmpN x hi))] ?_
      refine xg ?_
      refine xn 3 [] [(19, .bool (cmpN x lo == 1))] ?_
      refine xkf 19 z1 ?_
      refine xn 6 [] [(22, .bool (cmpN x lo == 0))] ?_
      refine xkt 22 z0 ?_
      refine xn 13 [] [(29, .bool (cmpN x hi == -1)), (26, .bool true)] ?_
      refine xkf 29 z2 ?_
      refine xn 16 [] [(32, .bool (cmpN x hi == 0))] ?_
      refine xkt 32 z3 ?_
      refine xz [] [(8, .bool true)] ?_
      refine SW_ret ?_
      refine xe () (.bool true) [] ?_ trivial
      rfl
     ·have z3 : (cmpN x hi == 0) = false := by rw [e4]; exact decide_eq_false h3
      rw [decide_eq_false h3]
      refine xr [] [(8, .bool false)] ?_
      refine xg ?_
      refine xn 2 [] [(12, .slice A2 (List.length (ofN B64 lo)) c2), (11, .slice A (List.length (ofN B64 x)) c)] ?_
      refine xcv 13 q1 (zsS zi0 (zsS (ziS zi0) zs0)) ?_
      refine xz [] [(9, .int .i64 (cmpN x lo))] ?_
      refine xg ?_
      refine xn 2 [] [(15, .slice A3 (List.length (ofN B64 hi)) c3), (14, .slice A (List.length (ofN B64 x)) c)] ?_
      refine xcv 16 q2 (zsS zi0 (zsS (ziS (ziS zi0)) zs0)) ?_
      refine xz [] [(10, .int .i64 (cmpN x hi))] ?_
      refine xg ?_
      refine xn 3 [] [(19, .bool (cmpN x lo == 1))] ?_
      refine xkf 19 z1 ?_
      refine xn 6 [] [(22, .bool (cmpN x lo == 0))] ?_
      refine xkt 22 z0 ?_
      refine xn 13 [] [(29, .bool (cmpN x hi == -1)), (26, .bool true)] ?_
      refine xkf 29 z2 ?_
      refine xn 16 [] [(32, .bool (cmpN x hi == 0))] ?_
      refine xkf 32 z3 ?_
      refine xz [] [(8, .bool false)] ?_
      refine SW_ret ?_
      refine xe () (.bool false) [] ?_ trivial
      rfl
  ·have z0 : (cmpN x lo == 0) = false := by rw [e2]; exact decide_eq_false (fun z => h0 z.symm)
   rw [decide_eq_false h0, Bool.false_and, Bool.false_and]
   refine xr [] [(8, .bool false)] ?_
   refine xg ?_
   refine xn 2 [] [(12, .slice A2 (List.length (ofN B64 lo)) c2), (11, .slice A (List.length (ofN B64 x)) c)] ?_
   refine xcv 13 q1 (zsS zi0 (zsS (ziS zi0) zs0)) ?_
   refine xz [] [(9, .int .i64 (cmpN x lo))] ?_
   refine xg ?_
   refine xn 2 [] [(15, .slice A3 (List.length (ofN B64 hi)) c3), (14, .slice A (List.length (ofN B64 x)) c)] ?_
   refine xcv 16 q2 (zsS zi0 (zsS (ziS (ziS zi0)) zs0)) ?_
   refine xz [] [(10, .int .i64 (cmpN x hi))] ?_
   refine xg ?_
   refine xn 3 [] [(19, .bool (cmpN x lo == 1))] ?_
   refine xkf 19 z1 ?_
   refine xn 6 [] [(22, .bool (cmpN x lo == 0))] ?_
   refine xkf 22 z0 ?_
   refine xz [] [(8, .bool false)] ?_
   refine SW_ret ?_
   refine xe () (.bool false) [] ?_ trivial
   rfl
theorem ct_spec_NatSub_no (x y : Nat) (a b : List Int) (fa : Fr a x) (fb : Fr b y) (h : x < y) (A A' : Option Addr) (c c' : Nat) : CtV Tryd.prog 35 [.slice A a.length c, .slice A' b.length c'] [Row .u64 A c a, Row .u64 A' c' b] (.tuple #[.slice none 0 0, .bool false]) := by
 have la := decide_eq_true fa.l
 have lb := decide_eq_true fb.l
 have s1 := fa.sm
 have s2 := fb.sm
 have ca := fa.sIn A c
 have cb := fb.sIn A' c'
 have z1 : decide (cmpN x y < 0) = true := by rw [cmp_neg]; exact decide_eq_true h
 refine ct_of Tryd.func35 rfl (by kernel_rfl) (fun B w0 => ?_)
 refine xr [] [(5, .bool false), (4, .slice none 0 0)] ?_
 refine SW_seq ?_
 refine xg ?_
 refine xn 1 [] [(6, .slice A (List.length a) c)] ?_
 refine xcv 7 (ct_spec_l1Fits (List.length a) (c) (A) (true) la) zs0 ?_
 refine xn 5 [] [(10, .slice A' (List.length b) c'), (9, .bool false)] ?_
 refine xcv 11 (ct_spec_l1Fits (List.length b) (c') (A') (true) lb) zs0 ?_
 refine xn 10 [] [(15, .slice A (List.length a) c), (14, .bool false)] ?_
 refine xcr 16 ca (zsS zi0 zs0) (fun A0 k0 => ?_)
 refine xn 12 [] [(17, .slice A' (List.length b) c')] ?_
 refine xcr 18 cb (zsS (ziS (ziS zi0)) zs0) (fun A1 k1 => ?_)
 refine xcv 19 (ct_spec_l1Cmp (x) (y) (A0) (A1) (k0) (k1) s1 s2) (zsS (ziS zi0) (zsS zi0 zs0)) ?_
 refine xz [] [(21, .bool (decide (cmpN x y < 0)))] ?_
 refine xst z1 ?_
 refine xr [] [(5, .bool false), (4, .slice none 0 0)] ?_
 refine SW_ret ?_
 refine xe () (.tuple #[.slice none 0 0, .bool false]) [] ?_ trivial
 rfl
theorem ct_spec_NatSub_fr (x y : Nat) (a b : List Int) (fa : Fr a x) (fb : Fr b y) (h : y ≤ x) (A A' : Option Addr) (c c' : Nat) : CtRV Tryd.prog 35 [.slice A a.length c, .slice A' b.length c'] [Row .u64 A c a, Row .u64 A' c' b] .u64 (ofN B64 (x - y)) (.bool true) := ct_spec_NatSub x y a b fa.d fb.d fa.l fb.l fa.v fb.v h A A' c c'
def apN (x y : Nat) : Nat := if y ≤ x then x - y else y - x
theorem ct_laws_apart (x y : Nat) (A A' : Option Addr) (c c' : Nat) (fx : Fr (ofN B64 x) x) (fy : Fr (ofN B64 y) y) : CtR Tryd.prog 12 [.slice A (ofN B64 x).length c, .slice A' (ofN B64 y).length c'] [Row .u64 A c (ofN B64 x), Row .u64 A' c' (ofN B64 y)] .u64 (ofN B64 (apN x y)) := by
 unfold apN
 refine ct_of Tryd.func12 rfl (by kernel_rfl) (fun B w0 => ?_)
 by_cases h : y ≤ x
 ·rw [if_pos h]
  have q := ct_spec_NatSub_fr x y _ _ fx fy h A A' c c'
  refine xr [] [(4, .slice none 0 0)] ?_
  refine SW_seq ?_
  refine xg ?_
  refine xn 2 [] [(11, .slice A' (List.length (ofN B64 y)) c'), (10, .slice A (List.length (ofN B64 x)) c)] ?_
  refine xct 12 q (zsS zi0 (zsS (ziS zi0) zs0)) (fun A0 k0 => ?_)
  refine xz [] [(6, .bool true), (5, .slice A0 (List.length (ofN B64 (x - y))) k0)] ?_
  refine xr [] [(15, .bool true)] ?_
  refine xs1 ?_
  refine xr [] [(4, .slice A0 (List.length (ofN B64 (x - y))) k0)] ?_
  refine SW_ret ?_
  refine xe (A0, k0) (.slice A0 (List.length (ofN B64 (x - y))) k0) [] ?_ (zsS zi0 zs0)
  rfl
 ·rw [if_neg h]
  have q := ct_spec_NatSub_no x y _ _ fx fy (by omega) A A' c c'
  have q2 := ct_spec_NatSub_fr y x _ _ fy fx (by omega) A' A c' c
  refine xr [] [(4, .slice none 0 0)] ?_
  refine SW_seq ?_
  refine xg ?_
  refine xn 2 [] [(11, .slice A' (List.length (ofN B64 y)) c'), (10, .slice A (List.length (ofN B64 x)) c)] ?_
  refine xcv 12 q (zsS zi0 (zsS (ziS zi0) zs0)) ?_
  refine xz [] [(6, .bool false), (5, .slice none 0 0)] ?_
  refine xr [] [(15, .bool false)] ?_
  refine xs0 ?_
  refine SW_skip ?_
  refine xg ?_
  refine xn 2 [] [(19, .slice A (List.length (ofN B64 x)) c), (18, .slice A' (List.length (ofN B64 y)) c')] ?_
  refine xct 20 q2 (zsS (ziS zi0) (zsS zi0 zs0)) (fun A0 k0 => ?_)
  refine xz [] [(7, .slice A0 (List.length (ofN B64 (y - x))) k0)] ?_
  refine xr [] [(4, .slice A0 (List.length (ofN B64 (y - x))) k0)] ?_
  refine SW_ret ?_
  refine xe (A0, k0) (.slice A0 (List.length (ofN B64 (y - x))) k0) [] ?_ (zsS zi0 zs0)
  rfl
theorem ct_spec_NatDivMod_rows (a b : List Int) (x y : Nat) (fa : Fr a x) (fb : Fr b y) (h0 : 0 < y) (A A' : Option Addr) (c c' : Nat) :
  Ct Tryd.prog 33 [.slice A a.length c, .slice A' b.length c'] [Row .u64 A c a, Row .u64 A' c' b] (γ := (Option Addr × Nat) × (Option Addr × Nat)) (fun p => .tuple #[.slice p.1.1 (ofN B64 (x / y)).length p.1.2, .slice p.2.1 (ofN B64 (x % y)).length p.2.2, .bool true]) (fun p => [Row .u64 p.1.1 p.1.2 (ofN B64 (x / y)), Row .u64 p.2.1 p.2.2 (ofN B64 (x % y))]) := by
 have la := decide_eq_true fa.l
 have lb := decide_eq_true fb.l
 have s1 := fa.sm
 have s2 := fb.sm
 have ca := fa.sIn A c
 have cb := fb.sIn A' c'
 have sq : Sm (x / y) := s1.mono (Nat.div_le_self _ _)
 have sr : Sm (x % y) := s1.mono (Nat.mod_le _ _)
 have z0 : (((ofN B32 y).length : Int) == 0) = false := by rw [beq_eq_false_iff_ne]; intro h9; have := (ofN_zero B32_2 y).1 (by omega); omega
 refine ct_of Tryd.func33 rfl (by kernel_rfl) (fun B w0 => ?_)
 refine xr [] [(6, .bool false), (5, .slice none 0 0), (4, .slice none 0 0)] ?_
 refine SW_seq ?_
 refine xg ?_
 refine xn 1 [] [(9, .slice A (List.length a) c)] ?_
 refine xcv 10 (ct_spec_l1Fits (List.length a) (c) (A) (true) la) zs0 ?_
 refine xn 5 [] [(13, .slice A' (List.length b) c'), (12, .bool false)] ?_
 refine xcv 14 (ct_spec_l1Fits (List.length b) (c') (A') (true) lb) zs0 ?_
 refine xn 10 [] [(18, .slice A' (List.length b) c'), (17, .bool false)] ?_
 refine xcr 19 cb (zsS (ziS zi0) zs0) (fun A0 k0 => ?_)
 refine xz [] [(22, .bool ((((List.length (ofN B32 y)) : Nat) : Int) == 0))] ?_
 refine xsf z0 ?_
 refine SW_skip ?_
 refine xg ?_
 refine xn 1 [] [(24, .slice A (List.length a) c)] ?_
 refine xcr 25 ca (zsS (ziS zi0) zs0) (fun A1 k1 => ?_)
 refine xn 3 [] [(26, .slice A' (List.length b) c')] ?_
 refine xcr 27 cb (zsS (ziS (ziS (ziS zi0))) zs0) (fun A2 k2 => ?_)
 refine xcw 28 (ct_spec_l1Div (x) (y) (A1) (A2) (k1) (k2) s1 s2 h0) (zsS (ziS zi0) (zsS zi0 zs0)) (fun A3 k3 A4 k4 => ?_)
 refine xz [] [(8, .slice A4 (List.length (ofN B32 (x % y))) k4), (7, .slice A3 (List.length (ofN B32 (x / y))) k3)] ?_
 refine xg ?_
 refine xn 1 [] [(31, .slice A3 (List.length (ofN B32 (x / y))) k3)] ?_
 refine xcr 32 (ct_spec_l1Out (x / y) (A3) (k3) sq) (zsS zi0 zs0) (fun A5 k5 => ?_)
 refine xn 3 [] [(33, .slice A4 (List.length (ofN B32 (x % y))) k4)] ?_
 refine xcr 34 (ct_spec_l1Out (x % y) (A4) (k4) sr) (zsS (ziS (ziS zi0)) zs0) (fun A6 k6 => ?_)
 refine xz [] [(6, .bool true), (5, .slice A6 (List.length (ofN B64 (x % y))) k6), (4, .slice A5 (List.length (ofN B64 (x / y))) k5)] ?_
 refine SW_ret ?_
 refine xe ((A5, k5), A6, k6) (.tuple #[.slice A5 (List.length (ofN B64 (x / y))) k5, .slice A6 (List.length (ofN B64 (x % y))) k6, .bool true]) [] ?_ (zsS (ziS zi0) (zsS zi0 zs0))
 rfl
theorem ct_spec_DrawShortest (A : Option Addr) (c : Nat) (bt : List Int) (hx : bt.length ≤ 1048576) (dx : Dig 256 bt) :
  Ct Tryd.prog 27 [.slice A bt.length c] [Row .u8 A c bt] (γ := {p : Int × Nat // (-1000 ≤ p.1 ∧ p.1 ≤ 1000) ∧ p.2 < B128}) (fun p => .tuple #[.int .i64 p.1.1, .agg #[.int .u64 (hiI p.1.2), .int .u64 (loI p.1.2)]]) (fun _ => []) := by
 refine ct_of Tryd.func27 rfl (by kernel_rfl) (fun B w0 => ?_)
 refine xg ?_
 refine xn 1 [] [(2, .int .i64 0)] ?_
 refine xb 3 [.int .u64 0, .int .u64 0] 28 (fun g0 => ?_)
 refine xz [] [] ?_
 refine xg ?_
 refine xn 1 [] [(4, .slice A (List.length bt) c)] ?_
 (refine xck 5 (ct_spec_DrawUnpack (A) (c) (bt) hx dx) (zsS zi0 zs0) (fun zz => ?_); obtain ⟨⟨z0, z1⟩, p2⟩ := zz)
 refine xy [(5, [0])] [(2, .int .i64 z0)] [(0, [.int .u64 (hiI z1), .int .u64 (loI z1)])] ?_
 refine SW_ret ?_
 refine xe ?_ (.tuple #[.int .i64 z0, .agg #[.int .u64 (hiI z1), .int .u64 (loI z1)]]) [0] ?_ ?_
 ·exact ⟨(z0, z1), p2⟩
 ·rfl
 ·exact zs0
end Go.Proofs.YtgknelgplmohoaaDoor.M
end
section
namespace Go.Proofs.YtgknelgplmohoaaDoor.M
open Go.RowKit Go.Proofs.YtgknelgplmohoaaDoor.G Go.Proofs.YtgknelgplmohoaaDoorV.PrintWords Go.Proofs.YtgknelgplmohoaaDoorV.PrintLast Go.Proofs.YtgknelgplmohoaaDoor.X
set_option linter.unusedVariables false
set_option linter.unusedSimpArgs false
theorem atN_lt3 {x y k n : Nat} {e : Int} (hx : x < 2 ^ k) (hy : y < 2 ^ k) (he : -5400 ≤ e ∧ e ≤ 5400) (hn : k + 21601 ≤ n) : (atN x y e).1 < 2 ^ n ∧ (atN x y e).2 < 2 ^ n := by
 have key : ∀ z m : Nat, z < 2 ^ k → m ≤ 5400 → z * 10 ^ m < 2 ^ n := fun z m hz hm => Nat.lt_of_lt_of_le (mul_lt2 hz (ten_lt2 m)) (Nat.pow_le_pow_right (by decide) (by omega))
 have key0 : ∀ z : Nat, z < 2 ^ k → z < 2 ^ n := fun z hz => Nat.lt_of_lt_of_le hz (Nat.pow_le_pow_right (by decide) (by omega))
 unfold atN
 split
 ·exact ⟨key0 _ hx, key _ _ hy (by omega)⟩
 ·exact ⟨key _ _ hx (by omega), key0 _ hy⟩
theorem ten_fr {e : Nat} (he : e ≤ 5400) : Fr (ofN B64 (10 ^ e)) (10 ^ e) := Fr.of (ten_lt2 e) (by omega)
abbrev R4 : Type := (Option Addr × Nat) × (Option Addr × Nat) × (Option Addr × Nat) × (Option Addr × Nat)
theorem ct_laws_scaled {P : Nat} {emin emax : Int} {W E : Nat} {ex : Bool} {f : Int} (d : FD f P emin emax W E ex) (x : Nat) (hx : x < B128) (cc : Int) (neg : Bool) (S : Nat) (q : Int) (hxu : unpN P emin emax W E ex x = (cc, neg, hiI S, loI S, q)) (hv : VP P emin emax cc S q) (hc : cc = 2 ∨ cc = 3)
  (lo hi den mid : Nat) (hw : bndN P emin S q = (lo, hi, den)) (e : Int) (he : -5400 ≤ e ∧ e ≤ 5400) (k : Nat) (l1 : lo < 2 ^ k) (l2 : hi < 2 ^ k) (l3 : den < 2 ^ k) (hk : k ≤ 17000) (hmd : midN S q = mid) (lm : mid < 2 ^ k) (L9 H9 M9 U9 : Nat) (hL : (atN lo den e).1 = L9) (hH : (atN hi den e).1 = H9) (hM : (atN mid den e).1 = M9) (hU : (atN lo den e).2 = U9) :
  Ct Tryd.prog 31 [.int .i64 f, .agg #[.int .u64 (hiI x), .int .u64 (loI x)], .int .i64 e] [] (γ := R4) (fun p => .tuple #[.slice p.1.1 (ofN B64 L9).length p.1.2, .slice p.2.1.1 (ofN B64 H9).length p.2.1.2, .slice p.2.2.1.1 (ofN B64 M9).length p.2.2.1.2, .slice p.2.2.2.1 (ofN B64 U9).length p.2.2.2.2]) (fun p => [Row .u64 p.1.1 p.1.2 (ofN B64 L9), Row .u64 p.2.1.1 p.2.1.2 (ofN B64 H9), Row .u64 p.2.2.1.1 p.2.2.1.2 (ofN B64 M9), Row .u64 p.2.2.2.1 p.2.2.2.2 (ofN B64 U9)]) := by
 have h := d.h
 have cu := ct_spec_Unpack h.toFmt f d.sf x hx
 rw [hxu, prtV] at cu
 dsimp only at cu
 have cb := ct_spec_Bounds d x hx cc neg S q hxu hv hc _ hw
 obtain ⟨⟨bS0, bS1⟩, bq0, bq1, bS2, bS3⟩ := vp_fin h d.x1 hv hc
 have p1 := h.p1
 have m0 := h.m0
 have m1 := h.m1
 have p113 : 2 ^ P ≤ 2 ^ 113 := Nat.pow_le_pow_right (by decide) p1
 have bS : S < B128 := Nat.lt_of_lt_of_le bS1 (Nat.le_trans p113 (by decide))
 obtain ⟨t1, t2⟩ := two_val bS
 have ft : Fr [loI S, hiI S] S := ⟨t1, by simp, t2⟩
 have fS : Fr (ofN B64 (S * 2 ^ 2)) (S * 2 ^ 2) := Fr.of (m := 116) (by omega) (by decide)
 have c1 : ∀ A c, CtR Tryd.prog 64 [.slice A 2 c, .int .i64 2] [Row .u64 A c [loI S, hiI S]] .u64 (ofN B64 (S * 2 ^ 2)) := fun A c => ct_spec_NatShift_rows [loI S, hiI S] S ft 2 2 ⟨rfl⟩ (by decide) A c
 have autofz : True := trivial
 have w3 : Ve (IntKind.i64.wrap (q - 2)) (q - 2) := ⟨wrap_i64 (by omega)⟩
 have fr := fun (z : Nat) (hz : z < 2 ^ k) => Fr.of hz (show k ≤ 76800 by omega)
 obtain ⟨M7, hM7, hM8⟩ : ∃ M7 : Nat, k + 21601 ≤ M7 ∧ M7 ≤ 38601 := ⟨38601, by omega, by omega⟩
 have hmd' : S * 2 ^ 2 * 2 ^ (q - 2).toNat = mid := hmd
 clear ft bS1 p113
 refine ct_of Tryd.func31 rfl (by kernel_rfl) (fun B w0 => ?_)
 refine xg ?_
 refine xb 4 [.int .u64 (hiI x), .int .u64 (loI x)] 28 (fun g0 => ?_)
 refine xz [] [(9, .slice none 0 0), (8, .slice none 0 0), (7, .slice none 0 0), (6, .slice none 0 0)] ?_
 refine xg ?_
 refine xn 2 [(1, [0])] [(15, .agg #[.int .u64 (hiI x), .int .u64 (loI x)]), (14, .int .i64 f)] ?_
 (refine xck 16 cb zs0 (fun zz => ?_); obtain ⟨⟨z2, z3⟩, ⟨⟨z4, z5⟩, ⟨z6, z7⟩⟩⟩ := zz)
 refine xb 10 [.slice none 0 0, .slice none 0 0, .slice none 0 0, .bool false, .bool false] 63 (fun g1 => ?_)
 refine xy [(4, [1])] [] [(1, [.slice z2 (List.length (ofN B64 lo)) z3, .slice z4 (List.length (ofN B64 hi)) z5, .slice z6 (List.length (ofN B64 den)) z7, .bool (decide (S % 2 = 0)), .bool true])] ?_
 refine xg ?_
 refine xn 2 [(1, [0])] [(18, .agg #[.int .u64 (hiI x), .int .u64 (loI x)]), (17, .int .i64 f)] ?_
 refine xcv 19 cu zs0 ?_
 refine xb 11 [.int .i64 0, .bool false, .int .u64 0, .int .u64 0, .int .i64 0] 33 (fun g2 => ?_)
 refine xy [(4, [2])] [] [(2, [.int .i64 cc, .bool neg, .int .u64 (hiI S), .int .u64 (loI S), .int .i64 q])] ?_
 refine xg ?_
 refine xn 6 [(2, [2]), (5, [2])] [(25, .int .u64 (hiI S)), (22, .int .u64 (loI S))] ?_
 refine xbl 26 [.int .u64 (loI S), .int .u64 (hiI S)] 26 2 (fun g3 => ?_)
 refine NW_fz 3 2 g3 IntKind.u64 [loI S, hiI S] [] 26 (by simp) (by simp) ?_
 refine xcr 27 (c1 _ _) (zsS zi0 zs0) (fun A0 k0 => ?_)
 refine xz [] [(12, .slice A0 (List.length (ofN B64 (S * 2 ^ 2))) k0)] ?_
 refine SW_cut (fun s' => ∃ (A9 : Option Addr) (c9 : Nat) (g : Nat) (B1 : Option Addr) (d1 : Nat) (B2 : Option Addr) (d2 : Nat) (B3 : Option Addr) (d3 : Nat), Weak2 s' ⟨[(2, .int .i64 e), (10, .pointer (some ⟨g, 0, none⟩)), (12, .slice A9 (ofN B64 mid).length c9)], [⟨g, [.slice B1 (ofN B64 lo).length d1, .slice B2 (ofN B64 hi).length d2, .slice B3 (ofN B64 den).length d3, .bool (decide (S % 2 = 0)), .bool true], 63⟩], [Row .u64 A9 c9 (ofN B64 mid), Row .u64 B1 d1 (ofN B64 lo), Row .u64 B2 d2 (ofN B64 hi), Row .u64 B3 d3 (ofN B64 den)]⟩) ?_ (fun s' hs' => ?_)
 ·by_cases hq2 : q > 2
  ·have y1 : decide (q > 2) = true := decide_eq_true hq2
   have hN : Nn (q - 2) (q - 2).toNat := ⟨by omega⟩
   have c2 := fun A c => ct_spec_NatShift_rows (ofN B64 (S * 2 ^ 2)) (S * 2 ^ 2) fS (q - 2) (q - 2).toNat hN (by omega) A c
   rw [← hmd']
   refine xr [(1, [2])] [(30, .bool (decide (q > 2)))] ?_
   refine xst y1 ?_
   refine SW_region ?_
   refine xn 3 [(2, [2])] [(33, .int .i64 q), (31, .slice A0 (List.length (ofN B64 (S * 2 ^ 2))) k0)] ?_
   refine xve 34 IntKind.i64 (IntKind.wrap IntKind.i64 (q - 2)) (q - 2) w3 ?_
   refine xcr 35 (c2 _ _) (zsS zi0 zs0) (fun A1 k1 => ?_)
   refine xz [] [(12, .slice A1 (List.length (ofN B64 (S * 2 ^ 2 * 2 ^ Int.toNat (q - 2)))) k1)] ?_
   refine ⟨(A1), (k1), (g1), (z2), (z3), (z4), (z5), (z6), (z7), xw2 [false, true] (zsS zi0 (zsS (ziS (ziS (ziS zi0))) (zsS (ziS (ziS (ziS (ziS zi0)))) (zsS (ziS (ziS (ziS (ziS (ziS zi0))))) zs0))))⟩
  ·have y1 : decide (q > 2) = false := decide_eq_false hq2
   have e9 : mid = S * 2 ^ 2 := by rw [← hmd', show (q - 2).toNat = 0 by omega, Nat.pow_zero, Nat.mul_one]
   rw [e9]
   refine xr [(1, [2])] [(30, .bool (decide (q > 2)))] ?_
   refine xsf y1 ?_
   refine SW_skip ?_
   refine ⟨(A0), (k0), (g1), (z2), (z3), (z4), (z5), (z6), (z7), xw2 [false, true] (zsS zi0 (zsS (ziS (ziS zi0)) (zsS (ziS (ziS (ziS zi0))) (zsS (ziS (ziS (ziS (ziS zi0)))) zs0))))⟩
 obtain ⟨A9, c9, g, B1, d1, B2, d2, B3, d3, hw9⟩ := hs'
 refine SW_weak2 hw9 ?_
 clear hw9 c1 hmd' w3 cb cu autofz fS
 have fl := fr _ l1
 have fh := fr _ l2
 have fd := fr _ l3
 have fm := fr _ lm
 unfold atN at hL hH hM hU
 by_cases h0 : 0 ≤ e
 ·have y1 : decide (e ≥ 0) = true := decide_eq_true h0
  have hN : Nn e e.toNat := ⟨by omega⟩
  have ct := ct_laws_ten e e.toNat hN (by omega)
  have ft := ten_fr (e := e.toNat) (by omega)
  have cm := fun A A' c c' => ct_spec_NatMul_rows _ _ _ _ fd ft (Sm.of (mul_lt2 l3 (ten_lt2 e.toNat)) (by omega)) A A' c c'
  rw [if_pos h0] at hL hH hM hU
  dsimp only at hL hH hM hU
  rw [← hL, ← hH, ← hM, ← hU]
  refine SW_seq ?_
  refine xr [] [(37, .bool (decide (e ≥ 0)))] ?_
  refine xst y1 ?_
  refine xd (fun hB => ?_)
  refine xdk [(0, []), (1, [0]), (2, []), (3, [0]), (4, []), (5, []), (6, [0]), (7, [])] [(45, .int .i64 e), (44, .slice B3 (List.length (ofN B64 den)) d3), (42, .slice A9 (List.length (ofN B64 mid)) c9), (41, .slice B2 (List.length (ofN B64 hi)) d2), (39, .slice B1 (List.length (ofN B64 lo)) d1)] hB ?_
  refine xdr 8 46 ct zs0 (fun A10 k10 => ?_)
  refine xdr 9 47 (cm _ _ _ _) (zsS (ziS (ziS (ziS (ziS zi0)))) (zsS zi0 zs0)) (fun A11 k11 => ?_)
  refine xdk [(10, []), (11, []), (12, []), (13, [])] [(9, .slice A11 (List.length (ofN B64 (den * 10 ^ Int.toNat e))) k11), (8, .slice A9 (List.length (ofN B64 mid)) c9), (7, .slice B2 (List.length (ofN B64 hi)) d2), (6, .slice B1 (List.length (ofN B64 lo)) d1)] hB ?_
  refine xdz ?_
  refine SW_ret ?_
  refine xe ((B1, d1), (B2, d2), (A9, c9), A11, k11) (.tuple #[.slice B1 (List.length (ofN B64 lo)) d1, .slice B2 (List.length (ofN B64 hi)) d2, .slice A9 (List.length (ofN B64 mid)) c9, .slice A11 (List.length (ofN B64 (den * 10 ^ Int.toNat e))) k11]) [] ?_ (zsS (ziS (ziS (ziS zi0))) (zsS (ziS (ziS (ziS (ziS zi0)))) (zsS (ziS (ziS zi0)) (zsS zi0 zs0))))
  rfl
 ·have y1 : decide (e ≥ 0) = false := decide_eq_false h0
  have v1 : Ve (IntKind.i64.wrap (0 - e)) (((-e).toNat : Nat) : Int) := ⟨by rw [wrap_i64 (by omega)]; omega⟩
  have hN : Nn (((-e).toNat : Nat) : Int) (-e).toNat := ⟨rfl⟩
  have ct := ct_laws_ten _ (-e).toNat hN (by omega)
  have ft := ten_fr (e := (-e).toNat) (by omega)
  have cm1 := fun A A' c c' => ct_spec_NatMul_rows _ _ _ _ fl ft (Sm.of (mul_lt2 l1 (ten_lt2 (-e).toNat)) (by omega)) A A' c c'
  have cm2 := fun A A' c c' => ct_spec_NatMul_rows _ _ _ _ fh ft (Sm.of (mul_lt2 l2 (ten_lt2 (-e).toNat)) (by omega)) A A' c c'
  have cm3 := fun A A' c c' => ct_spec_NatMul_rows _ _ _ _ fm ft (Sm.of (mul_lt2 lm (ten_lt2 (-e).toNat)) (by omega)) A A' c c'
  rw [if_neg h0] at hL hH hM hU
  dsimp only at hL hH hM hU
  rw [← hL, ← hH, ← hM, ← hU]
  refine SW_seq ?_
  refine xr [] [(37, .bool (decide (e ≥ 0)))] ?_
  refine xsf y1 ?_
  refine SW_skip ?_
  refine xg ?_
  refine xn 1 [] [(48, .int .i64 e)] ?_
  refine xve 49 IntKind.i64 (IntKind.wrap IntKind.i64 (0 - e)) ((((Int.toNat (-e)) : Nat) : Int)) v1 ?_
  refine xcr 50 ct zs0 (fun A10 k10 => ?_)
  refine xz [] [(13, .slice A10 (List.length (ofN B64 (10 ^ Int.toNat (-e)))) k10)] ?_
  refine xd (fun hB => ?_)
  refine xdk [(0, []), (1, [0]), (2, []), (4, []), (5, [0]), (6, []), (8, []), (9, []), (11, []), (12, [0])] [(63, .slice B3 (List.length (ofN B64 den)) d3), (60, .slice A10 (List.length (ofN B64 (10 ^ Int.toNat (-e)))) k10), (59, .slice A9 (List.length (ofN B64 mid)) c9), (57, .slice A10 (List.length (ofN B64 (10 ^ Int.toNat (-e)))) k10), (56, .slice B2 (List.length (ofN B64 hi)) d2), (53, .slice A10 (List.length (ofN B64 (10 ^ Int.toNat (-e)))) k10), (52, .slice B1 (List.length (ofN B64 lo)) d1)] hB ?_
  refine xdr 3 54 (cm1 _ _ _ _) (zsS (ziS (ziS zi0)) (zsS zi0 zs0)) (fun A11 k11 => ?_)
  refine xdr 7 58 (cm2 _ _ _ _) (zsS (ziS (ziS (ziS (ziS zi0)))) (zsS (ziS zi0) zs0)) (fun A12 k12 => ?_)
  refine xdr 10 61 (cm3 _ _ _ _) (zsS (ziS (ziS (ziS zi0))) (zsS (ziS (ziS zi0)) zs0)) (fun A13 k13 => ?_)
  refine xdk [(13, []), (14, []), (15, []), (16, [])] [(9, .slice B3 (List.length (ofN B64 den)) d3), (8, .slice A13 (List.length (ofN B64 (mid * 10 ^ Int.toNat (-e)))) k13), (7, .slice A12 (List.length (ofN B64 (hi * 10 ^ Int.toNat (-e)))) k12), (6, .slice A11 (List.length (ofN B64 (lo * 10 ^ Int.toNat (-e)))) k11)] hB ?_
  refine xdz ?_
  refine SW_ret ?_
  refine xe ((A11, k11), (A12, k12), (A13, k13), B3, d3) (.tuple #[.slice A11 (List.length (ofN B64 (lo * 10 ^ Int.toNat (-e)))) k11, .slice A12 (List.length (ofN B64 (hi * 10 ^ Int.toNat (-e)))) k12, .slice A13 (List.length (ofN B64 (mid * 10 ^ Int.toNat (-e)))) k13, .slice B3 (List.length (ofN B64 den)) d3]) [] ?_ (zsS (ziS (ziS zi0)) (zsS (ziS zi0) (zsS zi0 (zsS (ziS (ziS (ziS (ziS (ziS (ziS (ziS zi0))))))) zs0))))
  rfl
end Go.Proofs.YtgknelgplmohoaaDoor.M
end
section
namespace Go.Proofs.YtgknelgplmohoaaDoor.M
open Go.RowKit Go.Proofs.YtgknelgplmohoaaDoor.G Go.Proofs.YtgknelgplmohoaaDoorV.PrintWords Go.Proofs.YtgknelgplmohoaaDoorV.PrintLast Go.Proofs.YtgknelgplmohoaaDoor.X
set_option linter.unusedVariables false
set_option linter.unusedSimpArgs false
theorem ctM_re {P : Program} {f : FuncId} {args : List Value} {bs : List Box} {pre : List Fact} {γ γ2 : Type} {val : γ → Value} {bs' : γ → List Box} {post : γ → List Fact} (val2 : γ2 → Value) (bs2 : γ2 → List Box) (post2 : γ2 → List Fact) (h : CtM P f args bs pre val bs' post)
  (hx : ∀ g, ∃ g2, val g = val2 g2 ∧ bs' g = bs2 g2 ∧ post g = post2 g2) : CtM P f args bs pre val2 bs2 post2 := fun B w h1 h2 h3 h4 =>
 (h B w h1 h2 h3 h4).mono (fun e w' ⟨g, e1, e2⟩ => by
  obtain ⟨g2, a, b, c⟩ := hx g
  refine ⟨g2, by rw [e1, a], ?_⟩
  rw [← b, ← c]
  exact e2)
end Go.Proofs.YtgknelgplmohoaaDoor.M
end
