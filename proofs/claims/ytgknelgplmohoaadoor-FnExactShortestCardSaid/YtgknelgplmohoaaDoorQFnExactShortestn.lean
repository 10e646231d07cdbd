import Derived.RangeFuncRecord
import Derived.Test.YtgknelgplmohoaaDoorQFnExactShortestm
section
namespace Go.Proofs.YtgknelgplmohoaaDoor.X
open Go.RowKit Go.Proofs.YtgknelgplmohoaaDoorV.PrintWords Go.Proofs.YtgknelgplmohoaaDoorV.PrintLast
set_option linter.unusedVariables false
set_option linter.unusedSimpArgs false
abbrev loopO (st : LoopState) (fn : FuncId) (tm : Array Value) (ps : Array Tmp) (asg body : Code) (D : Nat) : Obj := .loop { state := st, pending := none, fn := fn, tmps := tm, params := ps, assign := asg, body := body, defers := D }
def CtY (P : Program) (l : Nat) (args : List Value) (bs : List Box) (pre : List Fact) {γ : Type} (val : γ → Value) (bs' : γ → List Box) (post : γ → List Fact) : Prop :=
  ∀ (B : List Nat) (w : World), (∀ k ∈ B, k < w.heap.size ∧ k ∉ bs.map Box.id) → WB bs w → (bs.map Box.id).Nodup → (∀ F ∈ pre, Foot F w (away B bs)) →
    ∃ f tmps asg body, (Instr.yield l args.toArray).run P w = .ok (.round l f tmps asg body) w ∧
      RoundIn Fence.wide 0 P l f tmps asg body w fun e w' => ∃ g : γ, e = .returned (val g) ∧ Holds ⟨P, 0, B, ⟨w, bs.map Box.id, []⟩, none⟩ ⟨[], bs' g, post g⟩ w'
theorem CtY.call {P : Program} {l : Nat} {args : List Value} {bs : List Box} {pre : List Fact} {γ : Type} {val : γ → Value} {bs' : γ → List Box} {post : γ → List Fact} (hc : CtY P l args bs pre val bs' post) {X : Cx} (hP : X.P = P) {s : St} {w : World} (hw : Holds X s w) (m : List Bool) (hm : pick s.bs m = bs) (hp : Sub pre s.fs) (e : List (Nat × Value)) :
    ∃ f tmps asg body, (Instr.yield l args.toArray).run P w = .ok (.round l f tmps asg body) w ∧
      RoundIn Fence.wide 0 P l f tmps asg body w fun en w' => ∃ g : γ, en = .returned (val g) ∧ Holds X ⟨e, plug s.bs m (bs' g), post g ++ s.fs⟩ w' := by
  subst hm
  have hperm := pick_perm s.bs m
  have hmem : ∀ b, b ∈ s.bs ↔ b ∈ pick s.bs m ∨ b ∈ rest s.bs m := fun b => by rw [← hperm.mem_iff, List.mem_append]
  have hnd : ((pick s.bs m).map Box.id ++ (rest s.bs m).map Box.id).Nodup := by
    rw [← List.map_append]
    exact (hperm.map Box.id).nodup_iff.2 hw.nodup
  obtain ⟨f, tmps, asg, body, hy, hr⟩ := hc (X.B ++ (rest s.bs m).map Box.id) w (fun k hk => by
    rcases List.mem_append.1 hk with hk | hk
    · refine ⟨Nat.lt_of_lt_of_le (hw.old k hk).1 hw.below.size, fun hm2 => ?_⟩
      obtain ⟨b, hb, rfl⟩ := List.mem_map.1 hm2
      exact (hw.new b ((hmem b).2 (.inl hb))).elim (fun z => absurd (hw.old _ hk).1 (Nat.not_lt.2 z)) (hw.old _ hk).2
    · obtain ⟨b, hb, rfl⟩ := List.mem_map.1 hk
      exact ⟨wb_lt hw.box b ((hmem b).2 (.inr hb)), fun hm2 => (List.nodup_append.1 hnd).2.2 _ hm2 _ hk rfl⟩) (fun b hb => hw.box b ((hmem b).2 (.inl hb))) (List.nodup_append.1 hnd).1 (fun F hF => (hw.fact F (hp.mem F hF)).mono (fun k hk => by
    refine ⟨fun hB => ?_, fun b hb e => hk.2 b ((hmem b).2 (.inl hb)) e⟩
    rcases List.mem_append.1 hB with hB | hB
    · exact hk.1 hB
    · obtain ⟨b, hb, e⟩ := List.mem_map.1 hB
      exact hk.2 b ((hmem b).2 (.inr hb)) e.symm))
  refine ⟨f, tmps, asg, body, hy, hr.mono ?_⟩
  rintro en w' ⟨g, rfl, h2⟩
  subst hP
  exact ⟨g, rfl, hw.back e h2⟩
section
variable {X : Cx} {env : List (Nat × Value)} {bs : List Box} {fs : List Fact} {K : Exit → St → Prop} {ops : Array Oper} {i : Nat}
theorem xcy (d : Nat) (m : List Bool) {l : Nat} {args : List Value} {bq : List Box} {pre : List Fact} {γ : Type} {val : γ → Value} {bs' : γ → List Box} {post : γ → List Fact} {o : Oper} (hc : CtY X.P l args bq pre val bs' post) (hp : Sub pre fs)
    (h : ∀ g, NW X ops (Nat.succ i) ⟨(d, val g) :: env, plug bs m (bs' g), post g ++ fs⟩ K)
    (ho : ops[i]? = some o := by rfl) (hg : guardD ops env o = some true := by kernel_rfl) (hf : fitO X.n env o = true := by kernel_rfl) (hd : o.dst = some d := by rfl)
    (hr : ∀ w, (execOp (evD env) o).run X.P w = (Instr.yield l args.toArray).run X.P w := by intro w; kernel_rfl) (hm : pick bs m = bq := by kernel_rfl) : NW X ops i ⟨env, bs, fs⟩ K := by
  obtain ⟨h1, h2, h3⟩ := fitO_spec hf
  refine NW_on (s := ⟨env, bs, fs⟩) ho hg (fun a w ha hw => ?_)
  obtain ⟨f, tmps, asg, body, hy, hr2⟩ := hc.call rfl hw m hm hp env
  refine opIn (r := .ok (.round l f tmps asg body) w) h2 (by rw [ha.exec h2 h3, hr w]; exact hy) ?_
  rw [Oper.uponIn_round]
  refine ⟨fun z => (by cases z), hr2.mono ?_⟩
  rintro en w' ⟨g, rfl, hw'⟩
  have ha' : Agree X.fr ⟨env, plug bs m (bs' g), post g ++ fs⟩ a := ⟨ha.size, ha.defers, ha.env⟩
  rw [hd]
  exact h g _ _ (ha'.put (some d) (by rw [← hd]; exact dstOk_lt h1) _) (hw'.put (some d) _)
end
def RetY (X : Cx) (lb : Box) (lr : Box) {γ : Type} (bs' : γ → List Box) (post : γ → List Fact) : Exit → St → Prop
  | .normal, s => ∃ g m bsx, s.bs = lb :: bsx ∧ bs' g = lr :: pick bsx m ∧ Sub (post g) s.fs
  | _, _ => False
theorem RetY.calm {X : Cx} {lb lr : Box} {γ : Type} {bs' : γ → List Box} {post : γ → List Fact} : Calm (RetY X lb lr bs' post) := fun _ _ h => h
theorem Holds.weak {X : Cx} {s t : St} {w : World} (h : Weak s t) (hw : Holds X s w) : Holds X t w :=
  ⟨hw.below, h.bs ▸ hw.box, h.bs ▸ hw.new, h.bs ▸ hw.nodup, fun F hF => (by
    have := hw.fact F (h.fs.mem F hF)
    rw [h.bs] at this
    exact this), hw.old⟩
theorem Agree.weak {n : Nat × List Deferred} {s t : St} {a : Act} (h : Weak s t) (ha : Agree n s a) : Agree n t a := ⟨ha.size, ha.defers, fun i v hv => ha.env i v (h.env i v hv)⟩
theorem cy_of {P : Program} {n : Nat} {fn : FuncId} {tm : Array Value} {t : Tmp} {asg body : Code} {D l : Nat} {env0 env1 : List (Nat × Value)} {v : Value} {bs0 : List Box} {pre : List Fact} {γ : Type} {bs' : γ → List Box} {post : γ → List Fact} (hT : Agree (n, []) ⟨env0, [], []⟩ ⟨tm, []⟩) (ht : t < n)
    (ha : ∀ B w0, SW ⟨P, n, B, w0, some l⟩ asg ⟨(t, v) :: env0, ⟨l, [], .ob (loopO .ready fn tm #[t] asg body D)⟩ :: bs0, pre⟩ (thenK (fun s' => Weak s' ⟨env1, ⟨l, [], .ob (loopO .ready fn tm #[t] asg body D)⟩ :: bs0, pre⟩) (fun _ _ => False)))
    (hb : ∀ B w0, SW ⟨P, n, B, w0, some l⟩ body ⟨env1, ⟨l, [], .ob (loopO .busy fn tm #[t] asg body D)⟩ :: bs0, pre⟩ (RetY ⟨P, n, B, w0, some l⟩ ⟨l, [], .ob (loopO .busy fn tm #[t] asg body D)⟩ ⟨l, [], .ob (loopO .ready fn tm #[t] asg body D)⟩ bs' post)) :
    CtY P l [v] (⟨l, [], .ob (loopO .ready fn tm #[t] asg body D)⟩ :: bs0) pre (γ := γ) (fun _ => .bool true) bs' post := by
  intro B w hB hbs hnd hp
  have hl : w.heap[l]? = some (loopO .ready fn tm #[t] asg body D) := hbs _ (List.mem_cons_self ..)
  have hy : (Instr.yield l [v].toArray).run P w = .ok (.round l fn (tm.setIfInBounds t v) asg body) w := by
    have := run_yield (P := P) (args := #[v]) hl rfl
    simpa using this
  refine ⟨_, _, _, _, hy, roundIn_of_wpIn trivial ?_⟩
  have h0 : Holds ⟨P, n, B, ⟨w, (⟨l, [], .ob (loopO .ready fn tm #[t] asg body D)⟩ :: bs0 : List Box).map Box.id, []⟩, some l⟩ ⟨(t, v) :: env0, ⟨l, [], .ob (loopO .ready fn tm #[t] asg body D)⟩ :: bs0, pre⟩ w :=
    ⟨Kept.of (Below.refl _ _), hbs, fun b hb => .inr (List.mem_map_of_mem hb), hnd, hp, hB⟩
  have hag : Agree (n, []) ⟨(t, v) :: env0, ⟨l, [], .ob (loopO .ready fn tm #[t] asg body D)⟩ :: bs0, pre⟩ { tmps := tm.setIfInBounds t v, defers := [] } := by
    have := hT.put (some t) (fun k hk => by cases hk; exact ht) v
    exact ⟨this.size, this.defers, this.env⟩
  refine wpIn_mono (ha B _ _ w hag h0) ?_
  rintro e a1 w1 ⟨s1, ha1, hw1, hk1⟩
  cases e with
  | normal =>
    have ha2 := ha1.weak hk1
    have hw2 := hw1.weak hk1
    have hl1 : w1.heap[l]? = some (loopO .ready fn tm #[t] asg body D) := hw2.box _ (List.mem_cons_self ..)
    refine ⟨_, run_beginRound hl1 rfl, ?_⟩
    have hx := putB_ext (h := 0) (loopO .busy fn tm #[t] asg body D) (b := ⟨l, [], .ob (loopO .ready fn tm #[t] asg body D)⟩) (bs := ⟨l, [], .ob (loopO .ready fn tm #[t] asg body D)⟩ :: bs0) rfl rfl hw2.box hw2.nodup
    have hw3 := hw2.ext hx env1
    refine wpIn_mono (hb B _ a1 _ ⟨ha2.size, ha2.defers, ha2.env⟩ hw3) ?_
    rintro e a4 w4 ⟨s4, ha4, hw4, hk4⟩
    cases e with
    | normal =>
      obtain ⟨g, m, bsx, e1, e2, hsub⟩ := hk4
      have hl4 : w4.heap[l]? = some (loopO .busy fn tm #[t] asg body D) := hw4.box ⟨l, [], .ob (loopO .busy fn tm #[t] asg body D)⟩ (by rw [e1]; exact List.mem_cons_self ..)
      refine ⟨_, _, run_endRound none hl4, g, rfl, ?_⟩
      have hx4 := putB_ext (h := 0) (loopO .ready fn tm #[t] asg body D) (b := ⟨l, [], .ob (loopO .busy fn tm #[t] asg body D)⟩) (bs := s4.bs) (by rw [e1]; rfl) rfl hw4.box hw4.nodup
      have hw5 := hw4.ext hx4 []
      rw [e1] at hw5
      have hnd5 := hw5.nodup
      have hsubl : List.Sublist (⟨l, [], .ob (loopO .ready fn tm #[t] asg body D)⟩ :: pick bsx m) (putB (⟨l, [], .ob (loopO .busy fn tm #[t] asg body D)⟩ :: bsx) 0 (loopO .ready fn tm #[t] asg body D)) := (pick_sub bsx m).cons_cons _
      have hw6 := hw5.sub (bs' := ⟨l, [], .ob (loopO .ready fn tm #[t] asg body D)⟩ :: pick bsx m) (fun b hb => hsubl.subset hb) ((hsubl.map Box.id).nodup hnd5) []
      rw [e2]
      exact ⟨hw6.below, hw6.box, hw6.new, hw6.nodup, fun F hF => hw6.fact F (hsub.mem F hF), hw6.old⟩
    | _ => exact hk4.elim
  | _ => exact hk1.elim
section
variable {X : Cx} {env : List (Nat × Value)} {bs : List Box} {fs : List Fact} {Q : Post}
theorem SQ_block {id : Nat} {c : Code} {s : St} (h : SQ X c s (Exit.inBlock id Q)) : SQ X (.block id c) s Q := fun a w ha hw => wpIn_block (h a w ha hw)
theorem SQ_range {gop : Operand} {ps : Array Tmp} {asg body : Code} (gf : FuncId) (cap : Array Value) (hg : ev env gop = some (.func (.func gf) #[] cap)) (he : ∀ args w, (callFunc gf args).run X.P w = .ok (.enter gf args) w) (hrd : X.rd = none)
    (h : ∀ (fn : FuncId) (tm : Array Value) (D l : Nat), Agree (X.n, []) ⟨env, [], []⟩ ⟨tm, []⟩ → ∀ w, Holds X ⟨env, bs ++ [⟨D, [], .ob (.deferred (some []))⟩] ++ [⟨l, [], .ob (loopO .ready fn tm ps asg body D)⟩], fs⟩ w →
      Calls X.P gf (#[.func (.yield l) #[] #[]] ++ cap) w fun e w' => ∃ v bs2 fs2 h2, e = .returned v ∧ Holds X ⟨env, bs2, fs2⟩ w' ∧ bs2[h2]? = some ⟨l, [], .ob (loopO .ready fn tm ps asg body D)⟩ ∧
        ∀ a w, Agree (X.push ⟨.collected D, #[]⟩).fr ⟨env, putB bs2 h2 (loopO .exhausted fn tm ps asg body D), fs2⟩ a → Holds (X.push ⟨.collected D, #[]⟩) ⟨env, putB bs2 h2 (loopO .exhausted fn tm ps asg body D), fs2⟩ w → Q .normal a w) :
    SQ X (.rangeFunc gop ps asg body) ⟨env, bs, fs⟩ Q := by
  intro a w ha hw
  refine wpIn_rangeFunc (fun fn _ => ?_)
  have hr0 : X.F.round = none := hrd
  rw [hr0]
  have hev : a.eval gop = .func (.func gf) #[] cap := ha.ev hg
  have hw1 : Holds X ⟨env, bs ++ [⟨w.heap.size, [], .ob (.deferred (some []))⟩], fs⟩ (w.alloc (.deferred (some []))) := hw.ext (newO_ext ⟨w.heap.size, [], .ob (.deferred (some []))⟩ rfl hw.box hw.nodup) env
  have hs1 : w.heap.size + 1 = (w.alloc (.deferred (some []))).heap.size := (World.size_alloc w _).symm
  have hw2 : Holds X ⟨env, bs ++ [⟨w.heap.size, [], .ob (.deferred (some []))⟩] ++ [⟨w.heap.size + 1, [], .ob (loopO .ready fn a.tmps ps asg body w.heap.size)⟩], fs⟩ ((w.alloc (.deferred (some []))).alloc (loopO .ready fn a.tmps ps asg body w.heap.size)) := hw1.ext (newO_ext ⟨w.heap.size + 1, [], .ob (loopO .ready fn a.tmps ps asg body w.heap.size)⟩ hs1 hw1.box hw1.nodup) env
  have hel := run_enterLoop_outer (P := X.P) (w := w) fn a.tmps ps asg body
  have hcall := h fn a.tmps w.heap.size (w.heap.size + 1) ⟨ha.size, rfl, ha.env⟩ _ hw2
  generalize hW : (w.alloc (.deferred (some []))).alloc (loopO .ready fn a.tmps ps asg body w.heap.size) = W at hcall hw2
  have hel' : (Instr.enterLoop fn a.tmps ps asg body none).run X.P w = .ok (w.heap.size + 1, [{ target := .collected w.heap.size, args := #[] }]) W := by rw [← hW]; exact hel
  clear hel hW hw1
  have hres : (resolve a.eval (rangeCall gop (w.heap.size + 1)) 0).run X.P W = .ok ⟨.fn (.func gf) cap, #[.func (.yield (w.heap.size + 1)) #[] #[]]⟩ W := by
    simp only [resolve, hev]
    simp [go_sem]
  have hinv : (invoke (.fn (.func gf) cap) #[.func (.yield (w.heap.size + 1)) #[] #[]]).run X.P W = .ok (.enter gf (#[.func (.yield (w.heap.size + 1)) #[] #[]] ++ cap)) W := by
    simp [invoke, go_sem, he]
  have hfin : Calls X.P gf (#[.func (.yield (w.heap.size + 1)) #[] #[]] ++ cap) W (rangePost X.F 0 X.P (w.heap.size + 1) Q { a with defers := [{ target := .collected w.heap.size, args := #[] }] ++ a.defers }) := by
    refine hcall.mono ?_
    rintro e w' ⟨v, bs2, fs2, h2, rfl, hw3, hb2, hq⟩
    have hl : w'.heap[w.heap.size + 1]? = some (loopO .ready fn a.tmps ps asg body w.heap.size) := hw3.box _ (List.mem_of_getElem? hb2)
    refine ⟨none, _, run_endLoop hl (by simp), ?_⟩
    have hx4 := putB_ext (h := h2) (loopO .exhausted fn a.tmps ps asg body w.heap.size) hb2 rfl hw3.box hw3.nodup
    have hw4 := (hw3.ext hx4 env).push ⟨.collected w.heap.size, #[]⟩
    refine hq _ _ ⟨ha.size, ?_, ha.env⟩ hw4
    show _ :: a.defers = _ :: X.w0.df
    rw [ha.defers]
  have hf2 := callsX (X := X) (n := 0 - 1) hfin
  have hdep : X.F.depth.isSome = true → 1 ≤ 0 := fun z => (by cases z)
  refine ⟨w.heap.size + 1, [{ target := .collected w.heap.size, args := #[] }], W, ⟨.fn (.func gf) cap, #[.func (.yield (w.heap.size + 1)) #[] #[]]⟩, W, gf, #[.func (.yield (w.heap.size + 1)) #[] #[]] ++ cap, W, hel', hres, fun _ _ => trivial, hinv, hdep, ?_⟩
  exact hf2
end
abbrev LvM (P : Program) (fn : Func) (R : Ending → World → Prop) (a : Act) (w : World) : Prop := LeavesInM Fence.wide 0 P fn a.tmps R a.defers .returning w
theorem RetL.postM {X : Cx} {fn : Func} {R : Ending → World → Prop} : ∀ e a w, Lift X (RetL X fn (LvM X.P fn R)) e a w → bodyPostM Fence.wide 0 X.P fn R e a w := by
  rintro e a w ⟨s, ha, hw, hk⟩
  cases e with
  | normal => exact hk a w ha hw
  | ret => exact hk a w ha hw
  | _ => exact hk.elim
theorem cm_ofY {P : Program} {f : FuncId} {fn : Func} {c : Code} {args : List Value} {bs : List Box} {pre : List Fact} {γ : Type} {val : γ → Value} {bs' : γ → List Box} {post : γ → List Fact} (hf : P.funcs[f]? = some fn) (hb : fn.body = some c) (hn : Nat.ble args.length fn.ntmps = true)
    (h : ∀ B w (M : List Nat), SQ ⟨P, fn.ntmps, B, ⟨w, M, []⟩, none⟩ c ⟨argEnv args 0, bs, pre⟩ (bodyPostM Fence.wide 0 P fn (LeftM P B ⟨w, M, []⟩ val bs' post))) : CtM P f args bs pre val bs' post := by
  intro B w hB hbs hnd hp
  have hn' := Nat.le_of_ble_eq_true hn
  have hag : Agree (fn.ntmps, []) ⟨argEnv args 0, bs, pre⟩ { tmps := args.toArray ++ Array.replicate (fn.ntmps - args.toArray.size) undef, defers := [] } := by
    refine ⟨by simp; omega, rfl, fun t v hl => ?_⟩
    obtain ⟨_, h2⟩ := look_arg args 0 t v hl
    have hlt : t < args.length := (List.getElem?_eq_some_iff.1 (by simpa using h2)).1
    rw [Array.getElem?_append_left (by simpa using hlt)]
    simpa using h2
  have h0 : Holds ⟨P, fn.ntmps, B, ⟨w, bs.map Box.id, []⟩, none⟩ ⟨argEnv args 0, bs, pre⟩ w :=
    ⟨Kept.of (Below.refl _ _), hbs, fun b hb => .inr (List.mem_map_of_mem hb), hnd, hp, hB⟩
  exact callsIn_wide.1 (callsIn_of_wp_marks (n := 0) hf hb trivial (h B w (bs.map Box.id) _ w hag h0))
theorem leave_range {P : Program} {n : Nat} {B M : List Nat} {w0 : World} {fn : Func} {γ : Type} {val : γ → Value} {bs' : γ → List Box} {post : γ → List Fact} {env : List (Nat × Value)} {bs : List Box} {fs : List Fact} (h D : Nat) (g0 : γ) (m : List Bool) (hs : List Nat) (v : Value)
    (hv : v = val g0) (hm : bs' g0 = pick (putB bs h (.deferred none)) m) (hsub : Sub (post g0) fs) (hb : bs[h]? = some ⟨D, [], .ob (.deferred (some []))⟩ := by rfl)
    (ho : outN P fn ⟨env, putB bs h (.deferred none), fs⟩ hs = some (v, fsts (psO (outN P fn ⟨env, putB bs h (.deferred none), fs⟩ hs))) := by kernel_rfl) :
    RetL (Cx.push ⟨P, n, B, ⟨w0, M, []⟩, none⟩ ⟨.collected D, #[]⟩) fn (LvM P fn (LeftM P B ⟨w0, M, []⟩ val bs' post)) .ret ⟨env, bs, fs⟩ := by
  intro a w ha hw
  have hd : a.defers = [⟨.collected D, #[]⟩] := ha.defers
  show LeavesInM Fence.wide 0 P fn a.tmps _ a.defers .returning w
  rw [hd]
  have hbw : w.heap[D]? = some (.deferred (some [])) := hw.box _ (List.mem_of_getElem? hb)
  refine ⟨(by intro h; cases h), .inl ⟨D, _, rfl, run_takeDeferred hbw, ?_⟩⟩
  have hx : Holds ⟨P, n, B, ⟨w0, M, []⟩, none⟩ ⟨env, putB bs h (.deferred none), fs⟩ (w.putObj D (.deferred none)) := by
    have h3 := hw.ext (putB_ext (.deferred none) hb rfl hw.box hw.nodup) env
    exact ⟨⟨h3.below.os, h3.below.tape, h3.below.output, h3.below.size, h3.below.block⟩, h3.box, h3.new, h3.nodup, h3.fact, h3.old⟩
  have ha2 : Agree (n, []) ⟨env, putB bs h (.deferred none), fs⟩ ⟨a.tmps, []⟩ := ⟨ha.size, rfl, ha.env⟩
  exact left_end (P := P) ha2 hx g0 m hs _ (by rw [← fsts_dup, ← hv]; exact ho) hm hsub
end Go.Proofs.YtgknelgplmohoaaDoor.X
end
section
namespace Go.Proofs.YtgknelgplmohoaaDoor.M
open Go.RowKit Go.Proofs.YtgknelgplmohoaaDoor.G Go.Proofs.YtgknelgplmohoaaDoorV.PrintWords Go.Proofs.YtgknelgplmohoaaDoorV.PrintLast Go.Proofs.YtgknelgplmohoaaDoor.X
set_option linter.unusedVariables false
set_option linter.unusedSimpArgs false
def digN (d : Nat) : Nat → List Int
 | 0 => []
 | n + 1 => digN d n ++ [((48 + d / 10 ^ n % 10 : Nat) : Int)]
theorem digN_len (d n : Nat) : (digN d n).length = n := by
 induction n with
 | zero => rfl
 | succ n ih => simp [digN, ih]
def lowD : Nat → Nat → List Int
 | 0, _ => []
 | f + 1, x => if x = 0 then [] else digN (x % 10000000000000000000) 19 ++ lowD f (x / 10000000000000000000)
theorem lowD_more : ∀ (f g x : Nat), x ≤ f → x ≤ g → lowD f x = lowD g x
 | 0, 0, _, _, _ => rfl
 | 0, g + 1, x, h, _ => by
  obtain rfl : x = 0 := by omega
  simp [lowD]
 | f + 1, 0, x, _, h => by
  obtain rfl : x = 0 := by omega
  simp [lowD]
 | f + 1, g + 1, x, h1, h2 => by
  by_cases hx : x = 0
  ·simp [lowD, hx]
  ·simp only [lowD, if_neg hx]
   rw [lowD_more f g (x / 10000000000000000000) (by omega) (by omega)]
theorem lowD_step {x : Nat} (hx : x ≠ 0) : lowD x x = digN (x % 10000000000000000000) 19 ++ lowD (x / 10000000000000000000) (x / 10000000000000000000) := by
 obtain ⟨f, rfl⟩ : ∃ f, x = f + 1 := ⟨x - 1, by omega⟩
 rw [lowD, if_neg hx, lowD_more f ((f + 1) / 10000000000000000000) _ (by omega) (Nat.le_refl _)]
def OB (gO gB : Nat) (O : List Int) (r : List Value) (c : Nat) : List Box := [⟨gO, [.slice (some ⟨gB, 0, none⟩) O.length c], 22⟩, ⟨gB, cl .u8 O r, 5⟩]
abbrev OG (n : Nat) : Type := {p : Nat × List Value × Nat // n + p.2.1.length = p.2.2}
abbrev OGb (gO : Nat) (O : List Int) (p : OG O.length) : List Box := OB gO p.1.1 O p.1.2.1 p.1.2.2
theorem divWord_n (x : Nat) (A : Option Addr) (c : Nat) (hx : Sm x) (d : Nat) (hd : 0 < d) (hdB : d < 18446744073709551616) : CtRV Tryd.prog 149 [.slice A (ofN B64 x).length c, .int .u64 (d : Int)] [Row .u64 A c (ofN B64 x)] .u64 (ofN B64 (x / d)) (.int .u64 ((x % d : Nat) : Int)) := by
 obtain ⟨d1, n1, v1⟩ := ofN_spec B64_2 x
 obtain ⟨d2, n2, v2⟩ := ofN_spec B64_2 (x / d)
 have hl := hx.len64
 have := ct_impl_nat_divWord_rows _ A c d d1 (by omega) hd hdB _ d2 n2 (by rw [v2, v1])
 rw [v1] at this
 exact this
theorem ct_impl_nat_groups_1 (gA gO l : Nat) (lo : Obj) (x : Nat) (hx : Sm x) (A : Option Addr) (cA : Nat)
  (hy : ∀ (d : Nat) (O : List Int) (gB : Nat) (r : List Value) (c : Nat), d < 10000000000000000000 → O.length + r.length = c → O.length ≤ 1000000 → CtY Tryd.prog l [.int .u64 (d : Int)] (⟨l, [], .ob lo⟩ :: OB gO gB O r c) [] (γ := OG (O ++ digN d 19).length) (fun _ => .bool true) (fun p => ⟨l, [], .ob lo⟩ :: OGb gO (O ++ digN d 19) p) (fun _ => [])) :
  ∀ (O : List Int) (gB : Nat) (r : List Value) (c : Nat), O.length + r.length = c → O.length + (lowD x x).length ≤ 900000 →
  CtM Tryd.prog 152 [.func (.yield l) #[] #[], .pointer (some ⟨gA, 0, none⟩)] ([⟨l, [], .ob lo⟩, ⟨gA, [.slice A (ofN B64 x).length cA], 91⟩] ++ OB gO gB O r c) [Row .u64 A cA (ofN B64 x)] (γ := OG (O ++ lowD x x).length) (fun _ => .tuple #[]) (fun p => ⟨l, [], .ob lo⟩ :: OGb gO (O ++ lowD x x) p) (fun _ => []) := by
 intro O gB r c hc hlen
 refine cm_of Tryd.func152 rfl (by kernel_rfl) (fun B w0 => ?_)
 refine SW_block ?_
 refine SW_loopn (fun m s => ∃ (A : Option Addr) (cA : Nat) (O1 : List Int) (gB : Nat) (r : List Value) (c : Nat), O1 ++ lowD m m = O ++ lowD x x ∧ O1.length + r.length = c ∧ m ≤ x ∧ Weak s ⟨[(0, .func (.yield l) #[] #[]), (1, .pointer (some ⟨gA, 0, none⟩))], [⟨l, [], .ob lo⟩, ⟨gA, [.slice A (ofN B64 m).length cA], 91⟩, ⟨gO, [.slice (some ⟨gB, 0, none⟩) O1.length c], 22⟩, ⟨gB, cl .u8 O1 r, 5⟩], [Row .u64 A cA (ofN B64 m)]⟩) x ⟨A, cA, O, gB, r, c, rfl, hc, Nat.le_refl _, ?_⟩ (fun m s hI => ?_)
 ·exact xw (zsS zi0 zs0)
 ·obtain ⟨A, cA, O1, gB, r, c, h1, h2, h3, hw⟩ := hI
  refine SW_weak hw ?_
  clear hw
  by_cases hm : m = 0
  ·subst hm
   rw [ofN_nil B64_2]
   rw [show lowD 0 0 = [] from rfl, List.append_nil] at h1
   subst h1
   refine SW_seq ?_
   refine xr [(0, [1])] [(6, .bool false)] ?_
   refine xs0 ?_
   refine SW_exit ?_
   refine xmfg (.tuple #[]) [] ?_
   exact ⟨⟨(gB, r, c), h2⟩, [true, false, true, true], rfl, rfl, zs0⟩
  ·have sm : Sm m := hx.mono h3
   have hz : 0 < (ofN B64 m).length := by
    rcases Nat.eq_zero_or_pos (ofN B64 m).length with h | h
    ·exact absurd ((ofN_zero B64_2 m).1 h) hm
    ·exact h
   have z : decide (((ofN B64 m).length : Int) > 0) = true := decide_eq_true (by omega)
   have cd := divWord_n m A cA sm 10000000000000000000 (by decide) (by decide)
   have hl1 : O1.length ≤ 900000 := by
    have := congrArg List.length h1
    simp only [List.length_append] at this
    omega
   rw [lowD_step hm, ← List.append_assoc] at h1
   have hlt : m % 10000000000000000000 < 10000000000000000000 := Nat.mod_lt _ (by decide)
   have hle : m / 10000000000000000000 < m := Nat.div_lt_self (by omega) (by decide)
   have cy := hy (m % 10000000000000000000) O1 gB r c hlt h2 (by omega)
   obtain ⟨q, hq⟩ : ∃ q, m / 10000000000000000000 = q := ⟨_, rfl⟩
   obtain ⟨d, hd⟩ : ∃ d, m % 10000000000000000000 = d := ⟨_, rfl⟩
   rw [hq, hd] at h1
   rw [hd] at cy
   rw [hq] at hle
   have cd' : CtRV Tryd.prog 149 [.slice A (ofN B64 m).length cA, .int .u64 10000000000000000000] [Row .u64 A cA (ofN B64 m)] .u64 (ofN B64 q) (.int .u64 (d : Int)) := by rw [← hq, ← hd]; exact cd
   clear cd hq hd hlt hy
   refine SW_seq ?_
   refine xr [(0, [1])] [(6, .bool (decide ((((List.length (ofN B64 m)) : Nat) : Int) > 0)))] ?_
   refine xst z ?_
   refine SW_skip ?_
   refine SW_block ?_
   refine xr [] [(3, .int .u64 0)] ?_
   refine xg ?_
   refine xn 1 [(0, [1])] [(8, .slice A (List.length (ofN B64 m)) cA)] ?_
   refine xct 9 cd' (zsS zi0 zs0) (fun A0 k0 => ?_)
   refine xy [(5, [1])] [(3, .int .u64 (d : Int))] [(1, [.slice A0 (List.length (ofN B64 q)) k0])] ?_
   refine xg ?_
   refine xn 2 [] [(13, .int .u64 (d : Int)), (12, Value.func (Fn.yield l) #[] #[])] ?_
   refine xcy 14 [true, false, true, true] cy zs0 (fun p => ?_)
   obtain ⟨⟨gB2, r2, c2⟩, hc2⟩ := p
   dsimp only at hc2
   refine xz [] [(15, .bool false)] ?_
   refine xs0 ?_
   refine SW_skip ?_
   refine ⟨q, hle, A0, k0, O1 ++ digN d 19, gB2, r2, c2, h1, hc2, by omega, ?_⟩
   exact xw (zsS zi0 zs0)
end Go.Proofs.YtgknelgplmohoaaDoor.M
end
section
namespace Go.Proofs.YtgknelgplmohoaaDoor.X
open Go.RowKit Go.Proofs.YtgknelgplmohoaaDoorV.PrintWords Go.Proofs.YtgknelgplmohoaaDoorV.PrintLast
set_option linter.unusedVariables false
set_option linter.unusedSimpArgs false
def psV (r : Option (Next × List Box × List (Nat × Nat))) : List (Nat × Nat) := match r with
  | none => []
  | some (_, _, ps) => ps
section
variable {X : Cx} {env : List (Nat × Value)} {bs : List Box} {fs : List Fact} {K : Exit → St → Prop} {ops : Array Oper} {s0 : St} {ds : List Nat} {lv : Bool} {l : List Bool}
theorem dx1 {s : St} (i : Nat) (h : RWs X ops ds s0 lv l s K i) (hr : (readyT (rtab .any ops).2 l == [i]) = true := by kernel_rfl) : RW X ops ds s0 lv l s K := RW_one rfl hr h
theorem RWs_val {i d : Nat} {o : Oper} (v : Value) (ho : ops[i]? = some o) (hg : guardD ops env o = some true) (hf : fitO X.n env o = true) (hd : o.dst = some d)
    (hv : ∀ w, WB bs w → (∀ F ∈ fs, F w) → (execOp (evD env) o).run X.P w = .ok (.value v) w) (h : RW X ops ds s0 lv (l.set i true) ⟨(d, v) :: env, bs, fs⟩ K) : RWs X ops ds s0 lv l ⟨env, bs, fs⟩ K i := by
  obtain ⟨h1, h2, h3⟩ := fitO_spec hf
  refine RWs_on (s := ⟨env, bs, fs⟩) ho hg (fun a w ha hw hS => ?_)
  unfold Oper.wp
  rw [ha.exec h2 h3, hv w hw.box (fun F hF => (hw.fact F hF).now), Oper.upon_value, hd]
  exact ⟨fun _ h => h, h _ _ (ha.put (some d) (by rw [← hd]; exact dstOk_lt h1) v) (hw.put (some d) v) hS⟩
theorem dxr (i d : Nat) (hs : List Nat) (v : Value) {o : Oper} (h : RW X ops ds s0 lv (l.set i true) ⟨(d, v) :: env, bs, fs⟩ K)
    (ho : ops[i]? = some o := by rfl) (hg : guardD ops env o = some true := by kernel_rfl) (hf : fitO X.n env o = true := by kernel_rfl) (hd : o.dst = some d := by rfl)
    (hr : runA X.P (execOp (evD env) o) bs hs none = some (.value v, bs, fsts (psV (runA X.P (execOp (evD env) o) bs hs none))) := by kernel_rfl) : RWs X ops ds s0 lv l ⟨env, bs, fs⟩ K i := by
  obtain ⟨h1, h2, h3⟩ := fitO_spec hf
  refine RWs_on (s := ⟨env, bs, fs⟩) ho hg (fun a w ha hw hS => ?_)
  obtain ⟨w', hrun, hext⟩ := runA_sound X.P _ hr (AllEq_fsts _) hw.box hw.nodup (fun i hi => by cases hi)
  have hb := ext_below hext (fun b hb => hb) hw.box
  unfold Oper.wp
  rw [ha.exec h2 h3, hrun, Oper.upon_value, hd]
  exact ⟨fun _ h0 => h0.call hb, h _ _ (ha.put (some d) (by rw [← hd]; exact dstOk_lt h1) v) ((hw.ext hext _).put (some d) v) (fun hl => (hS hl).call hb)⟩
theorem dxi (i d e g n c m : Nat) (k : IntKind) {o : Oper} {t : TypeId} {x ix : Operand} (hm : m < n) (h : RW X ops ds s0 lv (l.set i true) ⟨(d, .pointer (some ⟨g, m, none⟩)) :: env, bs, fs⟩ K)
    (ho : ops[i]? = some o := by rfl) (hop : o.op = .indexAddr t x ix := by rfl) (hg : guardD ops env o = some true := by kernel_rfl) (hf : fitO X.n env o = true := by kernel_rfl) (hd : o.dst = some d := by rfl)
    (hx : evD env x = .slice (some ⟨g, 0, none⟩) n c := by kernel_rfl) (hi : evD env ix = .int k (m : Int) := by kernel_rfl) (ht : ∀ w, (underlying t).run X.P w = .ok (.slice e) w := by intro w; kernel_rfl) (hs : ∀ w, (sizeOf e).run X.P w = .ok 1 w := by intro w; kernel_rfl) : RWs X ops ds s0 lv l ⟨env, bs, fs⟩ K i :=
  RWs_val _ ho hg hf hd (fun w _ _ => by rw [run_idx hop hx hi ht hs (by omega) (by omega) w, Int.toNat_natCast, add_base]) h
theorem dxs (i h g m : Nat) (k : IntKind) (xs : List Int) (r : List Value) (ty : TypeId) (x : Int) {o : Oper} {t : TypeId} {a y : Operand} (hm : m < xs.length) (hk : RW X ops ds s0 false (l.set i true) ⟨env, upC bs h (cl k (xs.set m x) r), fs⟩ K)
    (hb : bs[h]? = some ⟨g, cl k xs r, ty⟩ := by kernel_rfl) (ho : ops[i]? = some o := by rfl) (hop : o.op = .store t a y := by rfl) (hg : guardD ops env o = some true := by kernel_rfl) (hf : fitO X.n env o = true := by kernel_rfl) (hd : o.dst = none := by rfl) (hi : ds.contains i = true := by kernel_rfl)
    (ha : evD env a = .pointer (some ⟨g, m, none⟩) := by kernel_rfl) (hx : evD env y = .int k x := by kernel_rfl) (ht : (X.P.info? t).map (·.size) = some 1 := by kernel_rfl) : RWs X ops ds s0 lv l ⟨env, bs, fs⟩ K i := by
  obtain ⟨f1, f2, f3⟩ := fitO_spec hf
  refine RWs_on (s := ⟨env, bs, fs⟩) ho hg (fun a' w ha' hw hS => ?_)
  have := run_store_run (P := X.P) (w := w) (o := m) t (.int k x) [.int k x] (hw.box _ (List.mem_of_getElem? hb)) rfl ht (by simp [cl_len]; omega) (by simp [Value.oneCell'])
  have hrun : (execOp (evD env) o).run X.P w = .ok .skip (w.setCells g m [.int k x]) := by
    unfold execOp
    simp only [hop, ha, hx, Sem.run_bind, this]
    rfl
  unfold Oper.wp
  rw [ha'.exec f2 f3, hrun, Oper.upon_skip, hd]
  exact ⟨fun hn => absurd (by simpa using hi) hn, hk _ _ ⟨ha'.size, ha'.defers, ha'.env⟩ (hw.ext (set_ext hw.box hw.nodup hb hm x) env) (fun hl => by cases hl)⟩
end
end Go.Proofs.YtgknelgplmohoaaDoor.X
end
section
namespace Go.Proofs.YtgknelgplmohoaaDoor.X
open Go.RowKit Go.Proofs.YtgknelgplmohoaaDoorV.PrintWords Go.Proofs.YtgknelgplmohoaaDoorV.PrintLast
set_option linter.unusedVariables false
set_option linter.unusedSimpArgs false
abbrev mkB (g : Nat) (cs : List Value) (e : TypeId) (mk : Nat × Nat) : Box := ⟨g, [], .ob (.cells cs.toArray e mk)⟩
theorem run_mark {P : Program} {w : World} {g n c : Nat} {cs : List Value} {t e : TypeId} (hh : w.heap[g]? = some (.cells cs.toArray e (0, 0))) (ht : P.underlying t = some (.slice e)) (he : P.underlying e = some (.int .u8)) :
    (convert t t (.slice (some ⟨g, 0, none⟩) n c)).run P w = .ok (.slice (some ⟨g, 0, none⟩) n c) { w with heap := w.heap.setIfInBounds g (.cells cs.toArray e (cs.length, cs.length + 1)) } := by
  have hsh : w.shape? g = some (e, cs.length) := by
    unfold World.shape?
    rw [hh]
    simp
  have hfr : w.freeze ⟨g, cs.length, none⟩ 1 = { w with heap := w.heap.setIfInBounds g (.cells cs.toArray e (cs.length, cs.length + 1)) } := by
    unfold World.freeze
    rw [if_neg (by decide)]
    congr 1
    obtain ⟨hlt, hg⟩ := Array.getElem?_eq_some_iff.1 hh
    apply Array.ext
    · simp
    · intro i h1 h2
      rw [Array.getElem_modify]
      by_cases h : g = i
      · subst h
        rw [if_pos rfl, hg]
        simp
      · rw [if_neg h, Array.getElem_setIfInBounds]
        rw [if_neg h]
  simp [convert, run_underlying ht, run_underlying he, markStringish, hsh]
  exact hfr
theorem row_mk {w : World} {g c : Nat} {k : IntKind} {xs : List Int} {ty : TypeId} {mk : Nat × Nat} (h : w.heap[g]? = some (.cells (xs.map (Value.int k)).toArray ty mk)) (hx : xs.length ≤ 9223372036854775807) (hc : xs.length ≤ c) : Row k (some ⟨g, 0, none⟩) c xs w := by
  refine ⟨⟨rfl, hx, fun hp => ⟨⟨g, 0, none⟩, rfl, fun i x hi => ⟨[.int k x], rfl, rfl, fun m u hu => ?_⟩⟩⟩, hc⟩
  match m, hu with
  | 0, hu =>
    cases hu
    rw [add_base, Nat.add_zero]
    show w.cell? ⟨g, i * 1, none⟩ = _
    rw [Nat.mul_one, cell_of_row w g i _ ty mk h]
    simp [hi]
  | m + 1, hu => simp at hu
theorem Holds.fzM {X : Cx} {s : St} {w : World} (hw : Holds X s w) {h : Nat} {g c : Nat} {k : IntKind} {xs : List Int} {ty : TypeId} {mk : Nat × Nat} (hb : s.bs[h]? = some (mkB g (xs.map (Value.int k)) ty mk)) (hx : xs.length ≤ 9223372036854775807) (hc : xs.length ≤ c) (e : List (Nat × Value)) : Holds X ⟨e, delB s.bs h, Row k (some ⟨g, 0, none⟩) c xs :: s.fs⟩ w := by
  have h0 := hw.box _ (List.mem_of_getElem? hb)
  have hd := hw.del h e
  refine hd.facts [_] (fun G hG => ?_)
  rw [List.mem_singleton.1 hG]
  intro W' hW
  refine row_mk (ty := ty) (mk := mk) ((hW g ⟨fun hB => ?_, fun b hm he => ?_⟩ (blk_lt h0)).trans h0) hx hc
  · have h1 := hw.old g hB
    exact (hw.new _ (List.mem_of_getElem? hb)).elim (fun h2 => absurd h1.1 (Nat.not_lt.2 h2)) h1.2
  · exact delB_ne hw.nodup hb hm he.symm
section
variable {X : Cx} {env : List (Nat × Value)} {bs : List Box} {fs : List Fact} {K : Exit → St → Prop} {ops : Array Oper} {j : Nat}
theorem xmk (h d g n c : Nat) (cs : List Value) (e : TypeId) {o : Oper} {t : TypeId} {x : Operand} (hk : NW X ops (Nat.succ j) ⟨(d, .slice (some ⟨g, 0, none⟩) n c) :: env, putB bs h (.cells cs.toArray e (cs.length, cs.length + 1)), fs⟩ K)
    (hb : bs[h]? = some ⟨g, cs, e⟩ := by kernel_rfl) (ho : ops[j]? = some o := by rfl) (hop : o.op = .convert t t x := by rfl) (hg : guardD ops env o = some true := by kernel_rfl) (hf : fitO X.n env o = true := by kernel_rfl) (hd : o.dst = some d := by rfl)
    (hx : evD env x = .slice (some ⟨g, 0, none⟩) n c := by kernel_rfl) (ht : X.P.underlying t = some (.slice e) := by kernel_rfl) (he : X.P.underlying e = some (.int .u8) := by kernel_rfl) : NW X ops j ⟨env, bs, fs⟩ K := by
  obtain ⟨h1, h2, h3⟩ := fitO_spec hf
  refine NW_on (s := ⟨env, bs, fs⟩) ho hg (fun a w ha hw => ?_)
  have hrun := run_mark (P := X.P) (n := n) (c := c) (hw.box _ (List.mem_of_getElem? hb)) ht he
  have hex := putB_ext (w := w) (.cells cs.toArray e (cs.length, cs.length + 1)) hb rfl hw.box hw.nodup
  refine opV h2 (v := .slice (some ⟨g, 0, none⟩) n c) (w' := { w with heap := w.heap.setIfInBounds g (.cells cs.toArray e (cs.length, cs.length + 1)) }) (by
    rw [ha.exec h2 h3]
    unfold execOp
    simp only [hop, hx, Sem.run_bind, hrun]
    rfl) ?_
  rw [hd]
  have ha' : Agree X.fr ⟨env, putB bs h (.cells cs.toArray e (cs.length, cs.length + 1)), fs⟩ a := ⟨ha.size, ha.defers, ha.env⟩
  exact hk _ _ (ha'.put (some d) (by rw [← hd]; exact dstOk_lt h1) _) ((hw.ext hex env).put (some d) _)
theorem NW_fzM (h c g : Nat) (k : IntKind) (xs : List Int) (ty : TypeId) (mk : Nat × Nat) (hx : xs.length ≤ 9223372036854775807) (hc : xs.length ≤ c) (hk : NW X ops j ⟨env, delB bs h, Row k (some ⟨g, 0, none⟩) c xs :: fs⟩ K) (hb : bs[h]? = some (mkB g (xs.map (Value.int k)) ty mk) := by kernel_rfl) : NW X ops j ⟨env, bs, fs⟩ K :=
  fun a w ha hw => hk a w ⟨ha.size, ha.defers, ha.env⟩ (hw.fzM hb hx hc env)
end
end Go.Proofs.YtgknelgplmohoaaDoor.X
end
section
namespace Go.Proofs.YtgknelgplmohoaaDoor.M
open Go.RowKit Go.Proofs.YtgknelgplmohoaaDoor.G Go.Proofs.YtgknelgplmohoaaDoorV.PrintWords Go.Proofs.YtgknelgplmohoaaDoorV.PrintLast Go.Proofs.YtgknelgplmohoaaDoor.X
set_option linter.unusedVariables false
set_option linter.unusedSimpArgs false
theorem Holds_perm {X : Cx} {s : St} {w : World} (h : Holds X s w) (is : List Nat) (bs' : List Box) (hm : is.map (fun i => s.bs[i]?) = bs'.map some) (hn : is.Nodup) : Holds X ⟨s.env, bs', s.fs⟩ w := by
 obtain ⟨k1, k2⟩ := pickI _ _ _ hn hm h.nodup
 exact h.sub (fun b hb => by obtain ⟨i, _, hi⟩ := k2 b hb; exact List.mem_of_getElem? hi) k1 s.env
theorem ct_impl_nat_groups (n c : Nat) (A : Option Addr) : CtM Tryd.prog 148 [.slice A n c] [] [] (γ := Nat) (fun g => .func (.func 152) #[] #[.pointer (some ⟨g, 0, none⟩)]) (fun g => [⟨g, [.slice A n c], 91⟩]) (fun _ => []) := by
 refine cm_of Tryd.func148 rfl (by kernel_rfl) (fun B w0 => ?_)
 refine xg ?_
 refine xb 1 [.slice A n c] 91 (fun g0 => ?_)
 refine xz [] [(2, Value.nilFunc)] ?_
 refine xr [] [(2, Value.func (Fn.func 152) #[] #[.pointer (some ⟨g0, 0, none⟩)])] ?_
 refine SW_ret ?_
 refine xmeg (Value.func (Fn.func 152) #[] #[.pointer (some ⟨g0, 0, none⟩)]) [] ?_
 exact ⟨g0, [true], rfl, rfl, zs0⟩
abbrev OW (n : Nat) : Type := {p : Nat × List Value × Nat // n + p.2.1.length = p.2.2}
def strip : List Int → List Int
 | [] => []
 | a :: l => if a = 48 then strip l else a :: l
def digT (x : Nat) : List Int := strip (lowD x x).reverse
def digT0 (x : Nat) : List Int := if digT x = [] then [48] else digT x
def digB (x g : Nat) (r : List Value) : Box := if digT x = [] then mkB g [.int .u8 48] 5 (1, 2) else ⟨g, cl .u8 (digT x) r, 5⟩
def swp (O : List Int) : Nat → List Int
 | 0 => O
 | i + 1 => ((swp O i).set i (rd (swp O i) ((O.length - 1 - i : Nat) : Int))).set (O.length - 1 - i) (rd (swp O i) (i : Int))
theorem swp_len (O : List Int) (i : Nat) : (swp O i).length = O.length := by
 induction i with
 | zero => rfl
 | succ i ih => simp [swp, ih]
theorem swp_get (O : List Int) (i : Nat) (hi : 2 * i ≤ O.length) (k : Nat) : (swp O i)[k]? = if k < i ∨ (O.length - i ≤ k ∧ k < O.length) then O[O.length - 1 - k]? else O[k]? := by
 induction i generalizing k with
 | zero =>
  rw [if_neg (by omega)]
  rfl
 | succ i ih =>
  have h1 := ih (by omega) i
  have h2 := ih (by omega) (O.length - 1 - i)
  rw [if_neg (by omega)] at h1 h2
  have e1 : rd (swp O i) (i : Int) = O[i]'(by omega) := by
   rw [rd_nat, List.getD_eq_getElem?_getD, h1, List.getElem?_eq_getElem (by omega)]
   rfl
  have e2 : rd (swp O i) ((O.length - 1 - i : Nat) : Int) = O[O.length - 1 - i]'(by omega) := by
   rw [rd_nat, List.getD_eq_getElem?_getD, h2, List.getElem?_eq_getElem (by omega)]
   rfl
  rw [swp, e1, e2, List.getElem?_set, List.getElem?_set, List.length_set, swp_len]
  by_cases c1 : O.length - 1 - i = k
  ·subst c1
   rw [if_pos rfl, if_pos (by omega), if_pos (by omega), List.getElem?_eq_getElem (by omega)]
   congr 2
   omega
  ·rw [if_neg c1]
   by_cases c2 : i = k
   ·subst c2
    rw [if_pos rfl, if_pos (by omega), if_pos (by omega), List.getElem?_eq_getElem (by omega)]
   ·rw [if_neg c2, ih (by omega) k]
    by_cases c3 : k < i ∨ (O.length - i ≤ k ∧ k < O.length)
    ·rw [if_pos c3, if_pos (by omega)]
    ·rw [if_neg c3, if_neg (by omega)]
theorem swp_rev (O : List Int) (i : Nat) (h1 : 2 * i ≤ O.length) (h2 : O.length ≤ 2 * i + 1) : swp O i = O.reverse := by
 apply List.ext_getElem?
 intro k
 rw [swp_get O i h1 k]
 by_cases hk : k < O.length
 ·rw [List.getElem?_reverse hk]
  by_cases c : k < i ∨ (O.length - i ≤ k ∧ k < O.length)
  ·rw [if_pos c]
  ·rw [if_neg c]
   congr 1
   omega
 ·rw [if_neg (by omega), List.getElem?_eq_none (by omega), List.getElem?_eq_none (by simp; omega)]
theorem ct_impl_nat_digits (x : Nat) (hx : Sm x) (hlen : (lowD x x).length ≤ 900000) (A : Option Addr) (cA : Nat) :
  CtM Tryd.prog 127 [.slice A (ofN B64 x).length cA] [] [Row .u64 A cA (ofN B64 x)] (γ := OW (digT0 x).length) (fun p => .slice (some ⟨p.1.1, 0, none⟩) (digT0 x).length p.1.2.2) (fun p => [digB x p.1.1 p.1.2.1]) (fun _ => []) := by
 refine cm_ofY Tryd.func127 rfl (by kernel_rfl) (fun B w0 M => ?_)
 refine SQ_cut (K := fun _ _ => False) (fun s => Weak s ⟨[(0, .slice A (ofN B64 x).length cA)], [], [Row .u64 A cA (ofN B64 x)]⟩) ?_ (fun _ _ _ _ _ _ z => z.elim) (fun s hw => ?_)
 ·refine xrl [] [(2, .slice none 0 0)] ?_
  exact xw (zsS zi0 zs0)
 refine SQ_weak hw ?_
 clear hw
 refine SQ_cut (K := fun _ _ => False) (fun s => ∃ gO gB, Weak s ⟨[(0, .slice A (ofN B64 x).length cA), (3, .pointer (some ⟨gO, 0, none⟩))], [⟨gB, cl .u8 [] [], 5⟩, ⟨gO, [.slice (some ⟨gB, 0, none⟩) 0 0], 22⟩], [Row .u64 A cA (ofN B64 x)]⟩) ?_ (fun _ _ _ _ _ _ z => z.elim) (fun s hw => ?_)
 ·refine SW_region ?_
  refine xbl 7 [] 5 0 (fun g0 => ?_)
  refine xb 3 [.slice none 0 0] 22 (fun g1 => ?_)
  refine xy [(2, [1])] [] [(1, [.slice (some ⟨g0, 0, none⟩) 0 0])] ?_
  refine ⟨(g1), (g0), xw (zsS zi0 zs0)⟩
 obtain ⟨gO, gB, hw⟩ := hw
 refine SQ_weak hw ?_
 clear hw
 refine SQ_seq ?_
 refine SQ_cut (K := fun _ _ => False) (fun s => ∃ gA, Weak s ⟨[(3, .pointer (some ⟨gO, 0, none⟩)), (9, .func (.func 152) #[] #[.pointer (some ⟨gA, 0, none⟩)])], [⟨gB, cl .u8 [] [], 5⟩, ⟨gO, [.slice (some ⟨gB, 0, none⟩) 0 0], 22⟩, ⟨gA, [.slice A (ofN B64 x).length cA], 91⟩], [Row .u64 A cA (ofN B64 x)]⟩) ?_ (fun _ _ _ _ _ _ z => z.elim) (fun s hw => ?_)
 ·refine SW_region ?_
  refine xn 1 [] [(8, .slice A (List.length (ofN B64 x)) cA)] ?_
  refine xcm 9 [false] (ct_impl_nat_groups (List.length (ofN B64 x)) (cA) (A)) zs0 (fun z0 => ?_)
  refine xz [] [] ?_
  refine ⟨(z0), xw (zsS zi0 zs0)⟩
 obtain ⟨gA, hw⟩ := hw
 refine SQ_weak hw ?_
 clear hw
 refine SQ_block (SQ_range 152 #[.pointer (some ⟨gA, 0, none⟩)] rfl (fun args w => by kernel_rfl) rfl (fun fn tm D l hT w hw => ?_))
 have hw2 := Holds_perm hw [4, 2, 1, 0, 3] (⟨l, [], .ob (loopO .ready fn tm _ _ _ D)⟩ :: ⟨gA, [.slice A (ofN B64 x).length cA], 91⟩ :: OB gO gB [] [] 0 ++ [⟨D, [], .ob (.deferred (some []))⟩]) rfl (by decide)
 have hG := fun hy => (ct_impl_nat_groups_1 gA gO l _ x hx A cA hy [] gB [] 0 rfl (by simpa using hlen)).call rfl hw2 [true, true, true, true] rfl (zsS zi0 zs0) [(3, .pointer (some ⟨gO, 0, none⟩)), (9, .func (.func 152) #[] #[.pointer (some ⟨gA, 0, none⟩)])]
 refine (hG (fun d O gB r c hd hc hl => ?_)).mono ?_
 ·refine cy_of (env1 := [(4, .int .u64 (d : Int)), (3, .pointer (some ⟨gO, 0, none⟩))]) hT (Nat.le_of_ble_eq_true (by kernel_rfl)) (fun B w0 => ?_) (fun B w0 => ?_)
  ·refine xrl [] [(4, .int .u64 (d : Int))] ?_
   exact xw zs0
  ·generalize loopO .busy fn tm _ _ _ D = o1, loopO .ready fn tm _ _ _ D = o2
   refine SW_block ?_
   refine xr [] [(11, .int .i64 0)] ?_
   refine SW_block ?_
   refine SW_loopn (fun m s => ∃ (n dd : Nat) (O2 : List Int) (gB : Nat) (r : List Value) (c : Nat), n + m = 19 ∧ dd = d / 10 ^ n ∧ O2 = O ++ digN d n ∧ O2.length + r.length = c ∧ Weak s ⟨[(11, .int .i64 n), (4, .int .u64 (dd : Int)), (3, .pointer (some ⟨gO, 0, none⟩))], [⟨l, [], .ob o1⟩, ⟨gO, [.slice (some ⟨gB, 0, none⟩) O2.length c], 22⟩, ⟨gB, cl .u8 O2 r, 5⟩], []⟩) 19 ⟨0, d, O, gB, r, c, rfl, by simp, by simp [digN], hc, ?_⟩ (fun m s hI => ?_)
   ·exact xw zs0
   ·obtain ⟨n, dd, O2, gB, r, c, h1, h2, h3, h4, hw⟩ := hI
    refine SW_weak hw ?_
    clear hw
    by_cases hm : n = 19
    ·have z : decide ((n : Int) < 19) = false := decide_eq_false (by omega)
     clear h1
     subst hm h3
     refine xr [] [(12, .bool false)] ?_
     refine SW_seq ?_
     refine xs0 ?_
     refine SW_exit ?_
     exact ⟨⟨(gB, r, c), h4⟩, [true, true], _, rfl, rfl, zs0⟩
    ·have z : decide ((n : Int) < 19) = true := decide_eq_true (by omega)
     have h5 : dd < 18446744073709551616 := by
      have := Nat.div_le_self d (10 ^ n)
      omega
     have h6 : O2.length ≤ 1000019 := by
      rw [h3, List.length_append, digN_len]
      omega
     have h7 : O2 ++ [((48 + dd % 10 : Nat) : Int)] = O ++ digN d (n + 1) := by rw [h3, digN, h2, List.append_assoc]
     have h8 : dd / 10 = d / 10 ^ (n + 1) := by rw [h2, Nat.div_div_eq_div_mul, Nat.pow_succ]
     have v1 : Ve (IntKind.u8.wrap (IntKind.u64.wrap (48 + ((dd : Int)).tmod 10))) ((48 + dd % 10 : Nat) : Int) := ⟨by
      rw [Int.tmod_eq_emod_of_nonneg (by omega)]
      simp [IntKind.wrap, IntKind.bits, IntKind.signed]
      omega⟩
     have v2 : Ve (IntKind.u64.wrap (((dd : Int)).tdiv 10)) ((dd / 10 : Nat) : Int) := ⟨by
      rw [Int.tdiv_eq_ediv_of_nonneg (by omega)]
      simp [IntKind.wrap, IntKind.bits, IntKind.signed]
      omega⟩
     have v3 : Ve (IntKind.i64.wrap ((n : Int) + 1)) ((n + 1 : Nat) : Int) := ⟨by rw [wrap_i64 (by omega)]; rfl⟩
     obtain ⟨y, hy⟩ : ∃ y, 48 + dd % 10 = y := ⟨_, rfl⟩
     obtain ⟨q, hq⟩ : ∃ q, dd / 10 = q := ⟨_, rfl⟩
     rw [hy] at v1 h7
     rw [hq] at v2 h8
     clear hy hq
     clear h2 h3
     refine xr [] [(12, .bool (decide ((n : Int) < 19)))] ?_
     refine SW_seq ?_
     refine xst z ?_
     refine SW_skip ?_
     refine SW_seq ?_
     refine SW_block ?_
     refine xg ?_
     refine xn 4 [(0, [1])] [(16, .int .u64 (IntKind.wrap IntKind.u64 (48 + Int.tmod (dd : Int) 10))), (15, .int .u64 (Int.tmod (dd : Int) 10)), (14, .int .u64 (dd : Int)), (13, .slice (some ⟨gB, 0, none⟩) (List.length O2) c)] ?_
     refine xve 17 IntKind.u8 (IntKind.wrap IntKind.u8 (IntKind.wrap IntKind.u64 (48 + Int.tmod (dd : Int) 10))) ((y : Int)) v1 ?_
     refine xbl 18 [.int .u8 (y : Int)] 5 1 (fun g0 => ?_)
     refine xap 19 2 3 1 5 1 (gB) (g0) (c) (1) IntKind.u8 5 (O2) (r) [(y : Int)] (by omega) (by omega) (fun g1 r0 c0 hc0 => ?_)
     refine xy [(7, [1])] [] [(1, [.slice (some ⟨g1, 0, none⟩) (List.length (O2 ++ [(y : Int)])) c0])] ?_
     refine SW_region ?_
     refine xn 1 [] [(20, .int .u64 (dd : Int))] ?_
     refine xve 21 IntKind.u64 (IntKind.wrap IntKind.u64 (Int.tdiv (dd : Int) 10)) ((q : Int)) v2 ?_
     refine xz [] [(4, .int .u64 (q : Int))] ?_
     refine SW_region ?_
     refine xve 22 IntKind.i64 (IntKind.wrap IntKind.i64 ((n : Int) + 1)) ((((n + 1) : Nat) : Int)) v3 ?_
     refine xz [] [(11, .int .i64 (((n + 1) : Nat) : Int))] ?_
     refine ⟨m - 1, by omega, n + 1, q, O2 ++ [(y : Int)], g1, r0, c0, by omega, h8, h7, by assumption, ?_⟩
     exact xw zs0
 ·rintro en w' ⟨⟨⟨gB2, r2, c2⟩, hc2⟩, rfl, hx2⟩
  dsimp only at hc2
  refine ⟨_, _, _, 0, rfl, hx2, rfl, fun a w ha hw => ?_⟩
  refine wpIn_mono ((?_ : SW (Cx.push ⟨Tryd.prog, Tryd.f127.ntmps, B, ⟨w0, M, []⟩, none⟩ ⟨.collected D, #[]⟩) _ _ (RetL (Cx.push ⟨Tryd.prog, Tryd.f127.ntmps, B, ⟨w0, M, []⟩, none⟩ ⟨.collected D, #[]⟩) Tryd.f127 (LvM Tryd.prog Tryd.f127 (LeftM _ B ⟨w0, M, []⟩ _ _ _)))) a w ha hw) RetL.postM
  clear ha hw hx2 hG hw2
  refine SW_weak2 (t := ⟨[(3, .pointer (some ⟨gO, 0, none⟩))], [⟨gO, [.slice (some ⟨gB2, 0, none⟩) (lowD x x).length c2], 22⟩, ⟨gB2, cl .u8 (lowD x x) r2, 5⟩, ⟨D, [], .ob (.deferred (some []))⟩], []⟩) (xw2 [false, true, true, true] zs0) ?_
  replace hc2 : (lowD x x).length + r2.length = c2 := hc2
  have hR : digT0 x = if strip (lowD x x).reverse = [] then [48] else strip (lowD x x).reverse := rfl
  have hRB : ∀ g r, digB x g r = if strip (lowD x x).reverse = [] then mkB g [.int .u8 48] 5 (1, 2) else ⟨g, cl .u8 (strip (lowD x x).reverse) r, 5⟩ := fun _ _ => rfl
  generalize lowD x x = L at hlen hc2 hR hRB ⊢
  refine SW_cut (fun s => ∃ (n : Nat) (O : List Int) (r : List Value), O.length = n ∧ O.reverse = strip L.reverse ∧ n + r.length = c2 ∧ n ≤ 900000 ∧ Weak s ⟨[(3, .pointer (some ⟨gO, 0, none⟩))], [⟨gO, [.slice (some ⟨gB2, 0, none⟩) n c2], 22⟩, ⟨gB2, cl .u8 O r, 5⟩, ⟨D, [], .ob (.deferred (some []))⟩], []⟩) ?_ (fun s hs => ?_)
  ·refine SW_block ?_
   refine SW_loopn (fun n s => ∃ (O : List Int) (r : List Value), O.length = n ∧ strip O.reverse = strip L.reverse ∧ n + r.length = c2 ∧ n ≤ 900000 ∧ Weak s ⟨[(3, .pointer (some ⟨gO, 0, none⟩))], [⟨gO, [.slice (some ⟨gB2, 0, none⟩) n c2], 22⟩, ⟨gB2, cl .u8 O r, 5⟩, ⟨D, [], .ob (.deferred (some []))⟩], []⟩) L.length ⟨L, r2, rfl, rfl, hc2, hlen, ?_⟩ (fun m s hI => ?_)
   ·exact xw zs0
   ·obtain ⟨O, r, h1, h2, h3, h4, hw⟩ := hI
    refine SW_weak hw ?_
    clear hw
    rcases List.eq_nil_or_concat O with h | ⟨O3, y, h⟩
    ·subst h
     obtain rfl : m = 0 := h1.symm
     refine SW_seq ?_
     refine xr [(0, [0]), (4, [0]), (5, [0])] [(34, .bool false)] ?_
     refine xs0 ?_
     refine SW_exit ?_
     refine ⟨0, [], r, rfl, h2, h3, h4, ?_⟩
     exact xw zs0
    ·obtain ⟨k, rfl⟩ : ∃ k, m = k + 1 := ⟨O3.length, by rw [← h1, h]; simp⟩
     have hk : O3.length = k := by
      rw [h] at h1
      simpa using h1
     have z : decide (((k + 1 : Nat) : Int) > 0) = true := decide_eq_true (by omega)
     have v1 : Ve (IntKind.i64.wrap (((k + 1 : Nat) : Int) - 1)) (k : Int) := ⟨by rw [wrap_i64 (by omega)]; omega⟩
     have v2 : Ve (rd O (k : Int)) y := ⟨by rw [h, List.concat_eq_append, rd_mid O3 [] y k hk.symm]⟩
     have hcl : cl .u8 O r = cl .u8 O3 (.int .u8 y :: r) := by simp [cl, h]
     have hrev : O.reverse = y :: O3.reverse := by simp [h]
     clear h
     by_cases hy : y = 48
     ·have z2 : (y == 48) = true := by simp [hy]
      rw [hrev, strip, if_pos hy] at h2
      refine SW_seq ?_
      refine xg ?_
      refine xn 4 [(0, [0])] [(26, .bool (decide ((((k + 1) : Nat) : Int) > 0)))] ?_
      refine xkt 26 z ?_
      refine xn 7 [(4, [0]), (5, [0])] [(29, .int .i64 (((k + 1) : Nat) : Int)), (27, .slice (some ⟨gB2, 0, none⟩) (k + 1) c2)] ?_
      refine xve 30 IntKind.i64 (IntKind.wrap IntKind.i64 ((((k + 1) : Nat) : Int) - 1)) ((k : Int)) v1 ?_
      refine xoi 31 5 (gB2) (k + 1) (c2) (k) IntKind.i64 ((k : Int)) ⟨rfl⟩ (by omega) ?_
      refine xole 32 1 (gB2) (k) IntKind.u8 (O) (r) 5 (y) v2 (by first | omega | (simp <;> omega)) ?_
      refine xz [] [(34, .bool (y == 48))] ?_
      refine xst z2 ?_
      refine SW_skip ?_
      refine SW_block ?_
      refine SW_region ?_
      refine xn 3 [(0, [0]), (1, [0])] [(37, .int .i64 (((k + 1) : Nat) : Int)), (35, .slice (some ⟨gB2, 0, none⟩) (k + 1) c2)] ?_
      refine xve 38 IntKind.i64 (IntKind.wrap IntKind.i64 ((((k + 1) : Nat) : Int) - 1)) ((k : Int)) v1 ?_
      refine xsh 39 5 (some ⟨gB2, 0, none⟩) (k + 1) (c2) (k) IntKind.i64 ((k : Int)) ⟨rfl⟩ (by omega) ?_
      refine xy [(5, [0])] [] [(0, [.slice (some ⟨gB2, 0, none⟩) k c2])] ?_
      rw [hcl]
      refine ⟨k, by omega, O3, .int .u8 y :: r, hk, h2, ?_, by omega, ?_⟩
      rotate_left
      ·exact xw zs0
      ·simp only [List.length_cons]; omega
     ·have z2 : (y == 48) = false := by simp [hy]
      rw [hrev, strip, if_neg hy] at h2
      refine SW_seq ?_
      refine xg ?_
      refine xn 4 [(0, [0])] [(26, .bool (decide ((((k + 1) : Nat) : Int) > 0)))] ?_
      refine xkt 26 z ?_
      refine xn 7 [(4, [0]), (5, [0])] [(29, .int .i64 (((k + 1) : Nat) : Int)), (27, .slice (some ⟨gB2, 0, none⟩) (k + 1) c2)] ?_
      refine xve 30 IntKind.i64 (IntKind.wrap IntKind.i64 ((((k + 1) : Nat) : Int) - 1)) ((k : Int)) v1 ?_
      refine xoi 31 5 (gB2) (k + 1) (c2) (k) IntKind.i64 ((k : Int)) ⟨rfl⟩ (by omega) ?_
      refine xole 32 1 (gB2) (k) IntKind.u8 (O) (r) 5 (y) v2 (by first | omega | (simp <;> omega)) ?_
      refine xz [] [(34, .bool (y == 48))] ?_
      refine xsf z2 ?_
      refine SW_exit ?_
      refine ⟨k + 1, O, r, h1, by rw [hrev, h2], h3, h4, ?_⟩
      exact xw zs0
  obtain ⟨n, O, r, h1, h2, h3, h4, hw⟩ := hs
  refine SW_weak hw ?_
  clear hw hc2
  rw [← h2] at hR
  simp only [← h2] at hRB
  clear h2
  refine SW_cut (fun s => Weak s ⟨[(3, .pointer (some ⟨gO, 0, none⟩))], [⟨gO, [.slice (some ⟨gB2, 0, none⟩) n c2], 22⟩, ⟨gB2, cl .u8 O.reverse r, 5⟩, ⟨D, [], .ob (.deferred (some []))⟩], []⟩) ?_ (fun s hw => ?_)
  ·refine xd (fun hB => ?_)
   refine xdk [(0, [0]), (1, []), (2, []), (3, []), (4, [])] [(6, .int .i64 (IntKind.wrap IntKind.i64 ((n : Int) - 1))), (5, .int .i64 0)] hB ?_
   refine xdz ?_
   refine SW_block ?_
   refine SW_loopn (fun m s => ∃ (i : Nat) (J : Int) (P : List Int), i + m = n ∧ 2 * i ≤ n ∧ J = (n : Int) - 1 - i ∧ P = swp O i ∧ Weak s ⟨[(3, .pointer (some ⟨gO, 0, none⟩)), (5, .int .i64 (i : Int)), (6, .int .i64 J)], [⟨gO, [.slice (some ⟨gB2, 0, none⟩) n c2], 22⟩, ⟨gB2, cl .u8 P r, 5⟩, ⟨D, [], .ob (.deferred (some []))⟩], []⟩) n ⟨0, (n : Int) - 1, O, by omega, by omega, by omega, rfl, ?_⟩ (fun m s hI => ?_)
   ·rw [wrap_i64 (by omega)]
    exact xw zs0
   ·obtain ⟨i, J, P, g1, g2, g3, g4, hw⟩ := hI
    refine SW_weak hw ?_
    clear hw
    have hl : P.length = n := by rw [g4, swp_len, h1]
    by_cases hi : 2 * i + 1 < n
    ·obtain ⟨j, rfl⟩ : ∃ j : Nat, J = (j : Int) := ⟨n - 1 - i, by omega⟩
     have hj : j = O.length - 1 - i := by omega
     have hij : i < j := by omega
     have hjn : j < n := by omega
     have z : decide ((i : Int) < (j : Int)) = true := decide_eq_true (by omega)
     have v1 : Ve (IntKind.i64.wrap ((i : Int) + 1)) ((i + 1 : Nat) : Int) := ⟨by rw [wrap_i64 (by omega)]; omega⟩
     have v2 : Ve (IntKind.i64.wrap ((j : Int) - 1)) ((j - 1 : Nat) : Int) := ⟨by rw [wrap_i64 (by omega)]; omega⟩
     have hs : (P.set i (rd P (j : Int))).set j (rd P (i : Int)) = swp O (i + 1) := by rw [swp, ← hj, ← g4]
     have e1 : ((j - 1 : Nat) : Int) = (n : Int) - 1 - (i + 1 : Nat) := by omega
     clear g4 hj g3
     refine SW_seq ?_
     refine xr [] [(45, .bool (decide ((i : Int) < (j : Int))))] ?_
     refine xst z ?_
     refine SW_skip ?_
     refine SW_seq ?_
     refine SW_block ?_
     refine xdl (fun hB => ?_)
     refine xdk [(0, [0]), (1, []), (3, []), (4, [0]), (5, []), (8, [0]), (9, [])] [(59, .int .i64 (i : Int)), (58, .slice (some ⟨gB2, 0, none⟩) n c2), (55, .int .i64 (j : Int)), (54, .slice (some ⟨gB2, 0, none⟩) n c2), (53, .int .i64 (j : Int)), (51, .int .i64 (i : Int)), (50, .slice (some ⟨gB2, 0, none⟩) n c2)] hB ?_
     refine xdoi 6 hB 56 5 (gB2) (n) (c2) (j) IntKind.i64 ((j : Int)) ⟨rfl⟩ (by omega) ?_
     refine xdol 7 hB 57 1 (gB2) (j) IntKind.u8 (P) (r) 5 (by first | omega | (simp <;> omega)) ?_
     refine xdoi 10 hB 60 5 (gB2) (n) (c2) (i) IntKind.i64 ((i : Int)) ⟨rfl⟩ (by omega) ?_
     refine xdol 11 hB 61 1 (gB2) (i) IntKind.u8 (P) (r) 5 (by first | omega | (simp <;> omega)) ?_
     refine xdoi 12 hB 62 5 (gB2) (n) (c2) (i) IntKind.i64 ((i : Int)) ⟨rfl⟩ (by omega) ?_
     refine xd2 2 13 (dxr 2 52 [0] (.slice (some ⟨gB2, 0, none⟩) n c2) ?_) (dxs 13 1 gB2 i .u8 P r 5 (rd P (j : Int)) (by omega) ?_)
     ·refine dx1 13 (dxs 13 1 gB2 i .u8 P r 5 (rd P (j : Int)) (by omega) ?_)
      refine dx1 14 (dxi 14 63 5 gB2 n c2 j .i64 hjn ?_)
      refine dx1 15 (dxs 15 1 gB2 j .u8 (P.set i (rd P (j : Int))) r 5 (rd P (i : Int)) (by simp; omega) ?_)
      rw [hs]
      refine xdz ?_
      refine SW_region ?_
      refine xn 1 [] [(46, .int .i64 (i : Int))] ?_
      refine xve 47 IntKind.i64 (IntKind.wrap IntKind.i64 ((i : Int) + 1)) ((((i + 1) : Nat) : Int)) v1 ?_
      refine xn 3 [] [(48, .int .i64 (j : Int))] ?_
      refine xve 49 IntKind.i64 (IntKind.wrap IntKind.i64 ((j : Int) - 1)) ((((j - 1) : Nat) : Int)) v2 ?_
      refine xz [] [(6, .int .i64 (((j - 1) : Nat) : Int)), (5, .int .i64 (((i + 1) : Nat) : Int))] ?_
      refine ⟨m - 1, by omega, i + 1, _, _, by omega, by omega, e1, rfl, ?_⟩
      exact xw zs0
     ·refine dx1 2 (dxr 2 52 [0] (.slice (some ⟨gB2, 0, none⟩) n c2) ?_)
      refine dx1 14 (dxi 14 63 5 gB2 n c2 j .i64 hjn ?_)
      refine dx1 15 (dxs 15 1 gB2 j .u8 (P.set i (rd P (j : Int))) r 5 (rd P (i : Int)) (by simp; omega) ?_)
      rw [hs]
      refine xdz ?_
      refine SW_region ?_
      refine xn 1 [] [(46, .int .i64 (i : Int))] ?_
      refine xve 47 IntKind.i64 (IntKind.wrap IntKind.i64 ((i : Int) + 1)) ((((i + 1) : Nat) : Int)) v1 ?_
      refine xn 3 [] [(48, .int .i64 (j : Int))] ?_
      refine xve 49 IntKind.i64 (IntKind.wrap IntKind.i64 ((j : Int) - 1)) ((((j - 1) : Nat) : Int)) v2 ?_
      refine xz [] [(6, .int .i64 (((j - 1) : Nat) : Int)), (5, .int .i64 (((i + 1) : Nat) : Int))] ?_
      refine ⟨m - 1, by omega, i + 1, _, _, by omega, by omega, e1, rfl, ?_⟩
      exact xw zs0
    ·have z : decide ((i : Int) < J) = false := decide_eq_false (by omega)
     rw [swp_rev O i (by omega) (by omega)] at g4
     subst g4
     refine SW_seq ?_
     refine xr [] [(45, .bool (decide ((i : Int) < J)))] ?_
     refine xsf z ?_
     refine SW_exit ?_
     exact xw zs0
  refine SW_weak hw ?_
  clear hw
  by_cases hn : n = 0
  ·subst hn
   obtain rfl := List.eq_nil_of_length_eq_zero h1
   rw [show (if ([] : List Int).reverse = [] then ([48] : List Int) else ([] : List Int).reverse) = [48] from rfl] at hR
   rw [hR]
   refine SW_seq ?_
   refine xr [(0, [0])] [(66, .bool true)] ?_
   refine xs1 ?_
   refine xg ?_
   refine xbl 67 [.int .u8 48] 5 1 (fun g0 => ?_)
   refine xmk 3 68 g0 1 1 [.int .u8 48] 5 ?_
   refine xz [] [(2, .slice (some ⟨g0, 0, none⟩) 1 1)] ?_
   refine SW_ret ?_
   exact leave_range 2 D ⟨(g0, [], 1), rfl⟩ [false, false, false, true] [] _ rfl (by rw [hRB]; rfl) zs0
  ·have z : ((n : Int) == 0) = false := by simp; omega
   have hne : ¬ O.reverse = [] := by
    intro h
    rw [List.reverse_eq_nil_iff] at h
    rw [h] at h1
    exact hn h1.symm
   rw [if_neg hne] at hR
   have hRB2 : digB x gB2 r = ⟨gB2, cl .u8 O.reverse r, 5⟩ := by rw [hRB, if_neg hne]
   have hlr : (digT0 x).length = n := by rw [hR, List.length_reverse, h1]
   rw [hlr]
   refine SW_seq ?_
   refine xr [(0, [0])] [(66, .bool ((n : Int) == 0))] ?_
   refine xsf z ?_
   refine SW_skip ?_
   refine xr [(0, [0])] [(2, .slice (some ⟨gB2, 0, none⟩) n c2)] ?_
   refine SW_ret ?_
   exact leave_range 2 D ⟨(gB2, r, c2), h3⟩ [false, true] [] _ rfl (by rw [hRB2]; rfl) zs0
end Go.Proofs.YtgknelgplmohoaaDoor.M
end
section
namespace Go.Proofs.YtgknelgplmohoaaDoor.M
open Go.RowKit Go.Proofs.YtgknelgplmohoaaDoor.G Go.Proofs.YtgknelgplmohoaaDoorV.PrintWords Go.Proofs.YtgknelgplmohoaaDoorV.PrintLast Go.Proofs.YtgknelgplmohoaaDoor.X
set_option linter.unusedVariables false
set_option linter.unusedSimpArgs false
def rdg : Nat → Nat → List Int
  | 0, _ => []
  | f + 1, x => if x = 0 then [] else ((48 + x % 10 : Nat) : Int) :: rdg f (x / 10)
theorem rdg_more : ∀ (f g x : Nat), x ≤ f → x ≤ g → rdg f x = rdg g x
  | 0, 0, _, _, _ => rfl
  | 0, g + 1, x, h, _ => by
    obtain rfl : x = 0 := by omega
    simp [rdg]
  | f + 1, 0, x, _, h => by
    obtain rfl : x = 0 := by omega
    simp [rdg]
  | f + 1, g + 1, x, h1, h2 => by
    by_cases hx : x = 0
    · simp [rdg, hx]
    · simp only [rdg, if_neg hx]
      rw [rdg_more f g (x / 10) (by omega) (by omega)]
def rdig (x : Nat) : List Int := rdg x x
theorem rdig_zero : rdig 0 = [] := rfl
theorem rdig_step {x : Nat} (hx : x ≠ 0) : rdig x = ((48 + x % 10 : Nat) : Int) :: rdig (x / 10) := by
  obtain ⟨f, rfl⟩ : ∃ f, x = f + 1 := ⟨x - 1, by omega⟩
  unfold rdig
  rw [rdg, if_neg hx, rdg_more f ((f + 1) / 10) _ (by omega) (Nat.le_refl _)]
theorem rdig_more (x : Nat) : ∀ n, x / 10 ^ n ≠ 0 → rdig x = digN x (n + 1) ++ rdig (x / 10 ^ (n + 1)) := by
  intro n
  induction n with
  | zero =>
    intro h
    rw [rdig_step (by simpa using h)]
    simp [digN]
  | succ n ih =>
    intro h
    have h0 : x / 10 ^ n ≠ 0 := by
      intro e
      apply h
      rw [Nat.pow_succ, ← Nat.div_div_eq_div_mul, e]
    rw [ih h0, rdig_step h, Nat.div_div_eq_div_mul, ← Nat.pow_succ]
    show _ = (digN x (n + 1) ++ [_]) ++ _
    rw [List.append_assoc]
    rfl
theorem rdig_less (x : Nat) : ∀ n, x / 10 ^ n = 0 → ∃ k, digN x n = rdig x ++ List.replicate k 48 := by
  intro n
  induction n with
  | zero =>
    intro h
    obtain rfl : x = 0 := by simpa using h
    exact ⟨0, rfl⟩
  | succ n ih =>
    intro h
    by_cases h0 : x / 10 ^ n = 0
    · obtain ⟨k, hk⟩ := ih h0
      refine ⟨k + 1, ?_⟩
      rw [digN, hk, h0, List.append_assoc, List.replicate_succ']
      rfl
    · refine ⟨0, ?_⟩
      rw [rdig_more x n h0, h, rdig_zero]
      simp
theorem digN_mod (x m n : Nat) (h : n ≤ m) : digN (x % 10 ^ m) n = digN x n := by
  induction n with
  | zero => rfl
  | succ n ih =>
    rw [digN, digN, ih (by omega)]
    obtain ⟨k, rfl⟩ : ∃ k, m = n + 1 + k := ⟨m - (n + 1), by omega⟩
    have : x % 10 ^ (n + 1 + k) / 10 ^ n % 10 = x / 10 ^ n % 10 := by
      rw [show n + 1 + k = n + (1 + k) by omega, Nat.pow_add, Nat.mod_mul_right_div_self, Nat.mod_mod_of_dvd]
      exact ⟨10 ^ k, by rw [Nat.pow_add]⟩
    rw [this]
theorem lowD_rdig : ∀ f x, x ≤ f → ∃ k, lowD x x = rdig x ++ List.replicate k 48 := by
  intro f
  induction f with
  | zero =>
    intro x hx
    obtain rfl : x = 0 := by omega
    exact ⟨0, rfl⟩
  | succ f ih =>
    intro x hx
    by_cases h0 : x = 0
    · subst h0
      exact ⟨0, rfl⟩
    rw [lowD_step h0]
    have e : (10000000000000000000 : Nat) = 10 ^ 19 := by decide
    rw [e, digN_mod x 19 19 (Nat.le_refl _)]
    by_cases h1 : x / 10 ^ 19 = 0
    · obtain ⟨k, hk⟩ := rdig_less x 19 h1
      refine ⟨k, ?_⟩
      rw [hk, h1]
      show _ ++ [] = _
      rw [List.append_nil]
    · have h2 : x / 10 ^ 18 ≠ 0 := by
        intro z
        apply h1
        rw [show (10 : Nat) ^ 19 = 10 ^ 18 * 10 from rfl, ← Nat.div_div_eq_div_mul, z]
      have hlt : x / 10 ^ 19 < x := Nat.div_lt_self (by omega) (by decide)
      obtain ⟨k, hk⟩ := ih (x / 10 ^ 19) (by omega)
      refine ⟨k, ?_⟩
      rw [hk, rdig_more x 18 h2, List.append_assoc]
theorem strip_zeros (k : Nat) (l : List Int) : strip (List.replicate k 48 ++ l) = strip l := by
  induction k with
  | zero => rfl
  | succ k ih => rw [List.replicate_succ, List.cons_append, strip, if_pos rfl, ih]
theorem rdig_last : ∀ f x, x ≤ f → x ≠ 0 → ∃ y t, (rdig x).reverse = y :: t ∧ y ≠ 48 := by
  intro f
  induction f with
  | zero =>
    intro x hx h0
    exact absurd hx (by omega)
  | succ f ih =>
    intro x hx h0
    by_cases h1 : x / 10 = 0
    · refine ⟨((48 + x % 10 : Nat) : Int), [], ?_, ?_⟩
      · rw [rdig_step h0, h1]
        rfl
      · omega
    · obtain ⟨y, t, e1, e2⟩ := ih (x / 10) (by omega) h1
      refine ⟨y, t ++ [((48 + x % 10 : Nat) : Int)], ?_, e2⟩
      rw [rdig_step h0, List.reverse_cons, e1]
      rfl
theorem digT_eq (x : Nat) : digT x = (rdig x).reverse := by
  obtain ⟨k, hk⟩ := lowD_rdig x x (Nat.le_refl _)
  unfold digT
  rw [hk, List.reverse_append, List.reverse_replicate, strip_zeros]
  by_cases h0 : x = 0
  · subst h0
    rfl
  · obtain ⟨y, t, e1, e2⟩ := rdig_last x x (Nat.le_refl _) h0
    rw [e1, strip, if_neg e2]
theorem rdig_nil {x : Nat} : rdig x = [] ↔ x = 0 := by
  constructor
  · intro h
    by_cases h0 : x = 0
    · exact h0
    · rw [rdig_step h0] at h
      cases h
  · rintro rfl
    rfl
theorem digT_nil {x : Nat} : digT x = [] ↔ x = 0 := by rw [digT_eq, List.reverse_eq_nil_iff, rdig_nil]
theorem digT0_zero : digT0 0 = [48] := rfl
theorem digT0_pos {x : Nat} (h : x ≠ 0) : digT0 x = (rdig x).reverse := by rw [digT0, if_neg (fun z => h (digT_nil.1 z)), digT_eq]
theorem lowD_len : ∀ (k f x : Nat), x < 10000000000000000000 ^ k → (lowD f x).length ≤ 19 * k
  | _, 0, _, _ => by simp [lowD]
  | 0, f + 1, x, h => by
    obtain rfl : x = 0 := by simpa using h
    simp [lowD]
  | k + 1, f + 1, x, h => by
    by_cases h0 : x = 0
    · simp [lowD, h0]
    · rw [lowD, if_neg h0, List.length_append, digN_len]
      have : x / 10000000000000000000 < 10000000000000000000 ^ k := by
        rw [Nat.div_lt_iff_lt_mul (by decide)]
        rwa [Nat.pow_succ] at h
      have := lowD_len k f _ this
      omega
theorem lowD_le {x m : Nat} (hx : x < 2 ^ m) (h : m ≤ 76800) : (lowD x x).length ≤ 24320 := by
  obtain ⟨k, hk⟩ : ∃ k : Nat, k = 1280 := ⟨_, rfl⟩
  have h1 : x < 10000000000000000000 ^ k := by
    refine Nat.lt_of_lt_of_le hx (Nat.le_trans (Nat.pow_le_pow_right (by decide) (show m ≤ 63 * k by omega)) ?_)
    rw [Nat.pow_mul]
    exact Nat.pow_le_pow_left (by decide) k
  have := lowD_len k x x h1
  omega
theorem rdig_len {x m : Nat} (hx : x < 2 ^ m) (h : m ≤ 76800) : (rdig x).length ≤ 24320 := by
  obtain ⟨k, hk⟩ := lowD_rdig x x (Nat.le_refl _)
  have := lowD_le hx h
  rw [hk, List.length_append] at this
  omega
theorem digT0_len {x m : Nat} (hx : x < 2 ^ m) (h : m ≤ 76800) : (digT0 x).length ≤ 24320 := by
  by_cases h0 : x = 0
  · subst h0
    decide
  · rw [digT0_pos h0, List.length_reverse]
    exact rdig_len hx h
end Go.Proofs.YtgknelgplmohoaaDoor.M
end
section
namespace Go.Proofs.YtgknelgplmohoaaDoor.M
open Go.RowKit Go.Proofs.YtgknelgplmohoaaDoor.G Go.Proofs.YtgknelgplmohoaaDoorV.PrintWords Go.Proofs.YtgknelgplmohoaaDoorV.PrintLast Go.Proofs.YtgknelgplmohoaaDoor.X
set_option linter.unusedVariables false
set_option linter.unusedSimpArgs false
theorem rdig_pow : ∀ (f x : Nat), x ≤ f → x ≠ 0 → 1 ≤ (rdig x).length ∧ 10 ^ ((rdig x).length - 1) ≤ x ∧ x < 10 ^ (rdig x).length
 | 0, x, h, h0 => by omega
 | f + 1, x, h, h0 => by
  rw [rdig_step h0, List.length_cons]
  by_cases h1 : x / 10 = 0
  ·rw [h1, rdig_zero, List.length_nil]
   refine ⟨by omega, ?_, ?_⟩
   ·show 1 ≤ x
    omega
   ·show x < 10
    omega
  ·obtain ⟨a1, a2, a3⟩ := rdig_pow f (x / 10) (by omega) h1
   generalize (rdig (x / 10)).length = k at *
   refine ⟨by omega, ?_, ?_⟩
   ·have e : 10 ^ (k + 1 - 1) = 10 * 10 ^ (k - 1) := by
     rw [show k + 1 - 1 = (k - 1) + 1 by omega, Nat.pow_succ, Nat.mul_comm]
    omega
   ·rw [Nat.pow_succ]
    omega
theorem digT0_pow {x : Nat} (h : x ≠ 0) : 1 ≤ (digT0 x).length ∧ 10 ^ ((digT0 x).length - 1) ≤ x ∧ x < 10 ^ (digT0 x).length := by
 rw [digT0_pos h, List.length_reverse]
 exact rdig_pow x x (Nat.le_refl _) h
theorem ct_impl_magnitude (S : Nat) (q : Int) (cc : Int) (neg : Bool) (hS : S < B128) (hq : -30000 ≤ q ∧ q ≤ 30000) (u : Nat × Nat) (hu : magN S q = u) : CtRR Tryd.prog 124 [.agg #[.int .i64 cc, .bool neg, .int .u64 (hiI S), .int .u64 (loI S), .int .i64 q]] [] .u64 (ofN B64 u.1) (ofN B64 u.2) := by
 subst hu
 have sS : Sm S := sm128 (Nat.lt_trans hS (by decide))
 have s1 : Sm 1 := Sm.of (k := 1) (by decide) (by decide)
 refine ct_of Tryd.func124 rfl (by kernel_rfl) (fun B w0 => ?_)
 by_cases h0 : 0 ≤ q
 ·have z1 : decide (q ≥ 0) = true := decide_eq_true h0
  have hN : Nn q q.toNat := ⟨by omega⟩
  have hN2 : q.toNat ≤ 30000 := by omega
  have hu : magN S q = (S * 2 ^ q.toNat, 1) := by unfold magN; rw [if_pos h0]
  rw [hu]
  refine xg ?_
  refine xb 1 [.int .i64 cc, .bool neg, .int .u64 (hiI S), .int .u64 (loI S), .int .i64 q] 33 (fun g0 => ?_)
  refine xz [] [(3, .slice none 0 0), (2, .slice none 0 0)] ?_
  refine SW_seq ?_
  refine xr [(1, [0])] [(6, .bool (decide (q ≥ 0)))] ?_
  refine xst z1 ?_
  refine xd (fun hB => ?_)
  refine xdk [(0, []), (1, [0]), (3, []), (4, [0])] [(11, .int .i64 q), (8, .agg #[.int .u64 (hiI S), .int .u64 (loI S)])] hB ?_
  refine xdr 2 9 (ct_impl_Word_nat (S) hS) zs0 (fun A0 k0 => ?_)
  refine xdr 5 12 (ct_impl_nat_left (S) (A0) (k0) (q) (Int.toNat q) hN (by omega) sS) (zsS zi0 zs0) (fun A1 k1 => ?_)
  refine xdr 6 13 (ct_impl_word (1) (1) ⟨rfl⟩ (by omega)) zs0 (fun A2 k2 => ?_)
  refine xdk [(7, []), (8, [])] [(3, .slice A2 (List.length (ofN B64 1)) k2), (2, .slice A1 (List.length (ofN B64 (S * 2 ^ Int.toNat q))) k1)] hB ?_
  refine xdz ?_
  refine SW_ret ?_
  refine xe ((A1, k1), A2, k2) (.tuple #[.slice A1 (List.length (ofN B64 (S * 2 ^ Int.toNat q))) k1, .slice A2 (List.length (ofN B64 1)) k2]) [] ?_ (zsS (ziS zi0) (zsS zi0 zs0))
  rfl
 ·have z1 : decide (q ≥ 0) = false := decide_eq_false h0
  have v1 : Ve (IntKind.i64.wrap (0 - q)) (((-q).toNat : Nat) : Int) := ⟨by rw [wrap_i64 (by omega)]; omega⟩
  have hN2 : (-q).toNat ≤ 30000 := by omega
  have hu : magN S q = (S, 2 ^ (-q).toNat) := by unfold magN; rw [if_neg h0]
  rw [hu]
  have e1 : 1 * 2 ^ (-q).toNat = 2 ^ (-q).toNat := Nat.one_mul _
  rw [← e1]
  refine xg ?_
  refine xb 1 [.int .i64 cc, .bool neg, .int .u64 (hiI S), .int .u64 (loI S), .int .i64 q] 33 (fun g0 => ?_)
  refine xz [] [(3, .slice none 0 0), (2, .slice none 0 0)] ?_
  refine SW_seq ?_
  refine xr [(1, [0])] [(6, .bool (decide (q ≥ 0)))] ?_
  refine xsf z1 ?_
  refine SW_skip ?_
  refine xd (fun hB => ?_)
  refine xdk [(0, []), (1, [0]), (4, []), (5, [0])] [(19, .int .i64 q), (15, .agg #[.int .u64 (hiI S), .int .u64 (loI S)])] hB ?_
  refine xdve 6 hB 20 IntKind.i64 (IntKind.wrap IntKind.i64 (0 - q)) ((((Int.toNat (-q)) : Nat) : Int)) v1 ?_
  refine xdr 2 16 (ct_impl_Word_nat (S) hS) zs0 (fun A0 k0 => ?_)
  refine xdr 3 17 (ct_impl_word (1) (1) ⟨rfl⟩ (by omega)) zs0 (fun A1 k1 => ?_)
  refine xdr 7 21 (ct_impl_nat_left (1) (A1) (k1) ((((Int.toNat (-q)) : Nat) : Int)) (Int.toNat (-q)) ⟨rfl⟩ (by omega) s1) (zsS zi0 zs0) (fun A2 k2 => ?_)
  refine xdk [(8, []), (9, [])] [(3, .slice A2 (List.length (ofN B64 (1 * 2 ^ Int.toNat (-q)))) k2), (2, .slice A0 (List.length (ofN B64 S)) k0)] hB ?_
  refine xdz ?_
  refine SW_ret ?_
  refine xe ((A0, k0), A2, k2) (.tuple #[.slice A0 (List.length (ofN B64 S)) k0, .slice A2 (List.length (ofN B64 (1 * 2 ^ Int.toNat (-q)))) k2]) [] ?_ (zsS (ziS (ziS zi0)) (zsS zi0 zs0))
  rfl
theorem nrN_rng {V t lo hi : Nat} (h1 : 1 ≤ lo) (h2 : lo ≤ hi) : nrN V t lo hi ≠ 0 ∧ nrN V t lo hi ≤ hi := by
 unfold nrN
 generalize rrS V t = r
 omega
theorem farN_lt {V t n k : Nat} (hV : V < 2 ^ k) (hn : n < 2 ^ k) (ht : t < 2 ^ k) : farN V t n < 2 ^ (2 * k + 1) := by
 have h1 := mul_lt2 hn ht
 have h2 : 2 ^ k ≤ 2 ^ (k + k) := Nat.pow_le_pow_right (by decide) (by omega)
 rw [show 2 * k + 1 = k + k + 1 by omega, Nat.pow_succ]
 unfold farN
 generalize n * t = x at *
 split <;> omega
theorem lt135 {x n : Nat} (h : x < 2 ^ 135) (hn : 135 ≤ n) : x < 2 ^ n := Nat.lt_of_lt_of_le h (Nat.pow_le_pow_right (by decide) hn)
theorem cmp_neg' (x y : Nat) : decide (cmpN x y < 0) = decide (x < y) := by
 rw [decide_eq_decide]
 unfold cmpN
 split
 ·simp; omega
 ·split
  ·simp; omega
  ·simp; omega
theorem cmp_zero' (x y : Nat) : (cmpN x y == 0) = decide (x = y) := by
 rw [Bool.eq_iff_iff, beq_iff_eq, decide_eq_true_iff]
 unfold cmpN
 split
 ·constructor <;> intro h <;> omega
 ·split
  ·constructor <;> intro h <;> omega
  ·constructor <;> intro h <;> omega
theorem cmp_pos' (x y : Nat) : decide (cmpN x y > 0) = decide (y < x) := by
 rw [decide_eq_decide]
 unfold cmpN
 split
 ·simp; omega
 ·split
  ·simp; omega
  ·simp; omega
theorem ct_digits (x : Nat) (h0 : x ≠ 0) (m : Nat) (hx : x < 2 ^ m) (hm : m ≤ 76800) (A : Option Addr) (cA : Nat) :
  CtM Tryd.prog 127 [.slice A (ofN B64 x).length cA] [] [Row .u64 A cA (ofN B64 x)] (γ := OW (digT0 x).length) (fun p => .slice (some ⟨p.1.1, 0, none⟩) (digT0 x).length p.1.2.2) (fun p => [⟨p.1.1, cl .u8 (digT0 x) p.1.2.1, 5⟩]) (fun _ => []) := by
 have h := ct_impl_nat_digits x (Sm.of hx (by omega)) (Nat.le_trans (lowD_le hx hm) (by decide)) A cA
 have hn : ¬ digT x = [] := fun z => h0 (digT_nil.1 z)
 have e1 : digT0 x = digT x := by unfold digT0; rw [if_neg hn]
 have e2 : ∀ g r, digB x g r = ⟨g, cl .u8 (digT0 x) r, 5⟩ := fun g r => by unfold digB; rw [if_neg hn, e1]
 have e3 : (fun p : OW (digT0 x).length => [digB x p.1.1 p.1.2.1]) = (fun p => [⟨p.1.1, cl .u8 (digT0 x) p.1.2.1, 5⟩]) := by
  funext p
  rw [e2]
 rw [e3] at h
 exact h
theorem cLo_lt {cl : Bool} {L t : Nat} : cLo cl L t ≤ L + 1 := by
 have := Nat.div_le_self L t
 unfold cLo
 split <;> omega
theorem cHi_le {cl : Bool} {H t : Nat} : cHi cl H t ≤ H := by
 have := Nat.div_le_self H t
 unfold cHi
 split <;> omega
theorem cHi_div {cl : Bool} {H t : Nat} : cHi cl H t ≤ H / t := by
 unfold cHi
 split
 ·exact Nat.sub_le _ _
 ·exact Nat.le_refl _
theorem s6_lt2 {x k : Nat} (hx : x < 2 ^ k) : s6 x < 2 ^ (k + 24001) := by
 have h := mul_lt2 hx (ten_lt2 kK)
 rw [kK_eq] at h
 unfold s6
 rw [kK_eq]
 exact h
theorem ct_cand (lo hi den : Nat) (cl : Bool) (e : Int) (p : R3) (he : -6000 ≤ e ∧ e ≤ 20000) (k : Nat) (hlo : lo < 2 ^ k) (hhi : hi < 2 ^ k) (hden : den < 2 ^ k) (hk : k ≤ 17000) (hd0 : 0 < den) :
  CtRR Tryd.prog 122 [itvV (lo, hi, den) cl p, .int .i64 e] (itvF (lo, hi, den) p) .u64 (ofN B64 (cLo cl (s6 lo) (tU den e))) (ofN B64 (cHi cl (s6 hi) (tU den e))) := by
 have hK := kK_eq
 have h := ct_impl_candidates lo hi den cl e p (by omega) k hlo hhi hden hk hd0 _ _ rfl rfl
 rw [(atN_same cl lo den e (by omega)).1, (atN_same cl hi den e (by omega)).2] at h
 exact h
theorem cHi_small {cl : Bool} {L V H : Nat} {T : Int → Nat} {K eS : Int} (sh : Sh cl L V H T K eS) {e : Int} (hK : K ≤ eS - 39) (he : eS - 39 ≤ e) : cHi cl H (T e) < 2 ^ 135 := by
 have h1 := sh.mono (e := eS - 39) (e' := e) hK he
 have h2 := sh.pow' (e := eS - 39) (e' := eS + 1) hK (by omega)
 rw [show (eS + 1 - (eS - 39)).toNat = 40 by omega] at h2
 have h3 := sh.h2
 have h4 := sh.hi
 have h5 : H < 2 ^ 135 * T e := by
  have a1 : (2 : Nat) ^ 134 * T (eS - 39) ≤ 2 ^ 134 * T e := Nat.mul_le_mul_left _ h1
  have a2 : (10 : Nat) ^ 40 * T (eS - 39) ≤ 2 ^ 134 * T (eS - 39) := Nat.mul_le_mul_right _ (by decide)
  omega
 exact Nat.lt_of_le_of_lt cHi_div ((Nat.div_lt_iff_lt_mul (sh.p e)).2 h5)
theorem ct_impl_shortest {lo hi den k : Nat} {cl : Bool} {eS u : Int} {S : Nat} {q : Int} {P : Nat} {emin : Int} (hbn : bndN P emin S q = (lo, hi, den)) (sh : Sh cl (s6 lo) (s6 (midN S q)) (s6 hi) (tU den) (-(kK : Int)) eS) (heS : -5125 ≤ eS ∧ eS ≤ 5125)
  (hlo : lo < 2 ^ k) (hhi : hi < 2 ^ k) (hden : den < 2 ^ k) (hk : k ≤ 17000) (hd0 : 0 < den) (hmid : midN S q < hi) (hS : S < B128) (hq : -30000 ≤ q ∧ q ≤ 30000)
  (hu1 : u ≤ eS) (hu38 : eS - 38 ≤ u) (hul : lhN cl (s6 lo) (s6 hi) (s6 (midN S q)) (tU den u) = true) (hum : ∀ e, u < e → e ≤ eS → ¬ lhN cl (s6 lo) (s6 hi) (s6 (midN S q)) (tU den e) = true) (D : Nat) (hD : chS cl (s6 lo) (s6 hi) (s6 (midN S q)) (tU den u) = D) (p1 p2 p3 : Option Addr) (j1 j2 j3 : Nat) (cc : Int) (neg : Bool) :
  CtM Tryd.prog 84 [.agg #[.slice p1 (ofN B64 lo).length j1, .slice p2 (ofN B64 hi).length j2, .slice p3 (ofN B64 den).length j3, .bool cl, .bool true], .agg #[.int .i64 cc, .bool neg, .int .u64 (hiI S), .int .u64 (loI S), .int .i64 q]] [] [Row .u64 p1 j1 (ofN B64 lo), Row .u64 p2 j2 (ofN B64 hi), Row .u64 p3 j3 (ofN B64 den)]
   (γ := {x : (Nat × List Value × Nat) × (Nat × Int) // (digT0 x.2.1).length + x.1.2.1.length = x.1.2.2 ∧ x.2.1 ≠ 0 ∧ x.2.1 < 2 ^ 135 ∧ (x.2 = (D, u) ∨ (x.2 = (1, u + 1) ∧ D = 10))})
   (fun x => .tuple #[.slice (some ⟨x.1.1.1, 0, none⟩) (digT0 x.1.2.1).length x.1.1.2.2, .int .i64 x.1.2.2]) (fun x => [⟨x.1.1.1, X.cl .u8 (digT0 x.1.2.1) x.1.1.2.1, 5⟩]) (fun _ => []) := by
 have hK := kK_eq
 have hvu : cLo cl (s6 lo) (tU den u) ≤ cHi cl (s6 hi) (tU den u) := (lh_cand (sh.p u) sh.lv sh.vh (Nat.le_trans (sh.mono (by omega) hu1) sh.lo)).1 hul
 have cand : ∀ e : Int, -6000 ≤ e ∧ e ≤ 20000 → CtRR Tryd.prog 122 [.agg #[.slice p1 (ofN B64 lo).length j1, .slice p2 (ofN B64 hi).length j2, .slice p3 (ofN B64 den).length j3, .bool cl, .bool true], .int .i64 e] [Row .u64 p1 j1 (ofN B64 lo), Row .u64 p2 j2 (ofN B64 hi), Row .u64 p3 j3 (ofN B64 den)] .u64 (ofN B64 (cLo cl (s6 lo) (tU den e))) (ofN B64 (cHi cl (s6 hi) (tU den e))) := fun e he => ct_cand lo hi den cl e ((p1, j1), (p2, j2), (p3, j3)) he k hlo hhi hden hk hd0
 obtain ⟨bh, hbh⟩ := bits_ex hi
 obtain ⟨bd, hbd⟩ := bits_ex den
 obtain ⟨k1, k2, k3, k4⟩ := e0_ok sh rfl hmid hbh hbd hd0 hhi hden hk heS
 have sHi : Sm hi := Sm.of hhi (by omega)
 have sDen : Sm den := Sm.of hden (by omega)
 have g1 := s6_lt2 hlo
 have g2 := s6_lt2 hhi
 have sC1 : ∀ e, Sm (cLo cl (s6 lo) (tU den e)) := fun e => Sm.of (k := k + 24002) (by have := cLo_lt (cl := cl) (L := s6 lo) (t := tU den e); have := Nat.pow_pos (n := k + 24001) (show 0 < 2 by decide); rw [Nat.pow_succ]; omega) (by omega)
 have sC2 : ∀ e, Sm (cHi cl (s6 hi) (tU den e)) := fun e => Sm.of (k := k + 24001) (Nat.lt_of_le_of_lt cHi_le g2) (by omega)
 obtain ⟨e0, he0⟩ : ∃ e0, Int.tdiv (((bh : Int) - bd + 1) * 30103) 100000 + 2 = e0 := ⟨_, rfl⟩
 have v1 : Ve (IntKind.i64.wrap ((bh : Int) - (bd : Int))) ((bh : Int) - bd) := ⟨wrap_i64 (by omega)⟩
 have v2 : Ve (IntKind.i64.wrap ((bh : Int) - (bd : Int) + 1)) ((bh : Int) - bd + 1) := ⟨wrap_i64 (by omega)⟩
 have v3 : Ve (IntKind.i64.wrap (((bh : Int) - (bd : Int) + 1) * 30103)) (((bh : Int) - bd + 1) * 30103) := ⟨wrap_i64 (by omega)⟩
 have v4 : Ve (IntKind.i64.wrap (Int.tdiv (((bh : Int) - (bd : Int) + 1) * 30103) 100000)) (Int.tdiv (((bh : Int) - (bd : Int) + 1) * 30103) 100000) := ⟨wrap_i64 (by omega)⟩
 have v5 : Ve (IntKind.i64.wrap (Int.tdiv (((bh : Int) - (bd : Int) + 1) * 30103) 100000 + 2)) e0 := ⟨by rw [wrap_i64 (by omega)]; exact he0⟩
 rw [he0] at k1 k2
 refine cm_of Tryd.func84 rfl (by kernel_rfl) (fun B w0 => ?_)
 clear he0
 have cand0 := cand e0 (by omega)
 have lq := fun e => cmp_pos' (cLo cl (s6 lo) (tU den e)) (cHi cl (s6 hi) (tU den e))
 refine xg ?_
 refine xb 2 [.slice p1 (List.length (ofN B64 lo)) j1, .slice p2 (List.length (ofN B64 hi)) j2, .slice p3 (List.length (ofN B64 den)) j3, .bool cl, .bool true] 63 (fun g3 => ?_)
 refine xb 3 [.int .i64 cc, .bool neg, .int .u64 (hiI S), .int .u64 (loI S), .int .i64 q] 33 (fun g4 => ?_)
 refine xz [] [(5, .int .i64 0), (4, .slice none 0 0)] ?_
 refine xd (fun hB => ?_)
 refine xdk [(0, []), (1, [0]), (3, []), (4, [0])] [(29, .slice p3 (List.length (ofN B64 den)) j3), (26, .slice p2 (List.length (ofN B64 hi)) j2)] hB ?_
 refine xdv 2 27 (ct_impl_nat_bits (hi) (p2) (j2) sHi (bh) hbh) (zsS (ziS zi0) zs0) ?_
 refine xdv 5 30 (ct_impl_nat_bits (den) (p3) (j3) sDen (bd) hbd) (zsS (ziS (ziS zi0)) zs0) ?_
 refine xdve 6 hB 31 IntKind.i64 (IntKind.wrap IntKind.i64 ((bh : Int) - (bd : Int))) ((bh : Int) - (bd : Int)) v1 ?_
 refine xdve 7 hB 32 IntKind.i64 (IntKind.wrap IntKind.i64 ((bh : Int) - (bd : Int) + 1)) ((bh : Int) - (bd : Int) + 1) v2 ?_
 refine xdve 8 hB 33 IntKind.i64 (IntKind.wrap IntKind.i64 (((bh : Int) - (bd : Int) + 1) * 30103)) (((bh : Int) - (bd : Int) + 1) * 30103) v3 ?_
 refine xdve 9 hB 34 IntKind.i64 (IntKind.wrap IntKind.i64 (Int.tdiv (((bh : Int) - (bd : Int) + 1) * 30103) 100000)) (Int.tdiv (((bh : Int) - (bd : Int) + 1) * 30103) 100000) v4 ?_
 refine xdve 10 hB 35 IntKind.i64 (IntKind.wrap IntKind.i64 (Int.tdiv (((bh : Int) - (bd : Int) + 1) * 30103) 100000 + 2)) (e0) v5 ?_
 refine xdk [(11, [])] [(6, .int .i64 e0)] hB ?_
 refine xdz ?_
 refine xg ?_
 refine xn 2 [(0, [0])] [(38, .int .i64 e0), (37, .agg #[.slice p1 (List.length (ofN B64 lo)) j1, .slice p2 (List.length (ofN B64 hi)) j2, .slice p3 (List.length (ofN B64 den)) j3, .bool cl, .bool true])] ?_
 refine xcw 39 cand0 (zsS zi0 (zsS (ziS zi0) (zsS (ziS (ziS zi0)) zs0))) (fun A5 k5 A6 k6 => ?_)
 refine xz [] [(8, .slice A6 (List.length (ofN B64 (cHi cl (s6 hi) (tU den e0)))) k6), (7, .slice A5 (List.length (ofN B64 (cLo cl (s6 lo) (tU den e0)))) k5)] ?_
 clear v1 v2 v3 v4 v5
 refine SW_cut (fun s' => ∃ (E : Int) (A7 A8 : Option Addr) (c7 c8 : Nat), (u ≤ E ∧ E ≤ e0) ∧ cLo cl (s6 lo) (tU den E) ≤ cHi cl (s6 hi) (tU den E) ∧ (∀ e', E < e' → e' ≤ e0 → ¬ cLo cl (s6 lo) (tU den e') ≤ cHi cl (s6 hi) (tU den e')) ∧
  Weak2 s' ⟨[(2, .pointer (some ⟨g3, 0, none⟩)), (3, .pointer (some ⟨g4, 0, none⟩)), (6, .int .i64 E), (7, .slice A7 (ofN B64 (cLo cl (s6 lo) (tU den E))).length c7), (8, .slice A8 (ofN B64 (cHi cl (s6 hi) (tU den E))).length c8)], [⟨g3, [.slice p1 (ofN B64 lo).length j1, .slice p2 (ofN B64 hi).length j2, .slice p3 (ofN B64 den).length j3, .bool cl, .bool true], 63⟩, ⟨g4, [.int .i64 cc, .bool neg, .int .u64 (hiI S), .int .u64 (loI S), .int .i64 q], 33⟩],
   [Row .u64 A7 c7 (ofN B64 (cLo cl (s6 lo) (tU den E))), Row .u64 A8 c8 (ofN B64 (cHi cl (s6 hi) (tU den E))), Row .u64 p1 j1 (ofN B64 lo), Row .u64 p2 j2 (ofN B64 hi), Row .u64 p3 j3 (ofN B64 den)]⟩) ?_ (fun s' hs' => ?_)
 ·refine SW_block ?_
  refine SW_loopn (fun m s' => ∃ (e : Int) (A7 A8 : Option Addr) (c7 c8 : Nat), m = (e - u).toNat ∧ (u ≤ e ∧ e ≤ e0) ∧ (∀ e', e < e' → e' ≤ e0 → ¬ cLo cl (s6 lo) (tU den e') ≤ cHi cl (s6 hi) (tU den e')) ∧
   Weak2 s' ⟨[(2, .pointer (some ⟨g3, 0, none⟩)), (3, .pointer (some ⟨g4, 0, none⟩)), (6, .int .i64 e), (7, .slice A7 (ofN B64 (cLo cl (s6 lo) (tU den e))).length c7), (8, .slice A8 (ofN B64 (cHi cl (s6 hi) (tU den e))).length c8)], [⟨g3, [.slice p1 (ofN B64 lo).length j1, .slice p2 (ofN B64 hi).length j2, .slice p3 (ofN B64 den).length j3, .bool cl, .bool true], 63⟩, ⟨g4, [.int .i64 cc, .bool neg, .int .u64 (hiI S), .int .u64 (loI S), .int .i64 q], 33⟩],
    [Row .u64 A7 c7 (ofN B64 (cLo cl (s6 lo) (tU den e))), Row .u64 A8 c8 (ofN B64 (cHi cl (s6 hi) (tU den e))), Row .u64 p1 j1 (ofN B64 lo), Row .u64 p2 j2 (ofN B64 hi), Row .u64 p3 j3 (ofN B64 den)]⟩) (e0 - u).toNat ?_ (fun m s' hI => ?_)
  ·refine ⟨e0, A5, A6, k5, k6, rfl, ⟨by omega, Int.le_refl _⟩, fun e' h1 h2 => by omega, ?_⟩
   exact xw2 [true, true] (zsS zi0 (zsS (ziS zi0) (zsS (ziS (ziS zi0)) (zsS (ziS (ziS (ziS zi0))) (zsS (ziS (ziS (ziS (ziS zi0)))) zs0)))))
  ·obtain ⟨e, A7, A8, c7, c8, h1, h2, h3, hw⟩ := hI
   refine SW_weak2 hw ?_
   clear hw
   have sC1e := sC1 e
   have sC2e := sC2 e
   by_cases hc : cLo cl (s6 lo) (tU den e) ≤ cHi cl (s6 hi) (tU den e)
   ·have z1 : decide (cmpN (cLo cl (s6 lo) (tU den e)) (cHi cl (s6 hi) (tU den e)) > 0) = false := by rw [lq]; exact decide_eq_false (by omega)
    refine SW_seq ?_
    refine xg ?_
    refine xn 2 [] [(43, .slice A8 (List.length (ofN B64 (cHi cl (s6 hi) (tU den e)))) c8), (42, .slice A7 (List.length (ofN B64 (cLo cl (s6 lo) (tU den e)))) c7)] ?_
    refine xcv 44 (ct_impl_nat_cmp (cLo cl (s6 lo) (tU den e)) (cHi cl (s6 hi) (tU den e)) (A7) (A8) (c7) (c8) sC1e sC2e) (zsS zi0 (zsS (ziS zi0) zs0)) ?_
    refine xz [] [(45, .bool (decide (cmpN (cLo cl (s6 lo) (tU den e)) (cHi cl (s6 hi) (tU den e)) > 0)))] ?_
    refine xsf z1 ?_
    refine SW_exit ?_
    refine ⟨e, A7, A8, c7, c8, h2, hc, h3, ?_⟩
    exact xw2 [true, true] (zsS zi0 (zsS (ziS zi0) (zsS (ziS (ziS zi0)) (zsS (ziS (ziS (ziS zi0))) (zsS (ziS (ziS (ziS (ziS zi0)))) zs0)))))
   ·have z1 : decide (cmpN (cLo cl (s6 lo) (tU den e)) (cHi cl (s6 hi) (tU den e)) > 0) = true := by rw [lq]; exact decide_eq_true (by omega)
    have hne : e ≠ u := fun z => hc (by rw [z]; exact hvu)
    have v1 : Ve (IntKind.i64.wrap (e - 1)) (e - 1) := ⟨wrap_i64 (by omega)⟩
    have cand1 := cand (e - 1) (by omega)
    have h4 : ∀ e', e - 1 < e' → e' ≤ e0 → ¬ cLo cl (s6 lo) (tU den e') ≤ cHi cl (s6 hi) (tU den e') := fun e' a1 a2 => by
     by_cases he : e' = e
     ·rw [he]; exact hc
     ·exact h3 e' (by omega) a2
    clear hc hvu
    refine SW_seq ?_
    refine xg ?_
    refine xn 2 [] [(43, .slice A8 (List.length (ofN B64 (cHi cl (s6 hi) (tU den e)))) c8), (42, .slice A7 (List.length (ofN B64 (cLo cl (s6 lo) (tU den e)))) c7)] ?_
    refine xcv 44 (ct_impl_nat_cmp (cLo cl (s6 lo) (tU den e)) (cHi cl (s6 hi) (tU den e)) (A7) (A8) (c7) (c8) sC1e sC2e) (zsS zi0 (zsS (ziS zi0) zs0)) ?_
    refine xz [] [(45, .bool (decide (cmpN (cLo cl (s6 lo) (tU den e)) (cHi cl (s6 hi) (tU den e)) > 0)))] ?_
    refine xst z1 ?_
    refine SW_skip ?_
    refine SW_block ?_
    refine xg ?_
    refine xn 1 [] [(46, .int .i64 e)] ?_
    refine xve 47 IntKind.i64 (IntKind.wrap IntKind.i64 (e - 1)) (e - 1) v1 ?_
    refine xz [] [(6, .int .i64 (e - 1))] ?_
    refine SW_region ?_
    refine xn 2 [(0, [0])] [(50, .int .i64 (e - 1)), (49, .agg #[.slice p1 (List.length (ofN B64 lo)) j1, .slice p2 (List.length (ofN B64 hi)) j2, .slice p3 (List.length (ofN B64 den)) j3, .bool cl, .bool true])] ?_
    refine xcw 51 cand1 (zsS (ziS (ziS zi0)) (zsS (ziS (ziS (ziS zi0))) (zsS (ziS (ziS (ziS (ziS zi0)))) zs0))) (fun A9 k9 A10 k10 => ?_)
    refine xz [] [(8, .slice A10 (List.length (ofN B64 (cHi cl (s6 hi) (tU den (e - 1))))) k10), (7, .slice A9 (List.length (ofN B64 (cLo cl (s6 lo) (tU den (e - 1))))) k9)] ?_
    refine ⟨(e - 1 - u).toNat, by omega, e - 1, A9, A10, k9, k10, rfl, ⟨by omega, by omega⟩, h4, ?_⟩
    exact xw2 [true, true] (zsS zi0 (zsS (ziS zi0) (zsS (ziS (ziS (ziS (ziS zi0)))) (zsS (ziS (ziS (ziS (ziS (ziS zi0))))) (zsS (ziS (ziS (ziS (ziS (ziS (ziS zi0)))))) zs0)))))
 obtain ⟨E, A7, A8, c7, c8, ⟨hE1, hE2⟩, hcE, hmax, hw⟩ := hs'
 refine SW_weak2 hw ?_
 clear hw cand0
 obtain ⟨b1, b2⟩ : (magN S q).1 < 2 ^ k ∧ (magN S q).2 < 2 ^ k := by
  obtain ⟨c, hc, z1, z2⟩ := mag_mid (P := P) (emin := emin) S q
  rw [hbn] at z2
  have w1 : 1 * (magN S q).1 ≤ c * (magN S q).1 := Nat.mul_le_mul_right _ hc
  have w2 : 1 * (magN S q).2 ≤ c * (magN S q).2 := Nat.mul_le_mul_right _ hc
  dsimp only at z2
  omega
 obtain ⟨c1, hc1, m1, m2⟩ := atM_scale (P := P) (emin := emin) S q E (by omega)
 obtain ⟨c2, hc2, m3, m4⟩ := atM_scale (P := P) (emin := emin) S q (E - 1) (by omega)
 rw [hbn] at m2 m4
 dsimp only at m2 m4
 have pd1 : 0 < (atN (magN S q).1 (magN S q).2 E).2 := by
  rcases Nat.eq_zero_or_pos (atN (magN S q).1 (magN S q).2 E).2 with z | z
  ·rw [z] at m2; have := sh.p E; omega
  ·exact z
 have pd2 : 0 < (atN (magN S q).1 (magN S q).2 (E - 1)).2 := by
  rcases Nat.eq_zero_or_pos (atN (magN S q).1 (magN S q).2 (E - 1)).2 with z | z
  ·rw [z] at m4; have := sh.p (E - 1); omega
  ·exact z
 obtain ⟨N9, hN9, hN9a, hN9b⟩ : ∃ N9 : Nat, k + 80001 ≤ N9 ∧ N9 ≤ 98000 ∧ 135 ≤ N9 := ⟨98000, by omega, by omega, by omega⟩
 have l1 := atN_lt (n := N9) b1 b2 (show -20000 ≤ E ∧ E ≤ 20000 by omega) (by omega)
 have l2 := atN_lt (n := N9) b1 b2 (show -20000 ≤ E - 1 ∧ E - 1 ≤ 20000 by omega) (by omega)
 have sm1 : Sm (magN S q).1 := Sm.of b1 (by omega)
 have sm2 : Sm (magN S q).2 := Sm.of b2 (by omega)
 obtain ⟨mg, hmg⟩ : ∃ mg, magN S q = mg := ⟨_, rfl⟩
 rw [hmg] at m1 m2 m3 m4 pd1 pd2 l1 l2 sm1 sm2
 obtain ⟨f1, hf1⟩ : ∃ f1, atN mg.1 mg.2 E = f1 := ⟨_, rfl⟩
 obtain ⟨f2, hf2⟩ : ∃ f2, atN mg.1 mg.2 (E - 1) = f2 := ⟨_, rfl⟩
 rw [hf1] at m1 m2 pd1 l1
 rw [hf2] at m3 m4 pd2 l2
 have rE : -20000 ≤ E ∧ E ≤ 20000 := by omega
 have rE1 : -20000 ≤ E - 1 ∧ E - 1 ≤ 20000 := by omega
 have sE1 : cHi cl (s6 hi) (tU den E) < 2 ^ 135 := cHi_small sh (by omega) (by omega)
 have sE2 : cHi cl (s6 hi) (tU den (E - 1)) < 2 ^ 135 := cHi_small sh (by omega) (by omega)
 have hp1 := cLo_pos cl (s6 lo) (tU den E)
 have hp2 := cLo_pos cl (s6 lo) (tU den (E - 1))
 -- the first choice
 obtain ⟨n, hn⟩ : ∃ n, nrN (s6 (midN S q)) (tU den E) (cLo cl (s6 lo) (tU den E)) (cHi cl (s6 hi) (tU den E)) = n := ⟨_, rfl⟩
 have hn1 : n ≠ 0 ∧ n ≤ cHi cl (s6 hi) (tU den E) := by rw [← hn]; exact nrN_rng hp1 hcE
 have cn := fun A A' A2 A3 c c' c2 c3 => ct_impl_near f1.1 f1.2 (cLo cl (s6 lo) (tU den E)) (cHi cl (s6 hi) (tU den E)) N9 A A' A2 A3 c c' c2 c3 l1.1 l1.2 pd1 (Nat.lt_of_le_of_lt hcE (lt135 sE1 hN9b)) (lt135 sE1 hN9b) (by omega)
 have en : nrN f1.1 f1.2 (cLo cl (s6 lo) (tU den E)) (cHi cl (s6 hi) (tU den E)) = n := by rw [← hn, ← m1, ← m2, nrN_scale hc1]
 rw [en] at cn
 obtain ⟨q1, q2, q3⟩ := digT0_pow hn1.1
 obtain ⟨kk, hkk⟩ : ∃ kk, (digT0 n).length = kk := ⟨_, rfl⟩
 have n135 : n < 2 ^ 135 := by omega
 have cd := fun A c => ct_digits n hn1.1 135 n135 (by decide) A c
 rw [hkk] at q1 q2 q3 cd
 have hk135 : kk ≤ 135 := by
  have a1 : 2 ^ (kk - 1) ≤ 10 ^ (kk - 1) := Nat.pow_le_pow_left (by decide) _
  have a2 : kk - 1 < 135 := (Nat.pow_lt_pow_iff_right (show 1 < 2 by decide)).1 (by omega)
  omega
 have hmain := sh_main sh (show -(kK : Int) + 1 ≤ E by omega) (show -(kK : Int) + 1 ≤ u by omega) hcE hmax k1 hE2 hu1 hul hum kk q1 (by rw [hn]; exact q2) (by rw [hn]; exact q3)
 rw [hD] at hmain
 unfold impR at hmain
 dsimp only at hmain
 rw [hn] at hmain
 -- the second
 obtain ⟨lo2, hlo2⟩ : ∃ lo2, max (cLo cl (s6 lo) (tU den (E - 1))) (10 ^ (kk - 1)) = lo2 := ⟨_, rfl⟩
 obtain ⟨hi2, hhi2⟩ : ∃ hi2, min (cHi cl (s6 hi) (tU den (E - 1))) (10 ^ kk - 1) = hi2 := ⟨_, rfl⟩
 rw [hlo2, hhi2] at hmain
 obtain ⟨n2, hn2⟩ : ∃ n2, nrN (s6 (midN S q)) (tU den (E - 1)) lo2 hi2 = n2 := ⟨_, rfl⟩
 rw [hn2] at hmain
 have tE : tU den E = 10 * tU den (E - 1) := by have := sh.t (E - 1) (by omega); rwa [show E - 1 + 1 = E by omega] at this
 have fcmp := far_cmp (n := n) (n' := n2) hc1 hc2 m1 m2 m3 m4 tE (sh.p (E - 1))
 obtain ⟨F1, hF1⟩ : ∃ F1, farN f1.1 f1.2 n = F1 := ⟨_, rfl⟩
 obtain ⟨F2, hF2⟩ : ∃ F2, farN f2.1 f2.2 n2 = F2 := ⟨_, rfl⟩
 rw [hF1] at cn
 rw [hF1, hF2] at fcmp
 have candE := cand (E - 1) (by omega)
 have v1 : Ve (IntKind.i64.wrap (E - 1)) (E - 1) := ⟨wrap_i64 (by omega)⟩
 have v2 : Ve (IntKind.i64.wrap ((kk : Int) - 1)) ((kk - 1 : Nat) : Int) := ⟨by rw [wrap_i64 (by omega)]; omega⟩
 have s1 : Sm 1 := Sm.of (k := 1) (by decide) (by decide)
 have s10 : Sm 10 := Sm.of (k := 4) (by decide) (by decide)
 have sT1 : Sm (10 ^ (kk - 1)) := ten_sm' (by omega)
 have sT2 : Sm (10 ^ kk) := ten_sm' (by omega)
 have h1T : 1 ≤ 10 ^ kk := Nat.pow_pos (by decide)
 have sT3 : Sm (10 ^ kk - 1) := sT2.mono (Nat.sub_le _ _)
 have sC3 := sC1 (E - 1)
 have sC4 := sC2 (E - 1)
 have cm := ct_impl_magnitude S q cc neg hS hq mg hmg
 have ca1 := fun A A' c c' => ct_impl_at mg.1 mg.2 E A A' c c' rE sm1 sm2 f1 hf1
 have ca2 := fun A A' c c' => ct_impl_at mg.1 mg.2 (E - 1) A A' c c' rE1 sm1 sm2 f2 hf2
 have hen2 : ∀ a b, nrN f2.1 f2.2 a b = nrN (s6 (midN S q)) (tU den (E - 1)) a b := fun a b => by rw [← m3, ← m4, nrN_scale hc2]
 clear hf1 hf2 hmg m1 m2 m3 m4 hmax hcE hul hum cand hvu
 obtain ⟨x1, y1⟩ := f1
 obtain ⟨x2, y2⟩ := f2
 obtain ⟨w1, w2⟩ := mg
 dsimp only at hen2 l1 l2 pd1 pd2 cn fcmp cm ca1 ca2 sm1 sm2 hF1 hF2
 have sx1 : Sm x1 := Sm.of l1.1 (by omega)
 have sy1 : Sm y1 := Sm.of l1.2 (by omega)
 have sx2 : Sm x2 := Sm.of l2.1 (by omega)
 have sy2 : Sm y2 := Sm.of l2.2 (by omega)
 have kn : Nn (kk : Int) kk := ⟨rfl⟩
 have cq1 := cmp_neg' (cLo cl (s6 lo) (tU den (E - 1))) (10 ^ (kk - 1))
 have cq2 := cmp_pos' (cHi cl (s6 hi) (tU den (E - 1))) (10 ^ kk - 1)
 obtain ⟨l3, hl3⟩ : ∃ l3, cLo cl (s6 lo) (tU den (E - 1)) = l3 := ⟨_, rfl⟩
 obtain ⟨h3, hh3⟩ : ∃ h3, cHi cl (s6 hi) (tU den (E - 1)) = h3 := ⟨_, rfl⟩
 rw [hl3] at cq1 sC3 hlo2 hp2
 rw [hh3] at cq2 sC4 hhi2 sE2
 rw [hl3, hh3] at candE
 have slo2 : Sm lo2 := by
  rcases (show lo2 = l3 ∨ lo2 = 10 ^ (kk - 1) by omega) with z | z
  ·rw [z]; exact sC3
  ·rw [z]; exact sT1
 have shi2 : Sm hi2 := sC4.mono (by omega)
 clear hl3 hh3
 refine xg ?_
 refine xn 1 [(0, [1])] [(55, .agg #[.int .i64 cc, .bool neg, .int .u64 (hiI S), .int .u64 (loI S), .int .i64 q])] ?_
 refine xcw 56 cm zs0 (fun A9 k9 A10 k10 => ?_)
 refine xz [] [(10, .slice A10 (List.length (ofN B64 w2)) k10), (9, .slice A9 (List.length (ofN B64 w1)) k9)] ?_
 refine xg ?_
 refine xn 3 [] [(62, .int .i64 E), (61, .slice A10 (List.length (ofN B64 w2)) k10), (60, .slice A9 (List.length (ofN B64 w1)) k9)] ?_
 refine xcw 63 (ca1 _ _ _ _) (zsS zi0 (zsS (ziS zi0) zs0)) (fun A11 k11 A12 k12 => ?_)
 refine xz [] [(12, .slice A12 (List.length (ofN B64 y1)) k12), (11, .slice A11 (List.length (ofN B64 x1)) k11)] ?_
 refine xg ?_
 refine xn 4 [] [(70, .slice A8 (List.length (ofN B64 (cHi cl (s6 hi) (tU den E)))) c8), (69, .slice A7 (List.length (ofN B64 (cLo cl (s6 lo) (tU den E)))) c7), (68, .slice A12 (List.length (ofN B64 y1)) k12), (67, .slice A11 (List.length (ofN B64 x1)) k11)] ?_
 refine xcw 71 (cn _ _ _ _ _ _ _ _) (zsS zi0 (zsS (ziS zi0) (zsS (ziS (ziS (ziS (ziS zi0)))) (zsS (ziS (ziS (ziS (ziS (ziS zi0))))) zs0)))) (fun A13 k13 A14 k14 => ?_)
 refine xz [] [(14, .slice A14 (List.length (ofN B64 F1)) k14), (13, .slice A13 (List.length (ofN B64 n)) k13)] ?_
 refine xg ?_
 refine xn 1 [] [(74, .slice A13 (List.length (ofN B64 n)) k13)] ?_
 (refine xcm 75 [false] (cd (A13) (k13)) (zsS zi0 zs0) (fun zz => ?_); obtain ⟨⟨z4, ⟨z5, z6⟩⟩, p7⟩ := zz)
 refine xz [] [(15, .int .i64 (kk : Int))] ?_
 refine xg ?_
 refine xn 2 [(0, [0])] [(79, .int .i64 E), (78, .agg #[.slice p1 (List.length (ofN B64 lo)) j1, .slice p2 (List.length (ofN B64 hi)) j2, .slice p3 (List.length (ofN B64 den)) j3, .bool cl, .bool true])] ?_
 refine xve 80 IntKind.i64 (IntKind.wrap IntKind.i64 (E - 1)) (E - 1) v1 ?_
 refine xcw 81 candE (zsS (ziS (ziS (ziS (ziS (ziS (ziS (ziS (ziS zi0)))))))) (zsS (ziS (ziS (ziS (ziS (ziS (ziS (ziS (ziS (ziS zi0))))))))) (zsS (ziS (ziS (ziS (ziS (ziS (ziS (ziS (ziS (ziS (ziS zi0)))))))))) zs0))) (fun A15 k15 A16 k16 => ?_)
 refine xz [] [(8, .slice A16 (List.length (ofN B64 h3)) k16), (7, .slice A15 (List.length (ofN B64 l3)) k15)] ?_
 refine SW_cut (fun s' => ∃ (A : Option Addr) (c : Nat), Weak2 s' ⟨[(6, .int .i64 E), (7, .slice A (ofN B64 lo2).length c), (8, .slice A16 (ofN B64 h3).length k16), (9, .slice A9 (ofN B64 w1).length k9), (10, .slice A10 (ofN B64 w2).length k10), (12, .slice A12 (ofN B64 y1).length k12), (13, .slice A13 (ofN B64 n).length k13), (14, .slice A14 (ofN B64 F1).length k14), (15, .int .i64 (kk : Int))], [],
  [Row .u64 A c (ofN B64 lo2), Row .u64 A16 k16 (ofN B64 h3), Row .u64 A9 k9 (ofN B64 w1), Row .u64 A10 k10 (ofN B64 w2), Row .u64 A12 k12 (ofN B64 y1), Row .u64 A13 k13 (ofN B64 n), Row .u64 A14 k14 (ofN B64 F1)]⟩) ?_ (fun s' hs' => ?_)
 ·by_cases hl : l3 < 10 ^ (kk - 1)
  ·have z1 : decide (cmpN l3 (10 ^ (kk - 1)) < 0) = true := by rw [cq1]; exact decide_eq_true hl
   have e : lo2 = 10 ^ (kk - 1) := by omega
   rw [e]
   refine xg ?_
   refine xn 1 [] [(84, .int .i64 (kk : Int))] ?_
   refine xve 85 IntKind.i64 (IntKind.wrap IntKind.i64 ((kk : Int) - 1)) ((((kk - 1) : Nat) : Int)) v2 ?_
   refine xcr 86 (ct_impl_ten ((((kk - 1) : Nat) : Int)) (kk - 1) ⟨rfl⟩ (by omega)) zs0 (fun A17 k17 => ?_)
   refine xz [] [(16, .slice A17 (List.length (ofN B64 (10 ^ (kk - 1)))) k17)] ?_
   refine xg ?_
   refine xn 2 [] [(88, .slice A17 (List.length (ofN B64 (10 ^ (kk - 1)))) k17), (87, .slice A15 (List.length (ofN B64 l3)) k15)] ?_
   refine xcv 89 (ct_impl_nat_cmp (l3) (10 ^ (kk - 1)) (A15) (A17) (k15) (k17) sC3 sT1) (zsS (ziS zi0) (zsS zi0 zs0)) ?_
   refine xz [] [(90, .bool (decide (cmpN l3 (10 ^ (kk - 1)) < 0)))] ?_
   refine xst z1 ?_
   refine xrl [] [(7, .slice A17 (List.length (ofN B64 (10 ^ (kk - 1)))) k17)] ?_
   refine ⟨(A17), (k17), xw2 [] (zsS zi0 (zsS (ziS (ziS zi0)) (zsS (ziS (ziS (ziS (ziS (ziS (ziS (ziS zi0))))))) (zsS (ziS (ziS (ziS (ziS (ziS (ziS (ziS (ziS zi0)))))))) (zsS (ziS (ziS (ziS (ziS (ziS (ziS zi0)))))) (zsS (ziS (ziS (ziS zi0))) (zsS (ziS (ziS (ziS (ziS zi0)))) zs0)))))))⟩
  ·have z1 : decide (cmpN l3 (10 ^ (kk - 1)) < 0) = false := by rw [cq1]; exact decide_eq_false hl
   have e : lo2 = l3 := by omega
   rw [e]
   refine xg ?_
   refine xn 1 [] [(84, .int .i64 (kk : Int))] ?_
   refine xve 85 IntKind.i64 (IntKind.wrap IntKind.i64 ((kk : Int) - 1)) ((((kk - 1) : Nat) : Int)) v2 ?_
   refine xcr 86 (ct_impl_ten ((((kk - 1) : Nat) : Int)) (kk - 1) ⟨rfl⟩ (by omega)) zs0 (fun A17 k17 => ?_)
   refine xz [] [(16, .slice A17 (List.length (ofN B64 (10 ^ (kk - 1)))) k17)] ?_
   refine xg ?_
   refine xn 2 [] [(88, .slice A17 (List.length (ofN B64 (10 ^ (kk - 1)))) k17), (87, .slice A15 (List.length (ofN B64 l3)) k15)] ?_
   refine xcv 89 (ct_impl_nat_cmp (l3) (10 ^ (kk - 1)) (A15) (A17) (k15) (k17) sC3 sT1) (zsS (ziS zi0) (zsS zi0 zs0)) ?_
   refine xz [] [(90, .bool (decide (cmpN l3 (10 ^ (kk - 1)) < 0)))] ?_
   refine xsf z1 ?_
   refine SW_skip ?_
   refine ⟨(A15), (k15), xw2 [] (zsS (ziS zi0) (zsS (ziS (ziS zi0)) (zsS (ziS (ziS (ziS (ziS (ziS (ziS (ziS zi0))))))) (zsS (ziS (ziS (ziS (ziS (ziS (ziS (ziS (ziS zi0)))))))) (zsS (ziS (ziS (ziS (ziS (ziS (ziS zi0)))))) (zsS (ziS (ziS (ziS zi0))) (zsS (ziS (ziS (ziS (ziS zi0)))) zs0)))))))⟩
 obtain ⟨A, c, hw⟩ := hs'
 refine SW_weak2 hw ?_
 clear hw
 refine SW_cut (fun s' => ∃ (A' : Option Addr) (c' : Nat), Weak2 s' ⟨[(6, .int .i64 E), (7, .slice A (ofN B64 lo2).length c), (8, .slice A' (ofN B64 hi2).length c'), (9, .slice A9 (ofN B64 w1).length k9), (10, .slice A10 (ofN B64 w2).length k10), (12, .slice A12 (ofN B64 y1).length k12), (13, .slice A13 (ofN B64 n).length k13), (14, .slice A14 (ofN B64 F1).length k14)], [],
  [Row .u64 A c (ofN B64 lo2), Row .u64 A' c' (ofN B64 hi2), Row .u64 A9 k9 (ofN B64 w1), Row .u64 A10 k10 (ofN B64 w2), Row .u64 A12 k12 (ofN B64 y1), Row .u64 A13 k13 (ofN B64 n), Row .u64 A14 k14 (ofN B64 F1)]⟩) ?_ (fun s' hs' => ?_)
 ·by_cases hl : 10 ^ kk - 1 < h3
  ·have z1 : decide (cmpN h3 (10 ^ kk - 1) > 0) = true := by rw [cq2]; exact decide_eq_true hl
   have e : hi2 = 10 ^ kk - 1 := by omega
   rw [e]
   refine xg ?_
   refine xn 1 [] [(92, .int .i64 (kk : Int))] ?_
   refine xcr 93 (ct_impl_ten ((kk : Int)) (kk) kn (by omega)) zs0 (fun A17 k17 => ?_)
   refine xcr 94 (ct_impl_word (1) (1) ⟨rfl⟩ (by omega)) zs0 (fun A18 k18 => ?_)
   refine xcr 95 (ct_impl_nat_sub (10 ^ kk) (1) (A17) (A18) (k17) (k18) sT2 h1T) (zsS (ziS zi0) (zsS zi0 zs0)) (fun A19 k19 => ?_)
   refine xz [] [(17, .slice A19 (List.length (ofN B64 (10 ^ kk - 1))) k19)] ?_
   refine xg ?_
   refine xn 2 [] [(97, .slice A19 (List.length (ofN B64 (10 ^ kk - 1))) k19), (96, .slice A16 (List.length (ofN B64 h3)) k16)] ?_
   refine xcv 98 (ct_impl_nat_cmp (h3) (10 ^ kk - 1) (A16) (A19) (k16) (k19) sC4 sT3) (zsS (ziS (ziS (ziS (ziS zi0)))) (zsS zi0 zs0)) ?_
   refine xz [] [(99, .bool (decide (cmpN h3 (10 ^ kk - 1) > 0)))] ?_
   refine xst z1 ?_
   refine xrl [] [(8, .slice A19 (List.length (ofN B64 (10 ^ kk - 1))) k19)] ?_
   refine ⟨(A19), (k19), xw2 [] (zsS (ziS (ziS (ziS zi0))) (zsS zi0 (zsS (ziS (ziS (ziS (ziS (ziS zi0))))) (zsS (ziS (ziS (ziS (ziS (ziS (ziS zi0)))))) (zsS (ziS (ziS (ziS (ziS (ziS (ziS (ziS zi0))))))) (zsS (ziS (ziS (ziS (ziS (ziS (ziS (ziS (ziS zi0)))))))) (zsS (ziS (ziS (ziS (ziS (ziS (ziS (ziS (ziS (ziS zi0))))))))) zs0)))))))⟩
  ·have z1 : decide (cmpN h3 (10 ^ kk - 1) > 0) = false := by rw [cq2]; exact decide_eq_false hl
   have e : hi2 = h3 := by omega
   rw [e]
   refine xg ?_
   refine xn 1 [] [(92, .int .i64 (kk : Int))] ?_
   refine xcr 93 (ct_impl_ten ((kk : Int)) (kk) kn (by omega)) zs0 (fun A17 k17 => ?_)
   refine xcr 94 (ct_impl_word (1) (1) ⟨rfl⟩ (by omega)) zs0 (fun A18 k18 => ?_)
   refine xcr 95 (ct_impl_nat_sub (10 ^ kk) (1) (A17) (A18) (k17) (k18) sT2 h1T) (zsS (ziS zi0) (zsS zi0 zs0)) (fun A19 k19 => ?_)
   refine xz [] [(17, .slice A19 (List.length (ofN B64 (10 ^ kk - 1))) k19)] ?_
   refine xg ?_
   refine xn 2 [] [(97, .slice A19 (List.length (ofN B64 (10 ^ kk - 1))) k19), (96, .slice A16 (List.length (ofN B64 h3)) k16)] ?_
   refine xcv 98 (ct_impl_nat_cmp (h3) (10 ^ kk - 1) (A16) (A19) (k16) (k19) sC4 sT3) (zsS (ziS (ziS (ziS (ziS zi0)))) (zsS zi0 zs0)) ?_
   refine xz [] [(99, .bool (decide (cmpN h3 (10 ^ kk - 1) > 0)))] ?_
   refine xsf z1 ?_
   refine SW_skip ?_
   refine ⟨(A16), (k16), xw2 [] (zsS (ziS (ziS (ziS zi0))) (zsS (ziS (ziS (ziS (ziS zi0)))) (zsS (ziS (ziS (ziS (ziS (ziS zi0))))) (zsS (ziS (ziS (ziS (ziS (ziS (ziS zi0)))))) (zsS (ziS (ziS (ziS (ziS (ziS (ziS (ziS zi0))))))) (zsS (ziS (ziS (ziS (ziS (ziS (ziS (ziS (ziS zi0)))))))) (zsS (ziS (ziS (ziS (ziS (ziS (ziS (ziS (ziS (ziS zi0))))))))) zs0)))))))⟩
 obtain ⟨A', c', hw⟩ := hs'
 refine SW_weak2 hw ?_
 clear hw
 have hlo1 : 1 ≤ lo2 := by omega
 have hhi135 : hi2 < 2 ^ 135 := by omega
 clear hlo2 hhi2 cq1 cq2 sC3 sC4 candE sE2
 have cq := cmp_pos' lo2 hi2
 by_cases hle : lo2 ≤ hi2
 ·have z1 : decide (cmpN lo2 hi2 ≤ 0) = true := decide_eq_true (by
   have z : ¬ cmpN lo2 hi2 > 0 := fun z => by
    rw [decide_eq_true z] at cq
    have := of_decide_eq_true cq.symm
    omega
   omega)
  have hn2b : n2 ≠ 0 ∧ n2 ≤ hi2 := by rw [← hn2]; exact nrN_rng hlo1 hle
  have cn2 := fun A A' A2 A3 c c' c2 c3 => ct_impl_near x2 y2 lo2 hi2 N9 A A' A2 A3 c c' c2 c3 l2.1 l2.2 pd2 (lt135 (Nat.lt_of_le_of_lt hle hhi135) hN9b) (lt135 hhi135 hN9b) (by omega)
  have en2 : nrN x2 y2 lo2 hi2 = n2 := by rw [← hn2]; exact hen2 lo2 hi2
  rw [en2, hF2] at cn2
  have n2135 : n2 < 2 ^ 135 := by omega
  have sF1 : Sm F1 := by rw [← hF1]; exact Sm.of (farN_lt l1.1 (lt135 n135 hN9b) l1.2) (by omega)
  have sF2 : Sm F2 := by rw [← hF2]; exact Sm.of (farN_lt l2.1 (lt135 n2135 hN9b) l2.2) (by omega)
  have bF1 : F1 < 2 ^ (2 * N9 + 1) := by rw [← hF1]; exact farN_lt l1.1 (lt135 n135 hN9b) l1.2
  have bF2 : F2 < 2 ^ (2 * N9 + 1) := by rw [← hF2]; exact farN_lt l2.1 (lt135 n2135 hN9b) l2.2
  have sP1 : Sm (F1 * y2) := Sm.of (mul_lt2 bF1 l2.2) (by omega)
  have sP2 : Sm (F1 * y2 * 10) := Sm.of (mul_lt2 (b := 4) (mul_lt2 bF1 l2.2) (by decide)) (by omega)
  have sP3 : Sm (F2 * y1) := Sm.of (mul_lt2 bF2 l1.2) (by omega)
  have cd2 := fun A c => ct_digits n2 hn2b.1 135 n2135 (by decide) A c
  have cmn := cmp_neg' (F2 * y1) (F1 * y2 * 10)
  have hlen1 : 0 < (ofN B64 n).length := by
   rcases Nat.eq_zero_or_pos (ofN B64 n).length with h9 | h9
   ·exact absurd ((ofN_zero B64_2 n).1 h9) hn1.1
   ·exact h9
  have hlen2 : 0 < (ofN B64 n2).length := by
   rcases Nat.eq_zero_or_pos (ofN B64 n2).length with h9 | h9
   ·exact absurd ((ofN_zero B64_2 n2).1 h9) hn2b.1
   ·exact h9
  have o5 : ∀ n : Nat, Ve (rd (ofN B64 n) ((0 : Nat) : Int)) ((n % B64 : Nat) : Int) := fun n => ⟨by rw [rd_limb, Nat.pow_zero, Nat.div_one]⟩
  have o6 : ∀ n : Nat, Ve (bits .and .u64 ((n % B64 : Nat) : Int) 1) ((n % B64 % 2 : Nat) : Int) := fun n => ⟨and1 _ (Nat.mod_lt _ (by decide))⟩
  have o7 : ∀ n : Nat, n % B64 % 2 = n % 2 := fun n => Nat.mod_mod_of_dvd _ (by decide)
  have o51 := o5 n
  have o52 := o5 n2
  have o61 := o6 n
  have o62 := o6 n2
  obtain ⟨G1, hG1⟩ : ∃ G1, farN (s6 (midN S q)) (tU den E) n = G1 := ⟨_, rfl⟩
  obtain ⟨G2, hG2⟩ : ∃ G2, farN (s6 (midN S q)) (tU den (E - 1)) n2 = G2 := ⟨_, rfl⟩
  rw [hG1, hG2] at fcmp hmain
  have ez := cmp_zero' G2 G1
  have en' := cmp_neg' G2 G1
  rw [← fcmp] at ez en'
  clear cmn hG1 hG2 fcmp
  rcases Nat.lt_trichotomy G2 G1 with hg | hg | hg
  ·have z2 : decide (cmpN (F2 * y1) (F1 * y2 * 10) < 0) = true := by rw [en']; exact decide_eq_true hg
   rw [if_pos ⟨hle, .inl hg⟩] at hmain
   refine SW_seq ?_
   refine xg ?_
   refine xn 2 [] [(102, .slice A' (List.length (ofN B64 hi2)) c'), (101, .slice A (List.length (ofN B64 lo2)) c)] ?_
   refine xcv 103 (ct_impl_nat_cmp (lo2) (hi2) (A) (A') (c) (c') slo2 shi2) (zsS zi0 (zsS (ziS zi0) zs0)) ?_
   refine xz [] [(104, .bool (decide (cmpN lo2 hi2 ≤ 0)))] ?_
   refine xst z1 ?_
   refine xg ?_
   refine xn 3 [] [(108, .int .i64 E), (107, .slice A10 (List.length (ofN B64 w2)) k10), (106, .slice A9 (List.length (ofN B64 w1)) k9)] ?_
   refine xve 109 IntKind.i64 (IntKind.wrap IntKind.i64 (E - 1)) (E - 1) v1 ?_
   refine xcw 110 (ca2 _ _ _ _) (zsS (ziS (ziS zi0)) (zsS (ziS (ziS (ziS zi0))) zs0)) (fun A17 k17 A18 k18 => ?_)
   refine xz [] [(19, .slice A18 (List.length (ofN B64 y2)) k18), (18, .slice A17 (List.length (ofN B64 x2)) k17)] ?_
   refine xg ?_
   refine xn 4 [] [(117, .slice A' (List.length (ofN B64 hi2)) c'), (116, .slice A (List.length (ofN B64 lo2)) c), (115, .slice A18 (List.length (ofN B64 y2)) k18), (114, .slice A17 (List.length (ofN B64 x2)) k17)] ?_
   refine xcw 118 (cn2 _ _ _ _ _ _ _ _) (zsS zi0 (zsS (ziS zi0) (zsS (ziS (ziS zi0)) (zsS (ziS (ziS (ziS zi0))) zs0)))) (fun A19 k19 A20 k20 => ?_)
   refine xz [] [(21, .slice A20 (List.length (ofN B64 F2)) k20), (20, .slice A19 (List.length (ofN B64 n2)) k19)] ?_
   refine xg ?_
   refine xn 2 [] [(122, .slice A18 (List.length (ofN B64 y2)) k18), (121, .slice A14 (List.length (ofN B64 F1)) k14)] ?_
   refine xcr 123 (ct_impl_nat_mul (F1) (y2) (A14) (A18) (k14) (k18) sF1 sy2) (zsS (ziS (ziS (ziS (ziS (ziS (ziS (ziS (ziS (ziS (ziS zi0)))))))))) (zsS (ziS (ziS (ziS zi0))) zs0)) (fun A21 k21 => ?_)
   refine xcr 124 (ct_impl_word (10) (10) ⟨rfl⟩ (by omega)) zs0 (fun A22 k22 => ?_)
   refine xcr 125 (ct_impl_nat_mul (F1 * y2) (10) (A21) (A22) (k21) (k22) sP1 s10) (zsS (ziS zi0) (zsS zi0 zs0)) (fun A23 k23 => ?_)
   refine xn 7 [] [(127, .slice A12 (List.length (ofN B64 y1)) k12), (126, .slice A20 (List.length (ofN B64 F2)) k20)] ?_
   refine xcr 128 (ct_impl_nat_mul (F2) (y1) (A20) (A12) (k20) (k12) sF2 sy1) (zsS (ziS (ziS (ziS (ziS zi0)))) (zsS (ziS (ziS (ziS (ziS (ziS (ziS (ziS (ziS (ziS (ziS (ziS zi0))))))))))) zs0)) (fun A24 k24 => ?_)
   refine xz [] [(23, .slice A24 (List.length (ofN B64 (F2 * y1))) k24), (22, .slice A23 (List.length (ofN B64 (F1 * y2 * 10))) k23)] ?_
   refine xg ?_
   refine xn 2 [] [(130, .slice A23 (List.length (ofN B64 (F1 * y2 * 10))) k23), (129, .slice A24 (List.length (ofN B64 (F2 * y1))) k24)] ?_
   refine xcv 131 (ct_impl_nat_cmp (F2 * y1) (F1 * y2 * 10) (A24) (A23) (k24) (k23) sP3 sP2) (zsS zi0 (zsS (ziS zi0) zs0)) ?_
   refine xz [] [(24, .int .i64 (cmpN (F2 * y1) (F1 * y2 * 10)))] ?_
   refine xg ?_
   refine xn 3 [] [(134, .bool (decide (cmpN (F2 * y1) (F1 * y2 * 10) < 0)))] ?_
   refine xkt 134 z2 ?_
   refine xz [] [(151, .bool true)] ?_
   refine xs1 ?_
   refine xg ?_
   refine xn 1 [] [(152, .slice A19 (List.length (ofN B64 n2)) k19)] ?_
   (refine xcm 153 [false] (cd2 (A19) (k19)) (zsS (ziS (ziS (ziS (ziS zi0)))) zs0) (fun zz => ?_); obtain ⟨⟨z8, ⟨z9, z10⟩⟩, p11⟩ := zz)
   refine xn 3 [] [(154, .int .i64 E)] ?_
   refine xve 155 IntKind.i64 (IntKind.wrap IntKind.i64 (E - 1)) (E - 1) v1 ?_
   refine xz [] [(5, .int .i64 (E - 1)), (4, .slice (some ⟨z8, 0, none⟩) (List.length (digT0 n2)) z10)] ?_
   refine SW_ret ?_
   refine xmeg (.tuple #[.slice (some ⟨z8, 0, none⟩) (List.length (digT0 n2)) z10, .int .i64 (E - 1)]) [] ?_
   exact ⟨⟨((z8, z9, z10), (n2, E - 1)), p11, hn2b.1, n2135, hmain⟩, [true], rfl, rfl, zs0⟩
  ·have z2 : decide (cmpN (F2 * y1) (F1 * y2 * 10) < 0) = false := by rw [en']; exact decide_eq_false (by omega)
   have z3 : (cmpN (F2 * y1) (F1 * y2 * 10) == 0) = true := by rw [ez]; exact decide_eq_true hg
   refine SW_seq ?_
   refine xg ?_
   refine xn 2 [] [(102, .slice A' (List.length (ofN B64 hi2)) c'), (101, .slice A (List.length (ofN B64 lo2)) c)] ?_
   refine xcv 103 (ct_impl_nat_cmp (lo2) (hi2) (A) (A') (c) (c') slo2 shi2) (zsS zi0 (zsS (ziS zi0) zs0)) ?_
   refine xz [] [(104, .bool (decide (cmpN lo2 hi2 ≤ 0)))] ?_
   refine xst z1 ?_
   refine xg ?_
   refine xn 3 [] [(108, .int .i64 E), (107, .slice A10 (List.length (ofN B64 w2)) k10), (106, .slice A9 (List.length (ofN B64 w1)) k9)] ?_
   refine xve 109 IntKind.i64 (IntKind.wrap IntKind.i64 (E - 1)) (E - 1) v1 ?_
   refine xcw 110 (ca2 _ _ _ _) (zsS (ziS (ziS zi0)) (zsS (ziS (ziS (ziS zi0))) zs0)) (fun A17 k17 A18 k18 => ?_)
   refine xz [] [(19, .slice A18 (List.length (ofN B64 y2)) k18), (18, .slice A17 (List.length (ofN B64 x2)) k17)] ?_
   refine xg ?_
   refine xn 4 [] [(117, .slice A' (List.length (ofN B64 hi2)) c'), (116, .slice A (List.length (ofN B64 lo2)) c), (115, .slice A18 (List.length (ofN B64 y2)) k18), (114, .slice A17 (List.length (ofN B64 x2)) k17)] ?_
   refine xcw 118 (cn2 _ _ _ _ _ _ _ _) (zsS zi0 (zsS (ziS zi0) (zsS (ziS (ziS zi0)) (zsS (ziS (ziS (ziS zi0))) zs0)))) (fun A19 k19 A20 k20 => ?_)
   refine xz [] [(21, .slice A20 (List.length (ofN B64 F2)) k20), (20, .slice A19 (List.length (ofN B64 n2)) k19)] ?_
   refine xg ?_
   refine xn 2 [] [(122, .slice A18 (List.length (ofN B64 y2)) k18), (121, .slice A14 (List.length (ofN B64 F1)) k14)] ?_
   refine xcr 123 (ct_impl_nat_mul (F1) (y2) (A14) (A18) (k14) (k18) sF1 sy2) (zsS (ziS (ziS (ziS (ziS (ziS (ziS (ziS (ziS (ziS (ziS zi0)))))))))) (zsS (ziS (ziS (ziS zi0))) zs0)) (fun A21 k21 => ?_)
   refine xcr 124 (ct_impl_word (10) (10) ⟨rfl⟩ (by omega)) zs0 (fun A22 k22 => ?_)
   refine xcr 125 (ct_impl_nat_mul (F1 * y2) (10) (A21) (A22) (k21) (k22) sP1 s10) (zsS (ziS zi0) (zsS zi0 zs0)) (fun A23 k23 => ?_)
   refine xn 7 [] [(127, .slice A12 (List.length (ofN B64 y1)) k12), (126, .slice A20 (List.length (ofN B64 F2)) k20)] ?_
   refine xcr 128 (ct_impl_nat_mul (F2) (y1) (A20) (A12) (k20) (k12) sF2 sy1) (zsS (ziS (ziS (ziS (ziS zi0)))) (zsS (ziS (ziS (ziS (ziS (ziS (ziS (ziS (ziS (ziS (ziS (ziS zi0))))))))))) zs0)) (fun A24 k24 => ?_)
   refine xz [] [(23, .slice A24 (List.length (ofN B64 (F2 * y1))) k24), (22, .slice A23 (List.length (ofN B64 (F1 * y2 * 10))) k23)] ?_
   refine xg ?_
   refine xn 2 [] [(130, .slice A23 (List.length (ofN B64 (F1 * y2 * 10))) k23), (129, .slice A24 (List.length (ofN B64 (F2 * y1))) k24)] ?_
   refine xcv 131 (ct_impl_nat_cmp (F2 * y1) (F1 * y2 * 10) (A24) (A23) (k24) (k23) sP3 sP2) (zsS zi0 (zsS (ziS zi0) zs0)) ?_
   refine xz [] [(24, .int .i64 (cmpN (F2 * y1) (F1 * y2 * 10)))] ?_
   refine xg ?_
   refine xn 3 [] [(134, .bool (decide (cmpN (F2 * y1) (F1 * y2 * 10) < 0)))] ?_
   refine xkf 134 z2 ?_
   refine xn 6 [] [(137, .bool (cmpN (F2 * y1) (F1 * y2 * 10) == 0))] ?_
   refine xkt 137 z3 ?_
   refine xn 7 [] [(138, .slice A19 (List.length (ofN B64 n2)) k19)] ?_
   refine NW_know (ziS (ziS (ziS (ziS zi0)))) (fun w h => row_at h hlen2) (fun ⟨a2, e2⟩ => ?_)
   subst e2
   refine NW_know (ziS (ziS (ziS (ziS (ziS (ziS (ziS (ziS (ziS (ziS (ziS (ziS (ziS zi0))))))))))))) (fun w h => row_at h hlen1) (fun ⟨a1, e1⟩ => ?_)
   subst e1
   by_cases h2 : n2 % 2 = 0
   ·have z5 : (((n2 % B64 % 2 : Nat) : Int) == 0) = true := by rw [o7, h2]; rfl
    by_cases h1 : n % 2 = 1
    ·have z6 : (((n % B64 % 2 : Nat) : Int) == 1) = true := by rw [o7, h1]; rfl
     rw [if_pos ⟨hle, .inr ⟨hg, h2, h1⟩⟩] at hmain
     refine xfi 139 26 (a2) (List.length (ofN B64 n2)) (k19) 0 IntKind.i64 (0) ⟨rfl⟩ (by omega) ?_
     refine xfle 140 (ziS (ziS (ziS (ziS zi0)))) (0) ((((n2 % B64) : Nat) : Int)) o52 (by omega) ?_
     refine xve 141 IntKind.u64 (bits BinOp.and IntKind.u64 (((n2 % B64) : Nat) : Int) 1) ((((n2 % B64 % 2) : Nat) : Int)) o62 ?_
     refine xn 13 [] [(144, .bool ((((n2 % B64 % 2) : Nat) : Int) == 0))] ?_
     refine xkt 144 z5 ?_
     refine xn 14 [] [(145, .slice (some a1) (List.length (ofN B64 n)) k13)] ?_
     refine xfi 146 26 (a1) (List.length (ofN B64 n)) (k13) 0 IntKind.i64 (0) ⟨rfl⟩ (by omega) ?_
     refine xfle 147 (ziS (ziS (ziS (ziS (ziS (ziS (ziS (ziS (ziS (ziS (ziS (ziS (ziS zi0))))))))))))) (0) ((((n % B64) : Nat) : Int)) o51 (by omega) ?_
     refine xve 148 IntKind.u64 (bits BinOp.and IntKind.u64 (((n % B64) : Nat) : Int) 1) ((((n % B64 % 2) : Nat) : Int)) o61 ?_
     refine xz [] [(151, .bool ((((n % B64 % 2) : Nat) : Int) == 1))] ?_
     refine xst z6 ?_
     refine xg ?_
     refine xn 1 [] [(152, .slice (some a2) (List.length (ofN B64 n2)) k19)] ?_
     (refine xcm 153 [false] (cd2 (some a2) (k19)) (zsS (ziS (ziS (ziS (ziS zi0)))) zs0) (fun zz => ?_); obtain ⟨⟨z8, ⟨z9, z10⟩⟩, p11⟩ := zz)
     refine xn 3 [] [(154, .int .i64 E)] ?_
     refine xve 155 IntKind.i64 (IntKind.wrap IntKind.i64 (E - 1)) (E - 1) v1 ?_
     refine xz [] [(5, .int .i64 (E - 1)), (4, .slice (some ⟨z8, 0, none⟩) (List.length (digT0 n2)) z10)] ?_
     refine SW_ret ?_
     refine xmeg (.tuple #[.slice (some ⟨z8, 0, none⟩) (List.length (digT0 n2)) z10, .int .i64 (E - 1)]) [] ?_
     exact ⟨⟨((z8, z9, z10), (n2, E - 1)), p11, hn2b.1, n2135, hmain⟩, [true], rfl, rfl, zs0⟩
    ·have z6 : (((n % B64 % 2 : Nat) : Int) == 1) = false := by rw [o7, show n % 2 = 0 by omega]; rfl
     rw [if_neg (fun z => by omega)] at hmain
     refine xfi 139 26 (a2) (List.length (ofN B64 n2)) (k19) 0 IntKind.i64 (0) ⟨rfl⟩ (by omega) ?_
     refine xfle 140 (ziS (ziS (ziS (ziS zi0)))) (0) ((((n2 % B64) : Nat) : Int)) o52 (by omega) ?_
     refine xve 141 IntKind.u64 (bits BinOp.and IntKind.u64 (((n2 % B64) : Nat) : Int) 1) ((((n2 % B64 % 2) : Nat) : Int)) o62 ?_
     refine xn 13 [] [(144, .bool ((((n2 % B64 % 2) : Nat) : Int) == 0))] ?_
     refine xkt 144 z5 ?_
     refine xn 14 [] [(145, .slice (some a1) (List.length (ofN B64 n)) k13)] ?_
     refine xfi 146 26 (a1) (List.length (ofN B64 n)) (k13) 0 IntKind.i64 (0) ⟨rfl⟩ (by omega) ?_
     refine xfle 147 (ziS (ziS (ziS (ziS (ziS (ziS (ziS (ziS (ziS (ziS (ziS (ziS (ziS zi0))))))))))))) (0) ((((n % B64) : Nat) : Int)) o51 (by omega) ?_
     refine xve 148 IntKind.u64 (bits BinOp.and IntKind.u64 (((n % B64) : Nat) : Int) 1) ((((n % B64 % 2) : Nat) : Int)) o61 ?_
     refine xz [] [(151, .bool ((((n % B64 % 2) : Nat) : Int) == 1))] ?_
     refine xsf z6 ?_
     refine SW_skip ?_
     refine xg ?_
     refine xn 1 [] [(156, .slice (some a1) (List.length (ofN B64 n)) k13)] ?_
     (refine xcm 157 [false] (cd (some a1) (k13)) (zsS (ziS (ziS (ziS (ziS (ziS (ziS (ziS (ziS (ziS (ziS (ziS (ziS (ziS zi0))))))))))))) zs0) (fun zz => ?_); obtain ⟨⟨z8, ⟨z9, z10⟩⟩, p11⟩ := zz)
     refine xz [] [(5, .int .i64 E), (4, .slice (some ⟨z8, 0, none⟩) kk z10)] ?_
     refine SW_ret ?_
     refine xmeg (.tuple #[.slice (some ⟨z8, 0, none⟩) kk z10, .int .i64 E]) [] ?_
     exact ⟨⟨((z8, z9, z10), (n, E)), by dsimp only; rw [hkk]; exact p11, hn1.1, n135, hmain⟩, [true], by dsimp only; rw [hkk], rfl, zs0⟩
   ·have z5 : (((n2 % B64 % 2 : Nat) : Int) == 0) = false := by rw [o7, show n2 % 2 = 1 by omega]; rfl
    rw [if_neg (fun z => by omega)] at hmain
    refine xfi 139 26 (a2) (List.length (ofN B64 n2)) (k19) 0 IntKind.i64 (0) ⟨rfl⟩ (by omega) ?_
    refine xfle 140 (ziS (ziS (ziS (ziS zi0)))) (0) ((((n2 % B64) : Nat) : Int)) o52 (by omega) ?_
    refine xve 141 IntKind.u64 (bits BinOp.and IntKind.u64 (((n2 % B64) : Nat) : Int) 1) ((((n2 % B64 % 2) : Nat) : Int)) o62 ?_
    refine xn 13 [] [(144, .bool ((((n2 % B64 % 2) : Nat) : Int) == 0))] ?_
    refine xkf 144 z5 ?_
    refine xz [] [(151, .bool false)] ?_
    refine xs0 ?_
    refine SW_skip ?_
    refine xg ?_
    refine xn 1 [] [(156, .slice (some a1) (List.length (ofN B64 n)) k13)] ?_
    (refine xcm 157 [false] (cd (some a1) (k13)) (zsS (ziS (ziS (ziS (ziS (ziS (ziS (ziS (ziS (ziS (ziS (ziS (ziS (ziS zi0))))))))))))) zs0) (fun zz => ?_); obtain ⟨⟨z8, ⟨z9, z10⟩⟩, p11⟩ := zz)
    refine xz [] [(5, .int .i64 E), (4, .slice (some ⟨z8, 0, none⟩) kk z10)] ?_
    refine SW_ret ?_
    refine xmeg (.tuple #[.slice (some ⟨z8, 0, none⟩) kk z10, .int .i64 E]) [] ?_
    exact ⟨⟨((z8, z9, z10), (n, E)), by dsimp only; rw [hkk]; exact p11, hn1.1, n135, hmain⟩, [true], by dsimp only; rw [hkk], rfl, zs0⟩
  ·have z2 : decide (cmpN (F2 * y1) (F1 * y2 * 10) < 0) = false := by rw [en']; exact decide_eq_false (by omega)
   have z3 : (cmpN (F2 * y1) (F1 * y2 * 10) == 0) = false := by rw [ez]; exact decide_eq_false (by omega)
   rw [if_neg (fun z => by omega)] at hmain
   refine SW_seq ?_
   refine xg ?_
   refine xn 2 [] [(102, .slice A' (List.length (ofN B64 hi2)) c'), (101, .slice A (List.length (ofN B64 lo2)) c)] ?_
   refine xcv 103 (ct_impl_nat_cmp (lo2) (hi2) (A) (A') (c) (c') slo2 shi2) (zsS zi0 (zsS (ziS zi0) zs0)) ?_
   refine xz [] [(104, .bool (decide (cmpN lo2 hi2 ≤ 0)))] ?_
   refine xst z1 ?_
   refine xg ?_
   refine xn 3 [] [(108, .int .i64 E), (107, .slice A10 (List.length (ofN B64 w2)) k10), (106, .slice A9 (List.length (ofN B64 w1)) k9)] ?_
   refine xve 109 IntKind.i64 (IntKind.wrap IntKind.i64 (E - 1)) (E - 1) v1 ?_
   refine xcw 110 (ca2 _ _ _ _) (zsS (ziS (ziS zi0)) (zsS (ziS (ziS (ziS zi0))) zs0)) (fun A17 k17 A18 k18 => ?_)
   refine xz [] [(19, .slice A18 (List.length (ofN B64 y2)) k18), (18, .slice A17 (List.length (ofN B64 x2)) k17)] ?_
   refine xg ?_
   refine xn 4 [] [(117, .slice A' (List.length (ofN B64 hi2)) c'), (116, .slice A (List.length (ofN B64 lo2)) c), (115, .slice A18 (List.length (ofN B64 y2)) k18), (114, .slice A17 (List.length (ofN B64 x2)) k17)] ?_
   refine xcw 118 (cn2 _ _ _ _ _ _ _ _) (zsS zi0 (zsS (ziS zi0) (zsS (ziS (ziS zi0)) (zsS (ziS (ziS (ziS zi0))) zs0)))) (fun A19 k19 A20 k20 => ?_)
   refine xz [] [(21, .slice A20 (List.length (ofN B64 F2)) k20), (20, .slice A19 (List.length (ofN B64 n2)) k19)] ?_
   refine xg ?_
   refine xn 2 [] [(122, .slice A18 (List.length (ofN B64 y2)) k18), (121, .slice A14 (List.length (ofN B64 F1)) k14)] ?_
   refine xcr 123 (ct_impl_nat_mul (F1) (y2) (A14) (A18) (k14) (k18) sF1 sy2) (zsS (ziS (ziS (ziS (ziS (ziS (ziS (ziS (ziS (ziS (ziS zi0)))))))))) (zsS (ziS (ziS (ziS zi0))) zs0)) (fun A21 k21 => ?_)
   refine xcr 124 (ct_impl_word (10) (10) ⟨rfl⟩ (by omega)) zs0 (fun A22 k22 => ?_)
   refine xcr 125 (ct_impl_nat_mul (F1 * y2) (10) (A21) (A22) (k21) (k22) sP1 s10) (zsS (ziS zi0) (zsS zi0 zs0)) (fun A23 k23 => ?_)
   refine xn 7 [] [(127, .slice A12 (List.length (ofN B64 y1)) k12), (126, .slice A20 (List.length (ofN B64 F2)) k20)] ?_
   refine xcr 128 (ct_impl_nat_mul (F2) (y1) (A20) (A12) (k20) (k12) sF2 sy1) (zsS (ziS (ziS (ziS (ziS zi0)))) (zsS (ziS (ziS (ziS (ziS (ziS (ziS (ziS (ziS (ziS (ziS (ziS zi0))))))))))) zs0)) (fun A24 k24 => ?_)
   refine xz [] [(23, .slice A24 (List.length (ofN B64 (F2 * y1))) k24), (22, .slice A23 (List.length (ofN B64 (F1 * y2 * 10))) k23)] ?_
   refine xg ?_
   refine xn 2 [] [(130, .slice A23 (List.length (ofN B64 (F1 * y2 * 10))) k23), (129, .slice A24 (List.length (ofN B64 (F2 * y1))) k24)] ?_
   refine xcv 131 (ct_impl_nat_cmp (F2 * y1) (F1 * y2 * 10) (A24) (A23) (k24) (k23) sP3 sP2) (zsS zi0 (zsS (ziS zi0) zs0)) ?_
   refine xz [] [(24, .int .i64 (cmpN (F2 * y1) (F1 * y2 * 10)))] ?_
   refine xg ?_
   refine xn 3 [] [(134, .bool (decide (cmpN (F2 * y1) (F1 * y2 * 10) < 0)))] ?_
   refine xkf 134 z2 ?_
   refine xn 6 [] [(137, .bool (cmpN (F2 * y1) (F1 * y2 * 10) == 0))] ?_
   refine xkf 137 z3 ?_
   refine xz [] [(151, .bool false)] ?_
   refine xs0 ?_
   refine SW_skip ?_
   refine xg ?_
   refine xn 1 [] [(156, .slice A13 (List.length (ofN B64 n)) k13)] ?_
   (refine xcm 157 [false] (cd (A13) (k13)) (zsS (ziS (ziS (ziS (ziS (ziS (ziS (ziS (ziS (ziS (ziS (ziS (ziS (ziS zi0))))))))))))) zs0) (fun zz => ?_); obtain ⟨⟨z8, ⟨z9, z10⟩⟩, p11⟩ := zz)
   refine xz [] [(5, .int .i64 E), (4, .slice (some ⟨z8, 0, none⟩) kk z10)] ?_
   refine SW_ret ?_
   refine xmeg (.tuple #[.slice (some ⟨z8, 0, none⟩) kk z10, .int .i64 E]) [] ?_
   exact ⟨⟨((z8, z9, z10), (n, E)), by dsimp only; rw [hkk]; exact p11, hn1.1, n135, hmain⟩, [true], by dsimp only; rw [hkk], rfl, zs0⟩
 ·have z1 : decide (cmpN lo2 hi2 ≤ 0) = false := decide_eq_false (by rw [cmpN_gt' (by omega)]; decide)
  rw [if_neg (fun z => hle z.1)] at hmain
  refine SW_seq ?_
  refine xg ?_
  refine xn 2 [] [(102, .slice A' (List.length (ofN B64 hi2)) c'), (101, .slice A (List.length (ofN B64 lo2)) c)] ?_
  refine xcv 103 (ct_impl_nat_cmp (lo2) (hi2) (A) (A') (c) (c') slo2 shi2) (zsS zi0 (zsS (ziS zi0) zs0)) ?_
  refine xz [] [(104, .bool (decide (cmpN lo2 hi2 ≤ 0)))] ?_
  refine xsf z1 ?_
  refine SW_skip ?_
  refine xg ?_
  refine xn 1 [] [(156, .slice A13 (List.length (ofN B64 n)) k13)] ?_
  (refine xcm 157 [false] (cd (A13) (k13)) (zsS (ziS (ziS (ziS (ziS (ziS zi0))))) zs0) (fun zz => ?_); obtain ⟨⟨z8, ⟨z9, z10⟩⟩, p11⟩ := zz)
  refine xz [] [(5, .int .i64 E), (4, .slice (some ⟨z8, 0, none⟩) kk z10)] ?_
  refine SW_ret ?_
  refine xmeg (.tuple #[.slice (some ⟨z8, 0, none⟩) kk z10, .int .i64 E]) [] ?_
  exact ⟨⟨((z8, z9, z10), (n, E)), by dsimp only; rw [hkk]; exact p11, hn1.1, n135, hmain⟩, [true], by dsimp only; rw [hkk], rfl, zs0⟩
end Go.Proofs.YtgknelgplmohoaaDoor.M
end
section
namespace Go.Proofs.YtgknelgplmohoaaDoor.M
open Go.RowKit Go.Proofs.YtgknelgplmohoaaDoor.G Go.Proofs.YtgknelgplmohoaaDoorV.PrintWords Go.Proofs.YtgknelgplmohoaaDoorV.PrintLast Go.Proofs.YtgknelgplmohoaaDoor.X
set_option linter.unusedVariables false
set_option linter.unusedSimpArgs false
def isD (c : Int) : Bool := decide (48 ≤ c) && decide (c ≤ 57)
def dropZ : List Int → List Int
  | [] => []
  | a :: l => if a = 48 then dropZ l else a :: l
def dropE (l : List Int) : List Int × Nat := ((dropZ l.reverse).reverse, l.length - (dropZ l.reverse).length)
def stepV (c : Int) : Option Nat := if isD c = true then some 2 else if c = 46 then some 3 else if c = 105 then some 9 else if c = 110 then some 17 else none
def one (c a : Int) (n : Nat) : Option Nat := if c = a then some n else none
def stp (σ : Nat) (c : Int) : Option Nat := match σ with
  | 0 => if c = 43 ∨ c = 45 then some 1 else stepV c
  | 1 => stepV c
  | 2 => if isD c = true then some 2 else if c = 46 then some 4 else if c = 101 then some 6 else none
  | 3 => if isD c = true then some 5 else none
  | 4 => if isD c = true then some 5 else if c = 101 then some 6 else none
  | 5 => if isD c = true then some 5 else if c = 101 then some 6 else none
  | 6 => if isD c = true then some 8 else if c = 43 ∨ c = 45 then some 7 else none
  | 7 => if isD c = true then some 8 else none
  | 8 => if isD c = true then some 8 else none
  | 9 => one c 110 10
  | 10 => one c 102 11
  | 11 => one c 105 12
  | 12 => one c 110 13
  | 13 => one c 105 14
  | 14 => one c 116 15
  | 15 => one c 121 16
  | 17 => one c 97 18
  | 18 => one c 110 19
  | _ => none
def accS (σ : Nat) : Bool := [2, 4, 5, 8, 11, 16, 19].contains σ
def chain : Nat → List Int → Nat → Prop
  | σ, [], τ => σ = τ
  | σ, a :: w, τ => ∃ σ', (∀ c, stp σ c = one c a σ') ∧ accS σ = false ∧ chain σ' w τ
end Go.Proofs.YtgknelgplmohoaaDoor.M
end
section
namespace Go.Proofs.YtgknelgplmohoaaDoor.M
open Go.RowKit Go.Proofs.YtgknelgplmohoaaDoor.G Go.Proofs.YtgknelgplmohoaaDoorV.PrintWords Go.Proofs.YtgknelgplmohoaaDoorV.PrintLast Go.Proofs.YtgknelgplmohoaaDoor.X
set_option linter.unusedVariables false
set_option linter.unusedSimpArgs false
theorem dropZ_len : ∀ l : List Int, (dropZ l).length ≤ l.length
 | [] => Nat.le_refl _
 | a :: l => by
  rw [dropZ]
  split
  ·have := dropZ_len l; simp only [List.length_cons]; omega
  ·exact Nat.le_refl _
theorem dropE_zero (O : List Int) : dropE (O ++ [48]) = ((dropE O).1, (dropE O).2 + 1) := by
 have := dropZ_len O.reverse
 rw [List.length_reverse] at this
 unfold dropE
 rw [List.reverse_append, List.reverse_singleton, List.singleton_append, dropZ, if_pos rfl]
 congr 1
 rw [List.length_append, List.length_singleton]
 omega
theorem dropE_stop {O : List Int} {y : Int} (h : y ≠ 48) : dropE (O ++ [y]) = (O ++ [y], 0) := by
 unfold dropE
 rw [List.reverse_append, List.reverse_singleton, List.singleton_append, dropZ, if_neg h]
 congr 1
 ·rw [List.reverse_cons, List.reverse_reverse]
 ·simp
theorem dropE_nil : dropE [] = ([], 0) := rfl
theorem ct_impl_trimZeros (g c : Nat) (xs : List Int) (r : List Value) (x0 : Int) (tl : List Int) (hx : xs = x0 :: tl) (h0 : x0 ≠ 48) (hc : xs.length + r.length = c) (hl : xs.length ≤ 1000000) :
  CtM Tryd.prog 86 [.slice (some ⟨g, 0, none⟩) xs.length c] [⟨g, cl .u8 xs r, 5⟩] [] (γ := {r' : List Value // (dropE xs).1.length + r'.length = c}) (fun p => .tuple #[.slice (some ⟨g, 0, none⟩) (dropE xs).1.length c, .int .i64 ((dropE xs).2 : Int)]) (fun p => [⟨g, cl .u8 (dropE xs).1 p.1, 5⟩]) (fun _ => []) := by
 have z0 : decide ((xs.length : Int) > 0) = true := decide_eq_true (by rw [hx]; simp)
 have hp : 0 < xs.length := by rw [hx]; simp
 have v0 : Ve (rd xs ((0 : Nat) : Int)) x0 := ⟨by rw [hx]; rfl⟩
 have z1 : (x0 == 48) = false := by rw [beq_eq_false_iff_ne]; exact h0
 refine cm_of Tryd.func86 rfl (by kernel_rfl) (fun B w0 => ?_)
 refine xr [] [(3, .int .i64 0), (2, .slice none 0 0)] ?_
 refine SW_cut (fun s' => Weak s' ⟨[(0, .slice (some ⟨g, 0, none⟩) xs.length c)], [⟨g, cl .u8 xs r, 5⟩], []⟩) ?_ (fun s' hw => ?_)
 ·refine SW_block ?_
  refine SW_unroll ?_
  refine LW_step ?_
  refine SW_seq ?_
  refine xg ?_
  refine xn 4 [] [(8, .bool (decide ((((List.length xs) : Nat) : Int) > 0)))] ?_
  refine xkt 8 z0 ?_
  refine xn 5 [] [(9, .slice (some ⟨g, 0, none⟩) (List.length xs) c)] ?_
  refine xoi 10 5 (g) (List.length xs) (c) 0 IntKind.i64 (0) ⟨rfl⟩ (by omega) ?_
  refine xole 11 0 (g) (0) IntKind.u8 (xs) (r) 5 (x0) v0 (by first | omega | (simp <;> omega)) ?_
  refine xz [] [(13, .bool (x0 == 48))] ?_
  refine xsf z1 ?_
  refine SW_exit ?_
  exact xw zs0
 refine SW_weak hw ?_
 clear hw
 refine xr [] [(4, .int .i64 0)] ?_
 refine SW_cut (fun s' => ∃ r', (dropE xs).1.length + r'.length = c ∧ Weak s' ⟨[(0, .slice (some ⟨g, 0, none⟩) (dropE xs).1.length c), (4, .int .i64 ((dropE xs).2 : Int))], [⟨g, cl .u8 (dropE xs).1 r', 5⟩], []⟩) ?_ (fun s' hw => ?_)
 ·refine SW_block ?_
  refine SW_loopn (fun n s' => ∃ (O : List Int) (r' : List Value) (t : Nat), O.length = n ∧ (dropE xs).1 = (dropE O).1 ∧ (dropE xs).2 = t + (dropE O).2 ∧ n + r'.length = c ∧ n + t = xs.length ∧ Weak s' ⟨[(0, .slice (some ⟨g, 0, none⟩) n c), (4, .int .i64 (t : Int))], [⟨g, cl .u8 O r', 5⟩], []⟩) xs.length ⟨xs, r, 0, rfl, rfl, by omega, hc, by omega, ?_⟩ (fun n s' hI => ?_)
  ·exact xw zs0
  ·obtain ⟨O, r', t, h1, h2, h3, h4, h5, hw⟩ := hI
   refine SW_weak hw ?_
   clear hw z0 v0
   rcases List.eq_nil_or_concat O with h | ⟨O3, y, h⟩
   ·subst h
    obtain rfl : n = 0 := h1.symm
    rw [dropE_nil] at h2 h3
    dsimp only at h2 h3
    rw [h2, h3]
    refine SW_seq ?_
    refine xr [] [(27, .bool false)] ?_
    refine xs0 ?_
    refine SW_exit ?_
    refine ⟨r', h4, ?_⟩
    exact xw zs0
   ·obtain ⟨k, rfl⟩ : ∃ k, n = k + 1 := ⟨O3.length, by rw [← h1, h]; simp⟩
    have hk : O3.length = k := by
     rw [h] at h1
     simpa using h1
    have z : decide (((k + 1 : Nat) : Int) > 0) = true := decide_eq_true (by omega)
    have v1 : Ve (IntKind.i64.wrap (((k + 1 : Nat) : Int) - 1)) (k : Int) := ⟨by rw [wrap_i64 (by omega)]; omega⟩
    have v2 : Ve (rd O (k : Int)) y := ⟨by rw [h, List.concat_eq_append, rd_mid O3 [] y k hk.symm]⟩
    have v3 : Ve (IntKind.i64.wrap ((t : Int) + 1)) ((t + 1 : Nat) : Int) := ⟨by rw [wrap_i64 (by omega)]; omega⟩
    have hcl : cl .u8 O r' = cl .u8 O3 (.int .u8 y :: r') := by simp [cl, h]
    rw [List.concat_eq_append] at h
    by_cases hy : y = 48
    ·have z2 : (y == 48) = true := by simp [hy]
     rw [h, hy, dropE_zero] at h2 h3
     dsimp only at h2 h3
     clear h
     refine SW_seq ?_
     refine xg ?_
     refine xn 4 [] [(19, .bool (decide ((((k + 1) : Nat) : Int) > 0)))] ?_
     refine xkt 19 z ?_
     refine xn 7 [] [(22, .int .i64 (((k + 1) : Nat) : Int)), (20, .slice (some ⟨g, 0, none⟩) (k + 1) c)] ?_
     refine xve 23 IntKind.i64 (IntKind.wrap IntKind.i64 ((((k + 1) : Nat) : Int) - 1)) ((k : Int)) v1 ?_
     refine xoi 24 5 (g) (k + 1) (c) (k) IntKind.i64 ((k : Int)) ⟨rfl⟩ (by omega) ?_
     refine xole 25 0 (g) (k) IntKind.u8 (O) (r') 5 (y) v2 (by first | omega | (simp <;> omega)) ?_
     refine xz [] [(27, .bool (y == 48))] ?_
     refine xst z2 ?_
     refine SW_skip ?_
     refine SW_block ?_
     refine xg ?_
     refine xn 3 [] [(30, .int .i64 (((k + 1) : Nat) : Int)), (28, .slice (some ⟨g, 0, none⟩) (k + 1) c)] ?_
     refine xve 31 IntKind.i64 (IntKind.wrap IntKind.i64 ((((k + 1) : Nat) : Int) - 1)) ((k : Int)) v1 ?_
     refine xsh 32 5 (some ⟨g, 0, none⟩) (k + 1) (c) (k) IntKind.i64 ((k : Int)) ⟨rfl⟩ (by omega) ?_
     refine xz [] [(0, .slice (some ⟨g, 0, none⟩) k c)] ?_
     refine SW_region ?_
     refine xn 1 [] [(33, .int .i64 (t : Int))] ?_
     refine xve 34 IntKind.i64 (IntKind.wrap IntKind.i64 ((t : Int) + 1)) ((((t + 1) : Nat) : Int)) v3 ?_
     refine xz [] [(4, .int .i64 (((t + 1) : Nat) : Int))] ?_
     rw [hcl]
     refine ⟨k, by omega, O3, .int .u8 y :: r', t + 1, hk, h2, by omega, by simp only [List.length_cons]; omega, by omega, ?_⟩
     exact xw zs0
    ·have z2 : (y == 48) = false := by simp [hy]
     have e := dropE_stop (O := O3) hy
     rw [← h] at e
     rw [e] at h2 h3
     dsimp only at h2 h3
     have e2 : (dropE xs).1.length = k + 1 := by rw [h2, h1]
     rw [e2, h2, h3]
     clear h
     refine SW_seq ?_
     refine xg ?_
     refine xn 4 [] [(19, .bool (decide ((((k + 1) : Nat) : Int) > 0)))] ?_
     refine xkt 19 z ?_
     refine xn 7 [] [(22, .int .i64 (((k + 1) : Nat) : Int)), (20, .slice (some ⟨g, 0, none⟩) (k + 1) c)] ?_
     refine xve 23 IntKind.i64 (IntKind.wrap IntKind.i64 ((((k + 1) : Nat) : Int) - 1)) ((k : Int)) v1 ?_
     refine xoi 24 5 (g) (k + 1) (c) (k) IntKind.i64 ((k : Int)) ⟨rfl⟩ (by omega) ?_
     refine xole 25 0 (g) (k) IntKind.u8 (O) (r') 5 (y) v2 (by first | omega | (simp <;> omega)) ?_
     refine xz [] [(27, .bool (y == 48))] ?_
     refine xsf z2 ?_
     refine SW_exit ?_
     refine ⟨r', h4, ?_⟩
     exact xw zs0
 obtain ⟨r', h1, hw⟩ := hw
 refine SW_weak hw ?_
 clear hw
 refine xr [] [(3, .int .i64 (((Prod.snd (dropE xs)) : Nat) : Int)), (2, .slice (some ⟨g, 0, none⟩) (List.length (Prod.fst (dropE xs))) c)] ?_
 refine SW_ret ?_
 refine xmeg (.tuple #[.slice (some ⟨g, 0, none⟩) (List.length (Prod.fst (dropE xs))) c, .int .i64 (((Prod.snd (dropE xs)) : Nat) : Int)]) [] ?_
 exact ⟨⟨r', h1⟩, [true], rfl, rfl, zs0⟩
end Go.Proofs.YtgknelgplmohoaaDoor.M
end
section
namespace Go.Proofs.YtgknelgplmohoaaDoor.M
open Go.RowKit Go.Proofs.YtgknelgplmohoaaDoor.G Go.Proofs.YtgknelgplmohoaaDoorV.PrintWords Go.Proofs.YtgknelgplmohoaaDoorV.PrintLast Go.Proofs.YtgknelgplmohoaaDoor.X
set_option linter.unusedVariables false
set_option linter.unusedSimpArgs false
theorem digT0_head {n : Nat} (h : n ≠ 0) : ∃ x0 tl, digT0 n = x0 :: tl ∧ x0 ≠ 48 := by
 rw [digT0_pos h]
 exact rdig_last n n (Nat.le_refl _) h
theorem digT0_one : digT0 1 = [49] := by
 rw [digT0_pos (by decide), rdig_step (by decide)]
 rfl
theorem digT0_ten : digT0 10 = [49, 48] := by
 rw [digT0_pos (by decide), rdig_step (by decide), rdig_step (by decide)]
 rfl
theorem drop_same {n D : Nat} {E u : Int} (h : (n, E) = (D, u) ∨ ((n, E) = (1, u + 1) ∧ D = 10)) : (dropE (digT0 n)).1 = (dropE (digT0 D)).1 ∧ E + ((dropE (digT0 n)).2 : Int) = u + ((dropE (digT0 D)).2 : Int) := by
 rcases h with h | ⟨h, rfl⟩
 ·injection h with h1 h2
  subst h1 h2
  exact ⟨rfl, rfl⟩
 ·injection h with h1 h2
  subst h1 h2
  rw [digT0_one, digT0_ten]
  refine ⟨rfl, ?_⟩
  show u + 1 + ((0 : Nat) : Int) = u + ((1 : Nat) : Int)
  omega
structure ShD (P : Nat) (emin : Int) (S : Nat) (q : Int) (cl : Bool) (eS u : Int) (D : Nat) : Prop where
 sh : Sh cl (s6 (bndN P emin S q).1) (s6 (midN S q)) (s6 (bndN P emin S q).2.1) (tU (bndN P emin S q).2.2) (-(kK : Int)) eS
 es : -5125 ≤ eS ∧ eS ≤ 5125
 u1 : u ≤ eS
 u38 : eS - 38 ≤ u
 ul : lhN cl (s6 (bndN P emin S q).1) (s6 (bndN P emin S q).2.1) (s6 (midN S q)) (tU (bndN P emin S q).2.2 u) = true
 um : ∀ e, u < e → e ≤ eS → ¬ lhN cl (s6 (bndN P emin S q).1) (s6 (bndN P emin S q).2.1) (s6 (midN S q)) (tU (bndN P emin S q).2.2 e) = true
 d : chS cl (s6 (bndN P emin S q).1) (s6 (bndN P emin S q).2.1) (s6 (midN S q)) (tU (bndN P emin S q).2.2 u) = D
theorem ct_impl_Shortest {P : Nat} {emin emax : Int} {W E : Nat} {ex : Bool} {f : Int} (d : FD f P emin emax W E ex) (hf4 : 0 ≤ f ∧ f < 4) (x : Nat) (hx : x < B128) (cc : Int) (neg : Bool) (S : Nat) (q : Int) (hxu : unpN P emin emax W E ex x = (cc, neg, hiI S, loI S, q)) (hv : VP P emin emax cc S q) (hc : cc = 2 ∨ cc = 3)
  (eS u : Int) (D : Nat) (sd : ShD P emin S q (decide (S % 2 = 0)) eS u D) (ds : List Int) (ee : Int) (hds : (dropE (digT0 D)).1 = ds) (hee : u + ((dropE (digT0 D)).2 : Int) = ee) :
  CtM Tryd.prog 23 [.int .i64 f, .agg #[.int .u64 (hiI x), .int .u64 (loI x)]] [] [Tabled] (γ := {p : Nat × List Value × Nat // ds.length + p.2.1.length = p.2.2}) (fun p => .agg #[.slice (some ⟨p.1.1, 0, none⟩) ds.length p.1.2.2, .int .i64 ee, .bool neg, .int .i64 0]) (fun p => [⟨p.1.1, X.cl .u8 ds p.1.2.1, 5⟩]) (fun _ => []) := by
 have h := d.h
 have hF := h.toFmt
 have ci := ct_impl_isFormat f true (decide_eq_true hf4)
 have cu := ct_impl_Unpack hF f d.lf x hx
 rw [hxu, prtV] at cu
 dsimp only at cu
 obtain ⟨⟨bS0, bS1⟩, bq0, bq1, bS2, bS3⟩ := vp_fin h d.x1 hv hc
 have p1 := h.p1
 have m0 := h.m0
 have m1 := h.m1
 have b128 : 2 ^ P < B128 := Nat.pow_lt_pow_right (a := 2) (n := 128) (by decide) (by omega)
 have bS : S < B128 := by omega
 obtain ⟨w, hw⟩ : ∃ w, bndN P emin S q = w := ⟨_, rfl⟩
 have cb := ct_impl_Bounds d x hx cc neg S q hxu hv hc w hw
 obtain ⟨k, hk, ⟨l1, l2, l3⟩, g1, g2, g3⟩ := bnd_sm h d.x1 hv hc
 have hmid : midN S q < (bndN P emin S q).2.1 := by
  rw [(bnd_tq (P := P) (emin := emin) (S := S) (q := q)).2.1]
  exact Nat.mul_lt_mul_of_pos_right (show S * 2 ^ 2 < hi4 S by unfold hi4; omega) (Nat.pow_pos (by decide))
 obtain ⟨s1, s2, s3, s4, s5, s6', s7⟩ := sd
 rw [hw] at l1 l2 l3 g3 hmid s1 s5 s6' s7
 obtain ⟨lo, hi, den⟩ := w
 dsimp only at l1 l2 l3 g3 hmid s1 s5 s6' s7
 have cs := fun p1 p2 p3 j1 j2 j3 => ct_impl_shortest hw s1 s2 l1 l2 l3 hk g3 hmid bS (by omega) s3 s4 s5 s6' D s7 p1 p2 p3 j1 j2 j3 cc neg
 have hc1 : (cc == 0) = false ∧ (cc == 1) = false ∧ (cc == 4) = false ∧ (cc == 5) = false := by rcases hc with rfl | rfl <;> decide
 obtain ⟨z0, z1, z4, z5⟩ := hc1
 generalize decide (S % 2 = 0) = clo at *
 refine cm_of Tryd.func23 rfl (by kernel_rfl) (fun B w0 => ?_)
 clear s1 s5 s6' s7 hw l1 l2 l3 g1 g2 g3 hmid hv hxu
 have noweak := True.intro
 refine xg ?_
 refine xb 3 [.int .u64 (hiI x), .int .u64 (loI x)] 28 (fun g0 => ?_)
 refine xb 4 [.slice none 0 0, .int .i64 0, .bool false, .int .i64 0] 52 (fun g1 => ?_)
 refine xz [] [] ?_
 refine SW_seq ?_
 refine xg ?_
 refine xn 1 [] [(9, .int .i64 f)] ?_
 refine xcv 10 ci zs0 ?_
 refine xz [] [(11, .bool false)] ?_
 refine xs0 ?_
 refine SW_skip ?_
 refine xg ?_
 refine xn 2 [(1, [0])] [(14, .agg #[.int .u64 (hiI x), .int .u64 (loI x)]), (13, .int .i64 f)] ?_
 refine xcv 15 cu (zsS zi0 zs0) ?_
 refine xb 5 [.int .i64 0, .bool false, .int .u64 0, .int .u64 0, .int .i64 0] 33 (fun g2 => ?_)
 refine xy [(4, [2])] [] [(2, [.int .i64 cc, .bool neg, .int .u64 (hiI S), .int .u64 (loI S), .int .i64 q])] ?_
 refine SW_seq ?_
 refine xr [(1, [2])] [(17, .int .i64 cc)] ?_
 refine SW_block ?_
 refine xr [] [(18, .bool (cc == 0))] ?_
 refine xsf z0 ?_
 refine SW_seq ?_
 refine xr [] [(21, .bool (cc == 1))] ?_
 refine xsf z1 ?_
 refine xr [] [(21, .bool (cc == 4))] ?_
 refine xsf z4 ?_
 refine xrl [] [(21, .bool (cc == 5))] ?_
 refine xsf z5 ?_
 refine SW_skip ?_
 refine xd (fun hB => ?_)
 refine xdk [(0, []), (1, [0]), (3, [2])] [(32, .agg #[.int .i64 cc, .bool neg, .int .u64 (hiI S), .int .u64 (loI S), .int .i64 q]), (30, .agg #[.int .u64 (hiI x), .int .u64 (loI x)]), (29, .int .i64 f)] hB ?_
 (refine xdc 2 31 cb (zsS zi0 zs0) (fun zz => ?_); obtain ⟨⟨z6, z7⟩, ⟨⟨z8, z9⟩, ⟨z10, z11⟩⟩⟩ := zz)
 (refine xdcm 4 33 [false] [true, true, true] (cs (z6) (z8) (z10) (z7) (z9) (z11)) (zsS zi0 (zsS (ziS zi0) (zsS (ziS (ziS zi0)) zs0))) (zsS (ziS (ziS (ziS zi0))) zs0) (fun zz => ?_); obtain ⟨⟨⟨z12, ⟨z13, z14⟩⟩, ⟨z15, z16⟩⟩, p17⟩ := zz)
 refine xdk [(5, []), (6, []), (7, []), (8, []), (9, [])] [(7, .int .i64 z16), (6, .slice (some ⟨z12, 0, none⟩) (List.length (digT0 z15)) z14)] hB ?_
 refine xdz ?_
 refine xg ?_
 refine xn 1 [] [(37, .slice (some ⟨z12, 0, none⟩) (List.length (digT0 z15)) z14)] ?_
 obtain ⟨e1, e2, e3, e4⟩ := p17
 dsimp only at e1 e2 e3 e4
 obtain ⟨x0, tl, hx0, h0⟩ := digT0_head e2
 have ct := ct_impl_trimZeros z12 z14 (digT0 z15) z13 x0 tl hx0 h0 e1 (Nat.le_trans (digT0_len e3 (by decide)) (by decide))
 obtain ⟨k1, k2⟩ := drop_same e4
 rw [k1, hds] at ct
 have k3 := k2.trans hee
 obtain ⟨t, ht⟩ : ∃ t, (dropE (digT0 z15)).2 = t := ⟨_, rfl⟩
 rw [ht] at ct k3
 have hE : -5200 ≤ z16 ∧ z16 ≤ 5200 := by
  rcases e4 with e4 | ⟨e4, _⟩
  ·injection e4 with _ e5
   omega
  ·injection e4 with _ e5
   omega
 have ht2 : t ≤ 24320 := by
  have := digT0_len e3 (by decide)
  rw [← ht]
  unfold dropE
  dsimp only
  omega
 have v1 : Ve (IntKind.i64.wrap (z16 + (t : Int))) ee := ⟨by rw [wrap_i64 (by omega)]; exact k3⟩
 clear noweak
 (refine xcm 38 [false, false, false, true] ct zs0 (fun zz => ?_); obtain ⟨z17, p18⟩ := zz)
 refine xz [] [(8, .int .i64 (t : Int)), (6, .slice (some ⟨z12, 0, none⟩) (List.length ds) z14)] ?_
 refine xg ?_
 refine xn 3 [] [(43, .int .i64 (t : Int)), (42, .int .i64 z16), (41, .slice (some ⟨z12, 0, none⟩) (List.length ds) z14)] ?_
 refine xve 44 IntKind.i64 (IntKind.wrap IntKind.i64 (z16 + (t : Int))) (ee) v1 ?_
 refine xy [(5, [2]), (7, [1])] [] [(1, [.slice (some ⟨z12, 0, none⟩) (List.length ds) z14, .int .i64 ee, .bool neg, .int .i64 0])] ?_
 refine SW_ret ?_
 refine xmeg (.agg #[.slice (some ⟨z12, 0, none⟩) (List.length ds) z14, .int .i64 ee, .bool neg, .int .i64 0]) [1] ?_
 exact ⟨⟨(z12, z17, z14), p18⟩, [false, false, false, true], rfl, rfl, zs0⟩
theorem ct_impl_Shortest0 {P : Nat} {emin emax : Int} {W E : Nat} {ex : Bool} {f : Int} (d : FD f P emin emax W E ex) (hf4 : 0 ≤ f ∧ f < 4) (u1 u2 : Int) (cc : Int) (hc : cc = 0 ∨ cc = 1 ∨ cc = 4 ∨ cc = 5) (neg : Bool) (k1 k2 k3 : Int) (cu : CtV Tryd.prog 10 [.int .i64 f, .agg #[.int .u64 u1, .int .u64 u2]] [Tabled] (.agg #[.int .i64 cc, .bool neg, .int .u64 k1, .int .u64 k2, .int .i64 k3])) :
  CtV Tryd.prog 23 [.int .i64 f, .agg #[.int .u64 u1, .int .u64 u2]] [Tabled] (.agg #[.slice none 0 0, .int .i64 0, .bool (if cc = 0 then false else neg), .int .i64 (if cc = 0 then 3 else 0)]) := by
 have ci := ct_impl_isFormat f true (decide_eq_true hf4)
 refine ct_of Tryd.func23 rfl (by kernel_rfl) (fun B w0 => ?_)
 rcases hc with rfl | rfl | rfl | rfl
 ·rw [if_pos rfl, if_pos rfl]
  refine xg ?_
  refine xb 3 [.int .u64 u1, .int .u64 u2] 28 (fun g0 => ?_)
  refine xb 4 [.slice none 0 0, .int .i64 0, .bool false, .int .i64 0] 52 (fun g1 => ?_)
  refine xz [] [] ?_
  refine SW_seq ?_
  refine xg ?_
  refine xn 1 [] [(9, .int .i64 f)] ?_
  refine xcv 10 ci zs0 ?_
  refine xz [] [(11, .bool false)] ?_
  refine xs0 ?_
  refine SW_skip ?_
  refine xg ?_
  refine xn 2 [(1, [0])] [(14, .agg #[.int .u64 u1, .int .u64 u2]), (13, .int .i64 f)] ?_
  refine xcv 15 cu (zsS zi0 zs0) ?_
  refine xb 5 [.int .i64 0, .bool false, .int .u64 0, .int .u64 0, .int .i64 0] 33 (fun g2 => ?_)
  refine xy [(4, [2])] [] [(2, [.int .i64 0, .bool neg, .int .u64 k1, .int .u64 k2, .int .i64 k3])] ?_
  refine SW_seq ?_
  refine xr [(1, [2])] [(17, .int .i64 0)] ?_
  refine SW_block ?_
  refine xr [] [(18, .bool true)] ?_
  refine xs1 ?_
  refine xq [(1, [1])] [] [(1, [.slice none 0 0, .int .i64 0, .bool false, .int .i64 3])] ?_
  refine SW_ret ?_
  refine xe () (.agg #[.slice none 0 0, .int .i64 0, .bool false, .int .i64 3]) [1] ?_ trivial
  rfl
 ·rw [if_neg (by decide), if_neg (by decide)]
  refine xg ?_
  refine xb 3 [.int .u64 u1, .int .u64 u2] 28 (fun g0 => ?_)
  refine xb 4 [.slice none 0 0, .int .i64 0, .bool false, .int .i64 0] 52 (fun g1 => ?_)
  refine xz [] [] ?_
  refine SW_seq ?_
  refine xg ?_
  refine xn 1 [] [(9, .int .i64 f)] ?_
  refine xcv 10 ci zs0 ?_
  refine xz [] [(11, .bool false)] ?_
  refine xs0 ?_
  refine SW_skip ?_
  refine xg ?_
  refine xn 2 [(1, [0])] [(14, .agg #[.int .u64 u1, .int .u64 u2]), (13, .int .i64 f)] ?_
  refine xcv 15 cu (zsS zi0 zs0) ?_
  refine xb 5 [.int .i64 0, .bool false, .int .u64 0, .int .u64 0, .int .i64 0] 33 (fun g2 => ?_)
  refine xy [(4, [2])] [] [(2, [.int .i64 1, .bool neg, .int .u64 k1, .int .u64 k2, .int .i64 k3])] ?_
  refine SW_seq ?_
  refine xr [(1, [2])] [(17, .int .i64 1)] ?_
  refine SW_block ?_
  refine xr [] [(18, .bool false)] ?_
  refine xs0 ?_
  refine SW_seq ?_
  refine xr [] [(21, .bool true)] ?_
  refine xs1 ?_
  refine SW_skip ?_
  refine xs1 ?_
  refine xq [(1, [2]), (3, [1])] [] [(1, [.slice none 0 0, .int .i64 0, .bool neg, .int .i64 0])] ?_
  refine SW_ret ?_
  refine xe () (.agg #[.slice none 0 0, .int .i64 0, .bool neg, .int .i64 0]) [1] ?_ trivial
  rfl
 ·rw [if_neg (by decide), if_neg (by decide)]
  refine xg ?_
  refine xb 3 [.int .u64 u1, .int .u64 u2] 28 (fun g0 => ?_)
  refine xb 4 [.slice none 0 0, .int .i64 0, .bool false, .int .i64 0] 52 (fun g1 => ?_)
  refine xz [] [] ?_
  refine SW_seq ?_
  refine xg ?_
  refine xn 1 [] [(9, .int .i64 f)] ?_
  refine xcv 10 ci zs0 ?_
  refine xz [] [(11, .bool false)] ?_
  refine xs0 ?_
  refine SW_skip ?_
  refine xg ?_
  refine xn 2 [(1, [0])] [(14, .agg #[.int .u64 u1, .int .u64 u2]), (13, .int .i64 f)] ?_
  refine xcv 15 cu (zsS zi0 zs0) ?_
  refine xb 5 [.int .i64 0, .bool false, .int .u64 0, .int .u64 0, .int .i64 0] 33 (fun g2 => ?_)
  refine xy [(4, [2])] [] [(2, [.int .i64 4, .bool neg, .int .u64 k1, .int .u64 k2, .int .i64 k3])] ?_
  refine SW_seq ?_
  refine xr [(1, [2])] [(17, .int .i64 4)] ?_
  refine SW_block ?_
  refine xr [] [(18, .bool false)] ?_
  refine xs0 ?_
  refine SW_seq ?_
  refine xr [] [(21, .bool false)] ?_
  refine xs0 ?_
  refine xr [] [(21, .bool true)] ?_
  refine xs1 ?_
  refine SW_skip ?_
  refine xs1 ?_
  refine xq [(1, [2]), (3, [1])] [] [(1, [.slice none 0 0, .int .i64 0, .bool neg, .int .i64 0])] ?_
  refine SW_ret ?_
  refine xe () (.agg #[.slice none 0 0, .int .i64 0, .bool neg, .int .i64 0]) [1] ?_ trivial
  rfl
 ·rw [if_neg (by decide), if_neg (by decide)]
  refine xg ?_
  refine xb 3 [.int .u64 u1, .int .u64 u2] 28 (fun g0 => ?_)
  refine xb 4 [.slice none 0 0, .int .i64 0, .bool false, .int .i64 0] 52 (fun g1 => ?_)
  refine xz [] [] ?_
  refine SW_seq ?_
  refine xg ?_
  refine xn 1 [] [(9, .int .i64 f)] ?_
  refine xcv 10 ci zs0 ?_
  refine xz [] [(11, .bool false)] ?_
  refine xs0 ?_
  refine SW_skip ?_
  refine xg ?_
  refine xn 2 [(1, [0])] [(14, .agg #[.int .u64 u1, .int .u64 u2]), (13, .int .i64 f)] ?_
  refine xcv 15 cu (zsS zi0 zs0) ?_
  refine xb 5 [.int .i64 0, .bool false, .int .u64 0, .int .u64 0, .int .i64 0] 33 (fun g2 => ?_)
  refine xy [(4, [2])] [] [(2, [.int .i64 5, .bool neg, .int .u64 k1, .int .u64 k2, .int .i64 k3])] ?_
  refine SW_seq ?_
  refine xr [(1, [2])] [(17, .int .i64 5)] ?_
  refine SW_block ?_
  refine xr [] [(18, .bool false)] ?_
  refine xs0 ?_
  refine SW_seq ?_
  refine xr [] [(21, .bool false)] ?_
  refine xs0 ?_
  refine xr [] [(21, .bool false)] ?_
  refine xs0 ?_
  refine xrl [] [(21, .bool true)] ?_
  refine xs1 ?_
  refine xq [(1, [2]), (3, [1])] [] [(1, [.slice none 0 0, .int .i64 0, .bool neg, .int .i64 0])] ?_
  refine SW_ret ?_
  refine xe () (.agg #[.slice none 0 0, .int .i64 0, .bool neg, .int .i64 0]) [1] ?_ trivial
  rfl
theorem ct_impl_Shortest4 (f : Int) (hf4 : ¬ (0 ≤ f ∧ f < 4)) (u1 u2 : Int) :
  CtV Tryd.prog 23 [.int .i64 f, .agg #[.int .u64 u1, .int .u64 u2]] [Tabled] (.agg #[.slice none 0 0, .int .i64 0, .bool false, .int .i64 4]) := by
 have ci := ct_impl_isFormat f false (decide_eq_false hf4)
 refine ct_of Tryd.func23 rfl (by kernel_rfl) (fun B w0 => ?_)
 refine xg ?_
 refine xb 3 [.int .u64 u1, .int .u64 u2] 28 (fun g0 => ?_)
 refine xb 4 [.slice none 0 0, .int .i64 0, .bool false, .int .i64 0] 52 (fun g1 => ?_)
 refine xz [] [] ?_
 refine SW_seq ?_
 refine xg ?_
 refine xn 1 [] [(9, .int .i64 f)] ?_
 refine xcv 10 ci zs0 ?_
 refine xz [] [(11, .bool true)] ?_
 refine xs1 ?_
 refine xq [(1, [1])] [] [(1, [.slice none 0 0, .int .i64 0, .bool false, .int .i64 4])] ?_
 refine SW_ret ?_
 refine xe () (.agg #[.slice none 0 0, .int .i64 0, .bool false, .int .i64 4]) [1] ?_ trivial
 rfl
end Go.Proofs.YtgknelgplmohoaaDoor.M
end
section
namespace Go.Proofs.YtgknelgplmohoaaDoor.M
open Go.RowKit Go.Proofs.YtgknelgplmohoaaDoor.G Go.Proofs.YtgknelgplmohoaaDoorV.PrintWords Go.Proofs.YtgknelgplmohoaaDoorV.PrintLast Go.Proofs.YtgknelgplmohoaaDoor.X
set_option linter.unusedVariables false
set_option linter.unusedSimpArgs false
theorem ct_spec_l1Small_rows (a : List Int) (A : Option Addr) (c d : Nat) (da : Dig B32 a) (hla : a.length ≤ 1000000) (hd : 0 < d) (hdB : d < 4294967296) : ∀ r, Dig B32 r → Norm r → val B32 r = val B32 a / d → CtRV Tryd.prog 121 [.slice A a.length c, .int .u64 (d : Int)] [Row .u64 A c a] .u64 r (.int .u64 ((val B32 a % d : Nat) : Int)) := by
 intro r dr nr vr
 refine ct_of Tryd.func121 rfl (by kernel_rfl) (fun B w0 => ?_)
 have v0 : Ve (IntKind.i64.wrap ((a.length : Int) - 1)) ((a.length : Int) - 1) := ⟨wrap_i64 (by omega)⟩
 refine xr [] [(5, .int .u64 0), (4, .slice none 0 0)] ?_
 refine xg ?_
 refine xn 2 [] [(11, .int .i64 (((List.length a) : Nat) : Int))] ?_
 refine xma 12 26 (List.length a) IntKind.u64 8 ((((List.length a) : Nat) : Int)) ⟨rfl⟩ (by omega) (fun g0 => ?_)
 refine xz [] [(6, .slice (some ⟨g0, 0, none⟩) (List.length a) (List.length a))] ?_
 refine xr [] [(7, .int .u64 0)] ?_
 refine SW_seq ?_
 refine xg ?_
 refine xn 2 [] [(14, .int .i64 (((List.length a) : Nat) : Int))] ?_
 refine xve 15 IntKind.i64 (IntKind.wrap IntKind.i64 ((((List.length a) : Nat) : Int) - 1)) ((((List.length a) : Nat) : Int) - 1) v0 ?_
 refine xz [] [(8, .int .i64 ((((List.length a) : Nat) : Int) - 1))] ?_
 refine SW_then (fun s' => ∃ O : List Int, O.length = a.length ∧ Dig B32 O ∧ val B32 O * d + val B32 a % d = val B32 a ∧ Weak s' ⟨[(6, .slice (some ⟨g0, 0, none⟩) O.length a.length), (7, .int .u64 ((val B32 a % d : Nat) : Int))], [⟨g0, cl .u64 O [], 26⟩], [Row .u64 A c a]⟩) ?_ ?_
 ·refine SW_block ?_
  refine SW_loopn (fun m s => ∃ (O : List Int) (rest : Nat), m ≤ a.length ∧ O.length = a.length ∧ Dig B32 O ∧ rest < d ∧ val B32 (O.drop m) * d + rest = val B32 (a.drop m) ∧ Weak s ⟨[(0, .slice A a.length c), (1, .int .u64 (d : Int)), (6, .slice (some ⟨g0, 0, none⟩) a.length a.length), (7, .int .u64 (rest : Int)), (8, .int .i64 ((m : Int) - 1))], [⟨g0, cl .u64 O [], 26⟩], [Row .u64 A c a]⟩) a.length ⟨List.replicate a.length 0, 0, Nat.le_refl _, by simp, Dig.zeros B32_pos _, hd, by simp [val], ?_⟩ (fun m s hI => ?_)
  ·exact xw (zsS zi0 zs0)
  ·obtain ⟨O, rest, h1, h2, h3, h4, h5, hw⟩ := hI
   refine SW_weak hw ?_
   clear hw
   match m, h1, h5 with
   | 0, h1, h5 =>
    have z : decide (((0 : Nat) : Int) - 1 ≥ 0) = false := rfl
    rw [List.drop_zero, List.drop_zero] at h5
    obtain ⟨e1, e2⟩ := quot_of (show rest + val B32 O * d = val B32 a by omega) h4
    subst e2
    refine SW_seq ?_
    refine xr [] [(17, .bool false)] ?_
    refine xs0 ?_
    refine SW_exit ?_
    refine ⟨O, h2, h3, h5, ?_⟩
    rw [h2]
    exact xw (zsS zi0 zs0)
   | m + 1, h1, h5 =>
    have e0 : ((m + 1 : Nat) : Int) - 1 = (m : Int) := by omega
    rw [e0]
    have z : decide ((m : Int) ≥ 0) = true := decide_eq_true (by omega)
    refine SW_know zi0 (fun w h => row_at h (by omega)) (fun ⟨ad, e⟩ => ?_)
    subst e
    obtain ⟨x, hx, hxB⟩ := nat_rd32 da m
    have v1 : Ve (rd a (m : Int)) (x : Int) := ⟨hx⟩
    have v2 : Ve (IntKind.i64.wrap ((m : Int) - 1)) ((m : Int) - 1) := ⟨wrap_i64 (by omega)⟩
    have hq : (rest * 4294967296 + x) / d < 4294967296 := div_lt_base h4 hxB
    have v3 : Ve (shl .u64 (rest : Int) 32) ((rest * 4294967296 : Nat) : Int) := ⟨by have := shl_nat rest 32 (by omega); rw [show ((32 : Nat) : Int) = 32 from rfl] at this; rw [this]; omega⟩
    have v4 : Ve (bits .or .u64 ((rest * 4294967296 : Nat) : Int) (x : Int)) ((rest * 4294967296 + x : Nat) : Int) := ⟨or_nat 32 (rest * 4294967296) x (by omega) (by omega) (Nat.dvd_mul_left _ _) hxB⟩
    have hda := val_drop_rd B32 (l := a) (p := m) (by omega)
    rw [hx, Int.toNat_natCast] at hda
    have hdo := val_drop_rd B32 (l := O.set m (((rest * 4294967296 + x) / d : Nat) : Int)) (p := m) (by rw [List.length_set]; omega)
    rw [rd_set_self O m _ (by omega), List.drop_set_of_lt (Nat.lt_succ_self m), Int.toNat_natCast] at hdo
    have hdm := Nat.div_add_mod (rest * 4294967296 + x) d
    have hmod := Nat.mod_lt (rest * 4294967296 + x) hd
    have hs2 : val B32 ((O.set m (((rest * 4294967296 + x) / d : Nat) : Int)).drop m) * d + (rest * 4294967296 + x) % d = val B32 (a.drop m) := by
     rw [hdo, hda, ← h5]
     exact dw_num hdm
    have hbig : rest * 4294967296 + x < 18446744073709551616 := by omega
    have v5 : Ve (IntKind.u64.wrap (((rest * 4294967296 + x : Nat) : Int).tdiv (d : Int))) (((rest * 4294967296 + x) / d : Nat) : Int) := ⟨((Nn.div ⟨rfl⟩ ⟨rfl⟩).u (by omega)).out⟩
    have v6 : Ve (((rest * 4294967296 + x : Nat) : Int).tmod (d : Int)) (((rest * 4294967296 + x) % d : Nat) : Int) := ⟨(Nn.mod ⟨rfl⟩ ⟨rfl⟩).out⟩
    refine SW_seq ?_
    refine xr [] [(17, .bool (decide ((m : Int) ≥ 0)))] ?_
    refine xst z ?_
    refine SW_skip ?_
    refine SW_seq ?_
    refine SW_block ?_
    refine xg ?_
    refine xn 1 [] [(20, .int .u64 (rest : Int))] ?_
    refine xve 21 IntKind.u64 (shl IntKind.u64 (rest : Int) 32) ((((rest * 4294967296) : Nat) : Int)) v3 ?_
    refine xn 4 [] [(23, .int .i64 (m : Int)), (22, .slice (some ad) (List.length a) c)] ?_
    refine xfi 24 26 (ad) (List.length a) (c) (m) IntKind.i64 ((m : Int)) ⟨rfl⟩ (by omega) ?_
    refine xfle 25 zi0 (m) ((x : Int)) v1 (by omega) ?_
    refine xve 26 IntKind.u64 (bits BinOp.or IntKind.u64 (((rest * 4294967296) : Nat) : Int) (x : Int)) ((((rest * 4294967296 + x) : Nat) : Int)) v4 ?_
    refine xz [] [(9, .int .u64 (((rest * 4294967296 + x) : Nat) : Int))] ?_
    refine xg ?_
    refine xn 4 [] [(30, .int .u64 (d : Int)), (29, .int .u64 (((rest * 4294967296 + x) : Nat) : Int)), (28, .int .i64 (m : Int)), (27, .slice (some ⟨g0, 0, none⟩) (List.length a) (List.length a))] ?_
    refine xqo 31 ((rest * 4294967296 + x)) ((d)) (by omega) (by omega) ?_
    refine xoi 32 26 (g0) (List.length a) (List.length a) (m) IntKind.i64 ((m : Int)) ⟨rfl⟩ (by omega) ?_
    refine xos 0 (g0) (m) IntKind.u64 (O) ([]) 26 (((((rest * 4294967296 + x) / d) : Nat) : Int)) (by first | omega | (simp <;> omega)) ?_
    refine xz [] [] ?_
    refine SW_region ?_
    refine xn 2 [] [(34, .int .u64 (d : Int)), (33, .int .u64 (((rest * 4294967296 + x) : Nat) : Int))] ?_
    refine xqr 35 ((rest * 4294967296 + x)) ((d)) (by omega) (by omega) ?_
    refine xz [] [(7, .int .u64 ((((rest * 4294967296 + x) % d) : Nat) : Int))] ?_
    refine SW_region ?_
    refine xn 1 [] [(18, .int .i64 (m : Int))] ?_
    refine xve 19 IntKind.i64 (IntKind.wrap IntKind.i64 ((m : Int) - 1)) ((m : Int) - 1) v2 ?_
    refine xz [] [(8, .int .i64 ((m : Int) - 1))] ?_
    refine ⟨m, by omega, _, _, by omega, by rw [List.length_set]; exact h2, h3.set _ (cast_dig hq), hmod, hs2, ?_⟩
    exact xw (zsS zi0 zs0)
 ·rintro s' ⟨O, h2, h3, h5, hw⟩
  refine SW_weak hw ?_
  clear hw
  have er : trimL O = r := norm_inj B32_pos h3.trim dr (norm_trim _) nr (by rw [val_trim, vr]; exact (quot_of (R := val B32 a % d) (by omega) (Nat.mod_lt _ hd)).1)
  have ct := ct_spec_l1Trim O (some ⟨g0, 0, none⟩) O.length (by omega)
  rw [er] at ct
  rw [← h2]
  generalize val B32 a % d = w
  refine xg ?_
  refine xn 1 [] [(36, .slice (some ⟨g0, 0, none⟩) (List.length O) (List.length O))] ?_
  refine NW_fz 0 O.length g0 .u64 O [] 26 (by omega) (by omega) ?_
  refine xcr 37 ct (zsS zi0 zs0) (fun A0 k0 => ?_)
  refine xz [] [(5, .int .u64 (w : Int)), (4, .slice A0 (List.length r) k0)] ?_
  refine SW_ret ?_
  refine xe (A0, k0) (.tuple #[.slice A0 (List.length r) k0, .int .u64 (w : Int)]) [] ?_ (zsS zi0 zs0)
  rfl
theorem ct_spec_l1Small (x : Nat) (A : Option Addr) (c d : Nat) (hx : Sm x) (hd : 0 < d) (hdB : d < 4294967296) : CtRV Tryd.prog 121 [.slice A (ofN B32 x).length c, .int .u64 (d : Int)] [Row .u64 A c (ofN B32 x)] .u64 (ofN B32 (x / d)) (.int .u64 ((x % d : Nat) : Int)) := by
 obtain ⟨d1, n1, v1⟩ := ofN_spec B32_2 x
 obtain ⟨d2, n2, v2⟩ := ofN_spec B32_2 (x / d)
 have hl := hx.len
 have := ct_spec_l1Small_rows _ A c d d1 (by omega) hd hdB _ d2 n2 (by rw [v2, v1])
 rw [v1] at this
 exact this
theorem chunk {m q d j : Nat} (h : 1000000000 * q + d = m) (hd : d < 1000000000) (hj : j < 9) : m / 10 ^ j % 10 = d / 10 ^ j % 10 ∧ (m / 10 ^ j = 0 ↔ q = 0 ∧ d / 10 ^ j = 0) := by
 have : j = 0 ∨ j = 1 ∨ j = 2 ∨ j = 3 ∨ j = 4 ∨ j = 5 ∨ j = 6 ∨ j = 7 ∨ j = 8 := by omega
 rcases this with rfl | rfl | rfl | rfl | rfl | rfl | rfl | rfl | rfl <;> simp only [Nat.reducePow] <;> omega
theorem ct_spec_l1Text (x : Nat) (hx : Sm x) (hlen : (rdig x).length ≤ 24320) (A : Option Addr) (c : Nat) : CtR Tryd.prog 83 [.slice A (ofN B32 x).length c] [Row .u64 A c (ofN B32 x)] .u8 (digT0 x) := by
 refine ct_of Tryd.func83 rfl (by kernel_rfl) (fun B w0 => ?_)
 by_cases h0 : x = 0
 ·subst h0
  rw [ofN_nil B32_2, digT0_zero]
  refine xr [] [(2, .slice none 0 0)] ?_
  refine SW_seq ?_
  refine xr [] [(11, .bool true)] ?_
  refine xs1 ?_
  refine xg ?_
  refine xbl 12 [.int .u8 48] 5 1 (fun g0 => ?_)
  refine xmk 0 13 g0 1 1 [.int .u8 48] 5 ?_
  refine NW_fzM 0 1 g0 .u8 [48] 5 (1, 2) (by decide) (by decide) ?_
  refine xz [] [(2, .slice (some ⟨g0, 0, none⟩) 1 1)] ?_
  refine SW_ret ?_
  refine xe (some ⟨g0, 0, none⟩, 1) (.slice (some ⟨g0, 0, none⟩) 1 1) [] ?_ (zsS zi0 zs0)
  rfl
 ·have hz : ((ofN B32 x).length == 0) = false := by
   rw [beq_eq_false_iff_ne]
   exact fun h => h0 ((ofN_zero B32_2 x).1 h)
  have z : (((ofN B32 x).length : Int) == 0) = false := by
   rw [beq_eq_false_iff_ne]
   intro h
   exact h0 ((ofN_zero B32_2 x).1 (by omega))
  rw [digT0_pos h0]
  refine xr [] [(2, .slice none 0 0)] ?_
  refine SW_seq ?_
  refine xr [] [(11, .bool ((((List.length (ofN B32 x)) : Nat) : Int) == 0))] ?_
  refine xsf z ?_
  refine SW_skip ?_
  refine xr [] [(3, .slice none 0 0)] ?_
  refine SW_cut (fun s' => ∃ (sl : Value) (bs : List Box), Own 5 .u8 sl bs (rdig x) ∧ Weak s' ⟨[(3, sl)], bs, []⟩) ?_ (fun s' hs => ?_)
  ·refine SW_block ?_
   refine SW_loopn (fun m s' => ∃ (A : Option Addr) (c : Nat) (sl : Value) (bs : List Box) (O : List Int), O ++ rdig m = rdig x ∧ m ≤ x ∧ Own 5 .u8 sl bs O ∧ Weak s' ⟨[(0, .slice A (ofN B32 m).length c), (3, sl)], bs, [Row .u64 A c (ofN B32 m)]⟩) x ⟨A, c, _, _, [], rfl, Nat.le_refl _, Own.nil 5 .u8, ?_⟩ (fun m s' hI => ?_)
   ·exact xw (zsS zi0 zs0)
   ·obtain ⟨A, c, sl, bs, O, k1, k2, hO, hw⟩ := hI
    refine SW_weak hw ?_
    clear hw
    by_cases hm : m = 0
    ·subst hm
     rw [ofN_nil B32_2]
     rw [rdig_zero, List.append_nil] at k1
     subst k1
     refine SW_seq ?_
     refine xr [] [(16, .bool false)] ?_
     refine xs0 ?_
     refine SW_exit ?_
     refine ⟨sl, bs, hO, ?_⟩
     exact xw zs0
    ·have z3 : decide (((ofN B32 m).length : Int) > 0) = true := decide_eq_true (by
      have := mt (ofN_zero B32_2 m).1 hm
      omega)
     have cs := ct_spec_l1Small m A c 1000000000 (hx.mono k2) (by decide) (by decide)
     have hlt : m / 1000000000 < m := Nat.div_lt_self (by omega) (by decide)
     have hdm := Nat.div_add_mod m 1000000000
     have hr : m % 1000000000 < 1000000000 := Nat.mod_lt _ (by decide)
     obtain ⟨q, hq⟩ : ∃ q, m / 1000000000 = q := ⟨_, rfl⟩
     obtain ⟨d, hd⟩ : ∃ d, m % 1000000000 = d := ⟨_, rfl⟩
     have cs' : CtRV Tryd.prog 121 [.slice A (ofN B32 m).length c, .int .u64 1000000000] [Row .u64 A c (ofN B32 m)] .u64 (ofN B32 q) (.int .u64 (d : Int)) := by rw [← hq, ← hd]; exact cs
     rw [hq] at hlt hdm
     rw [hd] at hdm hr
     clear cs hq hd z hz
     refine SW_seq ?_
     refine xr [] [(16, .bool (decide ((((List.length (ofN B32 m)) : Nat) : Int) > 0)))] ?_
     refine xst z3 ?_
     refine SW_skip ?_
     refine SW_block ?_
     refine xg ?_
     refine xn 1 [] [(18, .slice A (List.length (ofN B32 m)) c)] ?_
     refine xct 19 cs' (zsS zi0 zs0) (fun A3 k3 => ?_)
     refine xz [] [(5, .int .u64 (d : Int)), (4, .slice A3 (List.length (ofN B32 q)) k3)] ?_
     refine SW_seq ?_
     refine xr [] [(6, .int .i64 0)] ?_
     refine SW_then (fun s' => ∃ (sl : Value) (bs : List Box) (O : List Int) (A1 : Option Addr) (c1 : Nat), O ++ rdig q = rdig x ∧ Own 5 .u8 sl bs O ∧ Weak s' ⟨[(3, sl), (4, .slice A1 (ofN B32 q).length c1)], bs, [Row .u64 A1 c1 (ofN B32 q)]⟩) ?_ ?_
     ·refine SW_block ?_
      refine SW_loopn (fun m1 s' => ∃ (j r : Nat) (sl : Value) (bs : List Box) (O : List Int) (A1 : Option Addr) (c1 : Nat), j + m1 = 9 ∧ r = d / 10 ^ j ∧ O ++ rdig (m / 10 ^ j) = rdig x ∧ Own 5 .u8 sl bs O ∧ Weak s' ⟨[(6, .int .i64 (j : Int)), (5, .int .u64 (r : Int)), (3, sl), (4, .slice A1 (ofN B32 q).length c1)], bs, [Row .u64 A1 c1 (ofN B32 q)]⟩) 9 ⟨0, d, sl, bs, O, A3, k3, rfl, by simp, by simpa using k1, hO, ?_⟩ (fun m1 s' hI => ?_)
      ·exact xw (zsS zi0 zs0)
      ·obtain ⟨j, r, sl, bs, O, A1, c1, g1, g2, g3, hO, hw⟩ := hI
       refine SW_weak hw ?_
       clear hw k1
       by_cases hj : j = 9
       ·have z : decide ((j : Int) < 9) = false := decide_eq_false (by omega)
        subst hj
        have e9 : m / 10 ^ 9 = q := by simp only [Nat.reducePow]; omega
        rw [e9] at g3
        refine SW_seq ?_
        refine xr [] [(32, .bool false)] ?_
        refine xs0 ?_
        refine SW_exit ?_
        refine ⟨sl, bs, O, A1, c1, g3, hO, ?_⟩
        exact xw (zsS zi0 zs0)
       ·have z : decide ((j : Int) < 9) = true := decide_eq_true (by omega)
        obtain ⟨y1, y2⟩ := chunk hdm hr (show j < 9 by omega)
        rw [← g2] at y1 y2
        have hrd : r ≤ d := by rw [g2]; exact Nat.div_le_self _ _
        by_cases hq : q = 0 ∧ r = 0
        ·obtain ⟨rfl, rfl⟩ := hq
         rw [y2.2 ⟨rfl, rfl⟩] at g3
         rw [ofN_nil B32_2]
         refine SW_seq ?_
         refine xg ?_
         refine xn 3 [] [(24, .bool (decide ((j : Int) < 9)))] ?_
         refine xkt 24 z ?_
         refine xz [] [(32, .bool false)] ?_
         refine xs0 ?_
         refine SW_exit ?_
         refine ⟨sl, bs, O, A1, c1, g3, hO, ?_⟩
         exact xw (zsS zi0 zs0)
        ·have hne : m / 10 ^ j ≠ 0 := fun h => hq (y2.1 h)
         rw [rdig_step hne, y1, Nat.div_div_eq_div_mul, ← Nat.pow_succ] at g3
         have g2' : r / 10 = d / 10 ^ (j + 1) := by rw [g2, Nat.div_div_eq_div_mul, Nat.pow_succ]
         have g3' : (O ++ [((48 + r % 10 : Nat) : Int)]) ++ rdig (m / 10 ^ (j + 1)) = rdig x := by rw [← g3, List.append_assoc]; rfl
         have hol : O.length ≤ 24320 := by
          have := congrArg List.length g3
          rw [List.length_append] at this
          omega
         have v1 : Ve (IntKind.u8.wrap (IntKind.u64.wrap (48 + ((r : Int)).tmod 10))) ((48 + r % 10 : Nat) : Int) := ⟨by
          rw [Int.tmod_eq_emod_of_nonneg (by omega)]
          simp [IntKind.wrap, IntKind.bits, IntKind.signed]
          omega⟩
         have v2 : Ve (IntKind.u64.wrap (((r : Int)).tdiv 10)) ((r / 10 : Nat) : Int) := ⟨by
          rw [Int.tdiv_eq_ediv_of_nonneg (by omega)]
          simp [IntKind.wrap, IntKind.bits, IntKind.signed]
          omega⟩
         have v3 : Ve (IntKind.i64.wrap ((j : Int) + 1)) ((j + 1 : Nat) : Int) := veI (by omega) (by omega)
         obtain ⟨y, hy⟩ : ∃ y, 48 + r % 10 = y := ⟨_, rfl⟩
         obtain ⟨r2, hr2⟩ : ∃ r2, r / 10 = r2 := ⟨_, rfl⟩
         rw [hy] at v1 g3'
         rw [hr2] at v2 g2'
         clear y1 y2 g2 g3 hy hr2
         by_cases hq0 : q = 0
         ·subst hq0
          have z5 : decide ((r : Int) > 0) = true := decide_eq_true (by omega)
          rw [ofN_nil B32_2]
          refine SW_seq ?_
          refine xg ?_
          refine xn 3 [] [(24, .bool (decide ((j : Int) < 9)))] ?_
          refine xkt 24 z ?_
          refine xz [] [(32, .bool (decide ((r : Int) > 0)))] ?_
          refine xst z5 ?_
          refine SW_skip ?_
          refine SW_seq ?_
          refine SW_block ?_
          refine xg ?_
          refine xn 4 [] [(38, .int .u64 (IntKind.wrap IntKind.u64 (48 + Int.tmod (r : Int) 10))), (35, sl)] ?_
          refine xve 39 IntKind.u8 (IntKind.wrap IntKind.u8 (IntKind.wrap IntKind.u64 (48 + Int.tmod (r : Int) 10))) ((y : Int)) v1 ?_
          refine xbl 40 [.int .u8 (y : Int)] 5 1 (fun g2 => ?_)
          refine xow 41 1 (g2) (1) [(y : Int)] hO (by first | omega | (simp <;> omega)) (fun sl0 bs0 hO0 => ?_)
          refine xz [] [(3, sl0)] ?_
          refine SW_region ?_
          refine xn 1 [] [(42, .int .u64 (r : Int))] ?_
          refine xve 43 IntKind.u64 (IntKind.wrap IntKind.u64 (Int.tdiv (r : Int) 10)) ((r2 : Int)) v2 ?_
          refine xz [] [(5, .int .u64 (r2 : Int))] ?_
          refine SW_region ?_
          refine xn 1 [] [(33, .int .i64 (j : Int))] ?_
          refine xve 34 IntKind.i64 (IntKind.wrap IntKind.i64 ((j : Int) + 1)) ((((j + 1) : Nat) : Int)) v3 ?_
          refine xz [] [(6, .int .i64 (((j + 1) : Nat) : Int))] ?_
          refine ⟨m1 - 1, by omega, j + 1, r2, _, _, _, A1, c1, by omega, g2', g3', by assumption, ?_⟩
          exact xw (zsS zi0 zs0)
         ·have z4 : decide (((ofN B32 q).length : Int) > 0) = true := decide_eq_true (by
           have := mt (ofN_zero B32_2 q).1 hq0
           omega)
          refine SW_seq ?_
          refine xg ?_
          refine xn 3 [] [(24, .bool (decide ((j : Int) < 9)))] ?_
          refine xkt 24 z ?_
          refine xn 7 [] [(28, .bool (decide ((((List.length (ofN B32 q)) : Nat) : Int) > 0)))] ?_
          refine xkt 28 z4 ?_
          refine xz [] [(32, .bool true)] ?_
          refine xs1 ?_
          refine SW_skip ?_
          refine SW_seq ?_
          refine SW_block ?_
          refine xg ?_
          refine xn 4 [] [(38, .int .u64 (IntKind.wrap IntKind.u64 (48 + Int.tmod (r : Int) 10))), (35, sl)] ?_
          refine xve 39 IntKind.u8 (IntKind.wrap IntKind.u8 (IntKind.wrap IntKind.u64 (48 + Int.tmod (r : Int) 10))) ((y : Int)) v1 ?_
          refine xbl 40 [.int .u8 (y : Int)] 5 1 (fun g2 => ?_)
          refine xow 41 1 (g2) (1) [(y : Int)] hO (by first | omega | (simp <;> omega)) (fun sl0 bs0 hO0 => ?_)
          refine xz [] [(3, sl0)] ?_
          refine SW_region ?_
          refine xn 1 [] [(42, .int .u64 (r : Int))] ?_
          refine xve 43 IntKind.u64 (IntKind.wrap IntKind.u64 (Int.tdiv (r : Int) 10)) ((r2 : Int)) v2 ?_
          refine xz [] [(5, .int .u64 (r2 : Int))] ?_
          refine SW_region ?_
          refine xn 1 [] [(33, .int .i64 (j : Int))] ?_
          refine xve 34 IntKind.i64 (IntKind.wrap IntKind.i64 ((j : Int) + 1)) ((((j + 1) : Nat) : Int)) v3 ?_
          refine xz [] [(6, .int .i64 (((j + 1) : Nat) : Int))] ?_
          refine ⟨m1 - 1, by omega, j + 1, r2, _, _, _, A1, c1, by omega, g2', g3', by assumption, ?_⟩
          exact xw (zsS zi0 zs0)
     ·rintro s' ⟨sl, bs, O, A1, c1, e1, hO, hw⟩
      refine SW_weak hw ?_
      clear hw
      refine xrl [] [(0, .slice A1 (List.length (ofN B32 q)) c1)] ?_
      refine ⟨q, hlt, A1, c1, sl, bs, O, e1, by omega, hO, ?_⟩
      exact xw (zsS zi0 zs0)
  ·obtain ⟨sl, bs, hO, hw⟩ := hs
   refine SW_weak hw ?_
   clear hw hz z
   obtain ⟨L, hL⟩ : ∃ L, rdig x = L := ⟨_, rfl⟩
   rw [hL] at hO hlen ⊢
   refine SW_own hO (by omega) (fun A2 c2 e => ?_)
   subst e
   clear hO
   have v0 : Ve (IntKind.i64.wrap ((L.length : Int) - 1)) ((L.length : Int) - 1) := ⟨wrap_i64 (by omega)⟩
   refine xr [] [(7, .slice none 0 0)] ?_
   refine SW_seq ?_
   refine xg ?_
   refine xn 2 [] [(46, .int .i64 (((List.length L) : Nat) : Int))] ?_
   refine xve 47 IntKind.i64 (IntKind.wrap IntKind.i64 ((((List.length L) : Nat) : Int) - 1)) ((((List.length L) : Nat) : Int) - 1) v0 ?_
   refine xz [] [(8, .int .i64 ((((List.length L) : Nat) : Int) - 1))] ?_
   refine SW_then (fun s' => ∃ (sl : Value) (bs : List Box), Own 5 .u8 sl bs L.reverse ∧ Weak s' ⟨[(7, sl)], bs, []⟩) ?_ ?_
   ·refine SW_block ?_
    refine SW_loopn (fun m s' => ∃ (sl : Value) (bs : List Box) (O : List Int), m ≤ L.length ∧ O = (L.drop m).reverse ∧ Own 5 .u8 sl bs O ∧ Weak s' ⟨[(3, .slice A2 L.length c2), (7, sl), (8, .int .i64 ((m : Int) - 1))], bs, [Row .u8 A2 c2 L]⟩) L.length ⟨_, _, [], Nat.le_refl _, by simp, Own.nil 5 .u8, ?_⟩ (fun m s' hI => ?_)
    ·exact xw (zsS zi0 zs0)
    ·obtain ⟨sl, bs, O, k1, k2, hO, hw⟩ := hI
     refine SW_weak hw ?_
     clear hw
     match m, k1, k2 with
     | 0, k1, k2 =>
      have z : decide (((0 : Nat) : Int) - 1 ≥ 0) = false := rfl
      rw [List.drop_zero] at k2
      subst k2
      refine SW_seq ?_
      refine xr [] [(49, .bool false)] ?_
      refine xs0 ?_
      refine SW_exit ?_
      refine ⟨sl, bs, hO, ?_⟩
      exact xw zs0
     | m + 1, k1, k2 =>
      have e0 : ((m + 1 : Nat) : Int) - 1 = (m : Int) := by omega
      rw [e0]
      have z : decide ((m : Int) ≥ 0) = true := decide_eq_true (by omega)
      refine SW_know zi0 (fun w h => row_at h (by omega)) (fun ⟨ad, e⟩ => ?_)
      subst e
      have v2 : Ve (IntKind.i64.wrap ((m : Int) - 1)) ((m : Int) - 1) := ⟨wrap_i64 (by omega)⟩
      have hO2 : O.length ≤ 24320 := by rw [k2, List.length_reverse, List.length_drop]; omega
      have e3 : O ++ [rd L (m : Int)] = (L.drop m).reverse := by
       have e1 := rd_some (xs := L) (i := m) (by omega)
       rw [List.getElem?_eq_getElem (by omega)] at e1
       rw [List.drop_eq_getElem_cons (show m < L.length by omega), List.reverse_cons, ← k2, Option.some.inj e1]
      clear k2
      refine SW_seq ?_
      refine xr [] [(49, .bool (decide ((m : Int) ≥ 0)))] ?_
      refine xst z ?_
      refine SW_skip ?_
      refine SW_seq ?_
      refine SW_block ?_
      refine SW_region ?_
      refine xn 3 [] [(54, .int .i64 (m : Int)), (53, .slice (some ad) (List.length L) c2), (52, sl)] ?_
      refine xfi 55 5 (ad) (List.length L) (c2) (m) IntKind.i64 ((m : Int)) ⟨rfl⟩ (by omega) ?_
      refine xfl 56 zi0 (m) (by omega) ?_
      refine xbl 57 [.int .u8 (rd L (m : Int))] 5 1 (fun g0 => ?_)
      refine xow 58 1 (g0) (1) [rd L (m : Int)] hO (by first | omega | (simp <;> omega)) (fun sl0 bs0 hO3 => ?_)
      refine xz [] [(7, sl0)] ?_
      refine SW_region ?_
      refine xn 1 [] [(50, .int .i64 (m : Int))] ?_
      refine xve 51 IntKind.i64 (IntKind.wrap IntKind.i64 ((m : Int) - 1)) ((m : Int) - 1) v2 ?_
      refine xz [] [(8, .int .i64 ((m : Int) - 1))] ?_
      refine ⟨m, by omega, _, _, _, by omega, e3, by assumption, ?_⟩
      exact xw (zsS zi0 zs0)
   ·rintro s' ⟨sl, bs, hO, hw⟩
    refine SW_weak hw ?_
    clear hw
    refine SW_own hO (by simp; omega) (fun A2 c2 e => ?_)
    subst e
    refine xr [] [(2, .slice A2 (List.length (List.reverse L)) c2)] ?_
    refine SW_ret ?_
    refine xe (A2, c2) (.slice A2 (List.length (List.reverse L)) c2) [] ?_ (zsS zi0 zs0)
    rfl
end Go.Proofs.YtgknelgplmohoaaDoor.M
end
section
namespace Go.Proofs.YtgknelgplmohoaaDoor.X
open Go.RowKit Go.Proofs.YtgknelgplmohoaaDoorV.PrintWords Go.Proofs.YtgknelgplmohoaaDoorV.PrintLast
set_option linter.unusedVariables false
set_option linter.unusedSimpArgs false
section
variable {X : Cx} {env : List (Nat × Value)} {bs : List Box} {fs : List Fact} {K : Exit → St → Prop} {ops : Array Oper} {s0 : St} {ds : List Nat} {lv : Bool} {l : List Bool}
theorem RW_fz (h c g : Nat) (k : IntKind) (xs : List Int) (r : List Value) (ty : TypeId) (hx : xs.length ≤ 9223372036854775807) (hc : xs.length ≤ c) (hk : RW X ops ds s0 lv l ⟨env, delB bs h, Row k (some ⟨g, 0, none⟩) c xs :: fs⟩ K) (hb : bs[h]? = some ⟨g, cl k xs r, ty⟩ := by kernel_rfl) : RW X ops ds s0 lv l ⟨env, bs, fs⟩ K :=
  fun a w ha hw hS => hk a w ⟨ha.size, ha.defers, ha.env⟩ (hw.fz hb hx hc env) hS
theorem dxan (i d e bytes : Nat) {o : Oper} {t : TypeId} {s x : Operand} {k : IntKind} {c2 : Nat} {A : Option Addr} {ys : List Int} (hF : In (Row k A c2 ys) fs) (hp : 0 < ys.length) (hl : ys.length * bytes ≤ 140737488355328)
    (hk : ∀ g' r' c', ys.length + r'.length = c' → RW X ops ds s0 lv (l.set i true) ⟨(d, .slice (some ⟨g', 0, none⟩) ys.length c') :: env, bs ++ [⟨g', cl k ys r', e⟩], fs⟩ K)
    (ho : ops[i]? = some o := by rfl) (hop : o.op = .call { callee := .builtin .append, args := #[s, x], argTypes := #[t, t] } := by rfl)
    (hg : guardD ops env o = some true := by kernel_rfl) (hf : fitO X.n env o = true := by kernel_rfl) (hd : o.dst = some d := by rfl)
    (hs : evD env s = .slice none 0 0 := by kernel_rfl) (hx : evD env x = .slice A ys.length c2 := by kernel_rfl) (ht : X.P.underlying t = some (.slice e) := by kernel_rfl)
    (hi : (X.P.info? e).map (fun i => (i.zero, i.size, i.bytes)) = some (some (.int k 0), 1, bytes) := by kernel_rfl) (hb0 : 0 < bytes := by decide) : RWs X ops ds s0 lv l ⟨env, bs, fs⟩ K i := by
  obtain ⟨h1, h2, h3⟩ := fitO_spec hf
  refine RWs_on (s := ⟨env, bs, fs⟩) ho hg (fun a w ha hw hS => ?_)
  -- the same seen from this world
  let X2 : Cx := ⟨X.P, X.n, X.B, ⟨w, bs.map Box.id, X.w0.df⟩, X.rd⟩
  have hM : ∀ k ∈ X.B, k < w.heap.size ∧ k ∉ bs.map Box.id := fun k hk => by
    obtain ⟨o1, o2⟩ := hw.old k hk
    refine ⟨Nat.lt_of_lt_of_le o1 hw.below.size, fun hm => ?_⟩
    obtain ⟨b, hb, rfl⟩ := List.mem_map.1 hm
    exact (hw.new b hb).elim (fun z => absurd o1 (Nat.not_lt.2 z)) o2
  have hw2 : Holds X2 ⟨env, bs, fs⟩ w := ⟨⟨rfl, rfl, rfl, Nat.le_refl _, fun _ _ _ => rfl⟩, hw.box, fun b hb => .inr (List.mem_map_of_mem hb), hw.nodup, hw.fact, hM⟩
  obtain ⟨v, w', bs', fs', hrun, hh, g', r', c', e1, rfl, rfl, e4⟩ := op_app0 (X := X2) hop hs hp (src_row ht hx hF hp) ht hi hb0 hl w hw2
  rw [e4] at hh
  have hnew : w.heap.size ≤ g' := by
    rcases hh.new ⟨g', cl k ys r', e⟩ (List.mem_append_right _ (List.mem_singleton.2 rfl)) with z | z
    · exact z
    · have hnd := hh.nodup
      rw [List.map_append, List.nodup_append] at hnd
      exact absurd rfl (hnd.2.2 g' z g' (by simp))
  have hb : Below w.heap.size w w' := by
    refine ⟨hh.below.os, hh.below.tape, hh.below.output, hh.below.size, fun j hj => ?_⟩
    by_cases hm : j ∈ bs.map Box.id
    · obtain ⟨b, hb, rfl⟩ := List.mem_map.1 hm
      exact (hh.box b (List.mem_append_left _ hb)).trans (hw.box b hb).symm
    · exact hh.below.block j hj hm
  have hwx : Holds X ⟨env, bs ++ [⟨g', cl k ys r', e⟩], fs⟩ w' := by
    refine ⟨hw.below.then hb, hh.box, fun b hm => ?_, hh.nodup, hh.fact, hw.old⟩
    rcases List.mem_append.1 hm with hm | hm
    · exact hw.new b hm
    · rw [List.mem_singleton.1 hm]
      exact .inl (Nat.le_trans hw.below.size hnew)
  have ha' : Agree X.fr ⟨env, bs ++ [⟨g', cl k ys r', e⟩], fs⟩ a := ⟨ha.size, ha.defers, ha.env⟩
  unfold Oper.wp
  rw [ha.exec h2 h3, hrun, Oper.upon_value, hd]
  exact ⟨fun _ h0 => h0.call hb, hk g' r' c' e1 _ _ (ha'.put (some d) (by rw [← hd]; exact dstOk_lt h1) _) (hwx.put (some d) _) (fun hl => (hS hl).call hb)⟩
end
end Go.Proofs.YtgknelgplmohoaaDoor.X
end
section
namespace Go.Proofs.YtgknelgplmohoaaDoor.M
open Go.RowKit Go.Proofs.YtgknelgplmohoaaDoor.G Go.Proofs.YtgknelgplmohoaaDoorV.PrintWords Go.Proofs.YtgknelgplmohoaaDoorV.PrintLast Go.Proofs.YtgknelgplmohoaaDoor.X
set_option linter.unusedVariables false
set_option linter.unusedSimpArgs false
theorem inJ_atN (cl : Bool) (lo hi den : Nat) (e : Int) (he : -(kK : Int) ≤ e) (x : Nat) : inJ cl (atN lo den e).1 (atN hi den e).1 (x * (atN lo den e).2) = inJ cl (s6 lo) (s6 hi) (x * tU den e) := by
 obtain ⟨c, hc, h12⟩ := atN_scale kK e he
 unfold s6 tU
 rw [← (h12 lo den).1, ← (h12 hi den).1, ← (h12 lo den).2, Nat.mul_left_comm x c, inJ_scale hc]
theorem atN_snd (x y den : Nat) (e : Int) : (atN x den e).2 = (atN y den e).2 := by
 unfold atN
 split <;> rfl
theorem div_atN (mid den : Nat) (e : Int) (he : -(kK : Int) ≤ e) : (atN mid den e).1 / (atN mid den e).2 = s6 mid / tU den e := by
 obtain ⟨c, hc, h12⟩ := atN_scale kK e he
 unfold s6 tU
 rw [← (h12 mid den).1, ← (h12 mid den).2, Nat.mul_div_mul_left _ _ hc]
theorem lt_atN (mid den : Nat) (e : Int) (he : -(kK : Int) ≤ e) : decide ((atN mid den e).1 < (atN mid den e).2) = decide (s6 mid < tU den e) := by
 obtain ⟨c, hc, h12⟩ := atN_scale kK e he
 unfold s6 tU
 rw [← (h12 mid den).1, ← (h12 mid den).2, decide_eq_decide]
 exact (Nat.mul_lt_mul_left hc).symm
theorem mid_choice (V t : Nat) (ht : 0 < t) : ((2 * (V / t) + 1) * t < 2 * V ∨ ((2 * (V / t) + 1) * t = 2 * V ∧ V / t % 2 = 1)) ↔ rrS V t = V / t + 1 := by
 have h1 := Nat.div_add_mod V t
 have h2 := rrS_iff2 (V := V) (t := t)
 have h3 : (2 * (V / t) + 1) * t = 2 * (t * (V / t)) + t := by rw [Nat.add_mul, Nat.one_mul, Nat.mul_assoc, Nat.mul_comm t]
 rw [h3]
 generalize t * (V / t) = a at *
 generalize V / t = q at *
 generalize V % t = r at *
 rcases h2 with ⟨e, h⟩ | ⟨e, h⟩
 ·rw [e]
  constructor
  ·intro _; rfl
  ·intro _; omega
 ·rw [e]
  constructor
  ·intro _; omega
  ·intro _; omega
theorem tdiv_rng (z : Int) (h : -17000 ≤ z ∧ z ≤ 17000) : -5200 ≤ Int.tdiv (z * 30103) 100000 ∧ Int.tdiv (z * 30103) 100000 ≤ 5200 := by
 by_cases h0 : 0 ≤ z
 ·rw [Int.tdiv_eq_ediv_of_nonneg (by omega)]
  omega
 ·obtain ⟨s, rfl⟩ : ∃ s : Int, z = -s := ⟨-z, by omega⟩
  rw [Int.neg_mul, Int.neg_tdiv, Int.tdiv_eq_ediv_of_nonneg (by omega)]
  omega
theorem mid_scale (mid den : Nat) (e : Int) (he : -(kK : Int) ≤ e) : ∀ a : Nat, cmpN (a * (atN mid den e).2) (2 * (atN mid den e).1) = cmpN (a * tU den e) (2 * s6 mid) := by
 obtain ⟨c, hc, h12⟩ := atN_scale kK e he
 intro a
 unfold s6 tU
 rw [← (h12 mid den).1, ← (h12 mid den).2, Nat.mul_left_comm a c, Nat.mul_left_comm 2 c, Nat.mul_comm c, Nat.mul_comm c, cmpN_mul hc]
theorem dropZ_all : ∀ l : List Int, dropZ l = [] → ∀ x ∈ l, x = 48
 | [], _, x, hx => by cases hx
 | a :: l, h, x, hx => by
  rw [dropZ] at h
  split at h
  ·next ha =>
   rcases List.mem_cons.1 hx with e | hx
   ·rw [e]; exact ha
   ·exact dropZ_all l h x hx
  ·cases h
theorem shD_ex {P : Nat} {emin emax : Int} {W E : Nat} {ex : Bool} {c : Int} {S : Nat} {q : Int} (h : Fmt2 P emin emax W E ex) (hx1 : 1 ≤ emax) (hv : VP P emin emax c S q) (hc : c = 2 ∨ c = 3) (cl : Bool) : ∃ eS u D, ShD P emin S q cl eS u D := by
 obtain ⟨eS, sh, he, hl⟩ := sh_of h hx1 hv hc cl
 have key : ∀ n : Nat, ∀ v : Int, v ≤ eS → eS - v = n → lhN cl (s6 (bndN P emin S q).1) (s6 (bndN P emin S q).2.1) (s6 (midN S q)) (tU (bndN P emin S q).2.2 v) = true →
   ∃ u, v ≤ u ∧ u ≤ eS ∧ lhN cl (s6 (bndN P emin S q).1) (s6 (bndN P emin S q).2.1) (s6 (midN S q)) (tU (bndN P emin S q).2.2 u) = true ∧ ∀ e, u < e → e ≤ eS → ¬ lhN cl (s6 (bndN P emin S q).1) (s6 (bndN P emin S q).2.1) (s6 (midN S q)) (tU (bndN P emin S q).2.2 e) = true := by
  intro n
  induction n using Nat.strongRecOn with
  | _ n ih =>
   intro v hv1 hv2 hv3
   by_cases hm : ∃ e, v < e ∧ e ≤ eS ∧ lhN cl (s6 (bndN P emin S q).1) (s6 (bndN P emin S q).2.1) (s6 (midN S q)) (tU (bndN P emin S q).2.2 e) = true
   ·obtain ⟨e, e1, e2, e3⟩ := hm
    obtain ⟨u, u1, u2, u3⟩ := ih (eS - e).toNat (by omega) e e2 (by omega) e3
    exact ⟨u, by omega, u2, u3⟩
   ·exact ⟨v, Int.le_refl _, hv1, hv3, fun e e1 e2 e3 => hm ⟨e, e1, e2, e3⟩⟩
 obtain ⟨u, u1, u2, u3, u4⟩ := key 38 (eS - 38) (by omega) (by omega) hl
 exact ⟨eS, u, _, sh, he, u2, u1, u3, u4, rfl⟩
theorem shD_len {P : Nat} {emin : Int} {S : Nat} {q : Int} {cl : Bool} {eS u : Int} {D : Nat} (sd : ShD P emin S q cl eS u D) : (digT0 D).length ≤ 24320 := by
 obtain ⟨s1, s2, s3, s4, s5, s6', s7⟩ := sd
 have hK := kK_eq
 have hV : tU (bndN P emin S q).2.2 u ≤ s6 (midN S q) := Nat.le_trans (s1.mono (by omega) s3) s1.lo
 have hc := (lh_cand (s1.p u) s1.lv s1.vh hV).1 s5
 obtain ⟨h1, h2, h3⟩ := ch_in (s1.p u) s1.lv s1.vh hV hc
 rw [s7] at h1 h2
 have h4 : 1 ≤ D := Nat.le_trans ((Nat.le_div_iff_mul_le (s1.p u)).2 (by omega)) h2
 have h5 := ((cand_iff (s1.p u) h4).2 h1).2
 have h6 := cHi_small (cl := cl) s1 (e := u) (by omega) (by omega)
 exact digT0_len (Nat.lt_of_le_of_lt h5 h6) (by decide)
theorem ct_spec_Shortest {P : Nat} {emin emax : Int} {W E : Nat} {ex : Bool} {f : Int} (d : FD f P emin emax W E ex) (x : Nat) (hx : x < B128) (cc : Int) (neg : Bool) (S : Nat) (q : Int) (hxu : unpN P emin emax W E ex x = (cc, neg, hiI S, loI S, q)) (hv : VP P emin emax cc S q) (hc : cc = 2 ∨ cc = 3)
  (eS u : Int) (D : Nat) (sd : ShD P emin S q (decide (S % 2 = 0)) eS u D) (ds : List Int) (ee : Int) (hds : (dropE (digT0 D)).1 = ds) (hee : u + ((dropE (digT0 D)).2 : Int) = ee) :
  Ct Tryd.prog 21 [.int .i64 f, .agg #[.int .u64 (hiI x), .int .u64 (loI x)]] [] (γ := Option Addr × Nat) (fun p => .agg #[.slice p.1 ds.length p.2, .int .i64 ee, .bool neg, .int .i64 0]) (fun p => [Row .u8 p.1 p.2 ds]) := by
 have h := d.h
 have hF := h.toFmt
 have hs := d.sf
 have cu := ct_spec_Unpack hF f d.sf x hx
 rw [hxu, prtV] at cu
 dsimp only at cu
 obtain ⟨⟨bS0, bS1⟩, bq0, bq1, bS2, bS3⟩ := vp_fin h d.x1 hv hc
 have p0 := hF.p0
 have p1 := h.p1
 have m0 := h.m0
 have m1 := h.m1
 have zP : ((P : Int) == 0) = false := by rw [beq_eq_false_iff_ne]; omega
 have b128 : 2 ^ P < B128 := Nat.pow_lt_pow_right (a := 2) (n := 128) (by decide) (by omega)
 have bS : S < B128 := by omega
 have sS : Sm S := sm128 (Nat.lt_trans bS (by decide))
 obtain ⟨w, hw⟩ : ∃ w, bndN P emin S q = w := ⟨_, rfl⟩
 have cb := ct_spec_l2Span d cc neg S q hv hc w hw
 obtain ⟨k, hk, ⟨l1, l2, l3⟩, g1, g2, g3⟩ := bnd_sm h d.x1 hv hc
 have hmid : midN S q < (bndN P emin S q).2.1 := by
  rw [(bnd_tq (P := P) (emin := emin) (S := S) (q := q)).2.1]
  exact Nat.mul_lt_mul_of_pos_right (show S * 2 ^ 2 < hi4 S by unfold hi4; omega) (Nat.pow_pos (by decide))
 obtain ⟨s1, s2, s3, s4, s5, s6', s7⟩ := sd
 rw [hw] at l1 l2 l3 g3 hmid s1 s5 s6' s7
 obtain ⟨lo, hi, den⟩ := w
 dsimp only at l1 l2 l3 g3 hmid s1 s5 s6' s7 cb
 have hc3 : ((cc != 3) && (cc != 2)) = false := by rcases hc with rfl | rfl <;> rfl
 have hc0 : (cc == 0) = false := by rcases hc with rfl | rfl <;> decide
 obtain ⟨mid, hmd⟩ : ∃ mid, midN S q = mid := ⟨_, rfl⟩
 have sM0 : Sm (S * 2 ^ 2) := Sm.of (k := 116) (by have : 2 ^ P ≤ 2 ^ 113 := Nat.pow_le_pow_right (by decide) p1; omega) (by decide)
 have hmd' : S * 2 ^ 2 * 2 ^ (q - 2).toNat = mid := hmd
 rw [hmd] at hmid s1 s5 s6' s7
 have lm : mid < 2 ^ k := by omega
 have sMid : Sm mid := Sm.of lm (by omega)
 have sDen : Sm den := Sm.of l3 (by omega)
 have v2 : Ve (Int.tmod (loI S) 2) ((S % 2 : Nat) : Int) := ⟨by unfold loI; rw [Int.tmod_eq_emod_of_nonneg (by omega)]; omega⟩
 have e2 : (((S % 2 : Nat) : Int) == 0) = decide (S % 2 = 0) := by rw [Bool.eq_iff_iff, beq_iff_eq, decide_eq_true_iff]; omega
 rw [← e2] at s1 s5 s6' s7
 obtain ⟨bm, hbm⟩ := bits_ex mid
 obtain ⟨bd, hbd⟩ := bits_ex den
 have cbm := fun A c => ct_spec_l1Bits mid A c sMid bm hbm
 have cbd := fun A c => ct_spec_l1Bits den A c sDen bd hbd
 have lbm := hbm.le lm
 have lbd := hbd.le l3
 have w3 : Ve (IntKind.i64.wrap (q - 2)) (q - 2) := ⟨wrap_i64 (by omega)⟩
 refine ct_of Tryd.func21 rfl (by kernel_rfl) (fun B w0 => ?_)
 refine xg ?_
 refine xb 3 [.int .u64 (hiI x), .int .u64 (loI x)] 28 (fun g4 => ?_)
 refine xb 4 [.slice none 0 0, .int .i64 0, .bool false, .int .i64 0] 52 (fun g5 => ?_)
 refine xz [] [] ?_
 refine SW_cut (fun s' => Weak s' ⟨[(0, .int .i64 f), (3, .pointer (some ⟨g4, 0, none⟩)), (4, .pointer (some ⟨g5, 0, none⟩))], [⟨g4, [.int .u64 (hiI x), .int .u64 (loI x)], 28⟩, ⟨g5, [.slice none 0 0, .int .i64 0, .bool false, .int .i64 0], 52⟩], []⟩) ?_ (fun s' hw => ?_)
 ·refine xg ?_
  refine xn 1 [] [(28, .int .i64 f)] ?_
  refine xcv 29 (ct_spec_Describe (f) hs) zs0 ?_
  refine xz [] [(31, .bool ((P : Int) == 0))] ?_
  refine xsf zP ?_
  refine SW_skip ?_
  exact xw zs0
 refine SW_weak hw ?_
 clear hw
 refine xg ?_
 refine xn 2 [(1, [0])] [(34, .agg #[.int .u64 (hiI x), .int .u64 (loI x)]), (33, .int .i64 f)] ?_
 refine xcv 35 cu zs0 ?_
 refine xb 5 [.int .i64 0, .bool false, .int .u64 0, .int .u64 0, .int .i64 0] 33 (fun g6 => ?_)
 refine xy [(4, [2])] [] [(2, [.int .i64 cc, .bool neg, .int .u64 (hiI S), .int .u64 (loI S), .int .i64 q])] ?_
 refine SW_cut (fun s' => Weak s' ⟨[(0, .int .i64 f), (4, .pointer (some ⟨g5, 0, none⟩)), (5, .pointer (some ⟨g6, 0, none⟩))], [⟨g4, [.int .u64 (hiI x), .int .u64 (loI x)], 28⟩, ⟨g5, [.slice none 0 0, .int .i64 0, .bool false, .int .i64 0], 52⟩, ⟨g6, [.int .i64 cc, .bool neg, .int .u64 (hiI S), .int .u64 (loI S), .int .i64 q], 33⟩], []⟩) ?_ (fun s' hw => ?_)
 ·refine xr [(1, [2])] [(38, .bool (cc == 0))] ?_
  refine xsf hc0 ?_
  refine SW_skip ?_
  exact xw zs0
 refine SW_weak hw ?_
 clear hw
 refine SW_cut (fun s' => Weak2 s' ⟨[(0, .int .i64 f), (4, .pointer (some ⟨g5, 0, none⟩)), (5, .pointer (some ⟨g6, 0, none⟩))], [⟨g5, [.slice none 0 0, .int .i64 0, .bool false, .int .i64 0], 52⟩, ⟨g6, [.int .i64 cc, .bool neg, .int .u64 (hiI S), .int .u64 (loI S), .int .i64 q], 33⟩], []⟩) ?_ (fun s' hw => ?_)
 ·rcases hc with rfl | rfl
  ·refine xr [(1, [2]), (5, [2])] [(47, .bool false)] ?_
   refine xs0 ?_
   refine SW_skip ?_
   exact xw2 [false, true, true] zs0
  ·refine xr [(1, [2])] [(47, .bool false)] ?_
   refine xs0 ?_
   refine SW_skip ?_
   exact xw2 [false, true, true] zs0
 refine SW_weak2 hw ?_
 clear hw
 refine xg ?_
 refine xn 2 [(1, [1])] [(53, .agg #[.int .i64 cc, .bool neg, .int .u64 (hiI S), .int .u64 (loI S), .int .i64 q]), (52, .int .i64 f)] ?_
 (refine xck 54 cb zs0 (fun zz => ?_); obtain ⟨⟨z2, z3⟩, ⟨⟨z4, z5⟩, ⟨z6, z7⟩⟩⟩ := zz)
 refine xz [] [(8, .slice z6 (List.length (ofN B32 den)) z7), (7, .slice z4 (List.length (ofN B32 hi)) z5), (6, .slice z2 (List.length (ofN B32 lo)) z3)] ?_
 refine xg ?_
 refine xn 2 [(1, [1])] [(59, .agg #[.int .u64 (hiI S), .int .u64 (loI S)])] ?_
 refine xcr 60 (ct_spec_l2Of (S) bS) zs0 (fun A0 k0 => ?_)
 refine xcr 61 (ct_spec_l1Left (S) (A0) (k0) (2) (2) ⟨rfl⟩ (by omega) sS) (zsS zi0 zs0) (fun A1 k1 => ?_)
 refine xz [] [(9, .slice A1 (List.length (ofN B32 (S * 2 ^ 2))) k1)] ?_
 refine SW_cut (fun s' => ∃ (A9 : Option Addr) (c9 : Nat), Weak2 s' ⟨[(4, .pointer (some ⟨g5, 0, none⟩)), (5, .pointer (some ⟨g6, 0, none⟩)), (6, .slice z2 (ofN B32 lo).length z3), (7, .slice z4 (ofN B32 hi).length z5), (8, .slice z6 (ofN B32 den).length z7), (9, .slice A9 (ofN B32 mid).length c9)], [⟨g5, [.slice none 0 0, .int .i64 0, .bool false, .int .i64 0], 52⟩, ⟨g6, [.int .i64 cc, .bool neg, .int .u64 (hiI S), .int .u64 (loI S), .int .i64 q], 33⟩], [Row .u64 A9 c9 (ofN B32 mid), Row .u64 z2 z3 (ofN B32 lo), Row .u64 z4 z5 (ofN B32 hi), Row .u64 z6 z7 (ofN B32 den)]⟩) ?_ (fun s' hs' => ?_)
 ·by_cases hq2 : q > 2
  ·have y1 : decide (q > 2) = true := decide_eq_true hq2
   have hN : Nn (q - 2) (q - 2).toNat := ⟨by omega⟩
   have hN2 : (q - 2).toNat ≤ 100000000000 := by omega
   rw [← hmd']
   refine xr [(1, [1])] [(64, .bool (decide (q > 2)))] ?_
   refine xst y1 ?_
   refine SW_region ?_
   refine xn 3 [(2, [1])] [(67, .int .i64 q), (65, .slice A1 (List.length (ofN B32 (S * 2 ^ 2))) k1)] ?_
   refine xve 68 IntKind.i64 (IntKind.wrap IntKind.i64 (q - 2)) (q - 2) w3 ?_
   refine xcr 69 (ct_spec_l1Left (S * 2 ^ 2) (A1) (k1) (q - 2) (Int.toNat (q - 2)) hN hN2 sM0) (zsS zi0 zs0) (fun A2 k2 => ?_)
   refine xz [] [(9, .slice A2 (List.length (ofN B32 (S * 2 ^ 2 * 2 ^ Int.toNat (q - 2)))) k2)] ?_
   refine ⟨(A2), (k2), xw2 [true, true] (zsS zi0 (zsS (ziS (ziS (ziS zi0))) (zsS (ziS (ziS (ziS (ziS zi0)))) (zsS (ziS (ziS (ziS (ziS (ziS zi0))))) zs0))))⟩
  ·have y1 : decide (q > 2) = false := decide_eq_false hq2
   have e9 : mid = S * 2 ^ 2 := by rw [← hmd', show (q - 2).toNat = 0 by omega, Nat.pow_zero, Nat.mul_one]
   rw [e9]
   refine xr [(1, [1])] [(64, .bool (decide (q > 2)))] ?_
   refine xsf y1 ?_
   refine SW_skip ?_
   refine ⟨(A1), (k1), xw2 [true, true] (zsS zi0 (zsS (ziS (ziS zi0)) (zsS (ziS (ziS (ziS zi0))) (zsS (ziS (ziS (ziS (ziS zi0)))) zs0))))⟩
 obtain ⟨A9, c9, hw⟩ := hs'
 refine SW_weak2 hw ?_
 clear hw hmd' hmd w3
 obtain ⟨ge, hge⟩ : ∃ ge, Int.tdiv (((bm : Int) - (bd : Int)) * 30103) 100000 = ge := ⟨_, rfl⟩
 have rge := tdiv_rng ((bm : Int) - (bd : Int)) (by omega)
 rw [hge] at rge
 have w4 : Ve (IntKind.i64.wrap ((bm : Int) - (bd : Int))) ((bm : Int) - (bd : Int)) := ⟨wrap_i64 (by omega)⟩
 have w5 : Ve (IntKind.i64.wrap (((bm : Int) - (bd : Int)) * 30103)) (((bm : Int) - (bd : Int)) * 30103) := ⟨wrap_i64 (by omega)⟩
 have w6 : Ve (IntKind.i64.wrap (Int.tdiv (((bm : Int) - (bd : Int)) * 30103) 100000)) ge := ⟨by rw [hge]; exact wrap_i64 (by omega)⟩
 have hK := kK_eq
 have tlt : ∀ e : Int, -6000 ≤ e → decide ((atN mid den e).1 < (atN mid den e).2) = decide (eS < e) := fun e he => by
  rw [lt_atN mid den e (by omega), decide_eq_decide]
  constructor
  ·intro z
   rcases Int.lt_or_le eS e with y | y
   ·exact y
   ·have y1 := s1.mono (e := e) (e' := eS) (by omega) y
    have y2 := s1.lo
    omega
  ·intro z
   have y1 := s1.mono (e := eS + 1) (e' := e) (by omega) (by omega)
   have y2 := s1.hi
   omega
 have cten := fun e A c A' c' he => ct_spec_l5Ten mid den e A A' c c' he k lm l3 hk _ rfl
 refine xg ?_
 refine xn 1 [] [(70, .slice A9 (List.length (ofN B32 mid)) c9)] ?_
 refine xcv 71 (cbm _ _) (zsS zi0 zs0) ?_
 refine xn 3 [] [(72, .slice z6 (List.length (ofN B32 den)) z7)] ?_
 refine xcv 73 (cbd _ _) (zsS (ziS (ziS (ziS zi0))) zs0) ?_
 refine xve 74 IntKind.i64 (IntKind.wrap IntKind.i64 ((bm : Int) - (bd : Int))) ((bm : Int) - (bd : Int)) w4 ?_
 refine xve 75 IntKind.i64 (IntKind.wrap IntKind.i64 (((bm : Int) - (bd : Int)) * 30103)) (((bm : Int) - (bd : Int)) * 30103) w5 ?_
 refine xve 76 IntKind.i64 (IntKind.wrap IntKind.i64 (Int.tdiv (((bm : Int) - (bd : Int)) * 30103) 100000)) (ge) w6 ?_
 refine xz [] [(10, .int .i64 ge)] ?_
 clear w4 w5 w6
 refine SW_cut (fun s' => ∃ e : Int, (-5200 ≤ e ∧ e ≤ eS) ∧ Weak2 s' ⟨[(4, .pointer (some ⟨g5, 0, none⟩)), (5, .pointer (some ⟨g6, 0, none⟩)), (6, .slice z2 (ofN B32 lo).length z3), (7, .slice z4 (ofN B32 hi).length z5), (8, .slice z6 (ofN B32 den).length z7), (9, .slice A9 (ofN B32 mid).length c9), (10, .int .i64 e)], [⟨g5, [.slice none 0 0, .int .i64 0, .bool false, .int .i64 0], 52⟩, ⟨g6, [.int .i64 cc, .bool neg, .int .u64 (hiI S), .int .u64 (loI S), .int .i64 q], 33⟩], [Row .u64 A9 c9 (ofN B32 mid), Row .u64 z2 z3 (ofN B32 lo), Row .u64 z4 z5 (ofN B32 hi), Row .u64 z6 z7 (ofN B32 den)]⟩) ?_ (fun s' hs' => ?_)
 ·refine SW_block ?_
  refine SW_loopn (fun m s' => ∃ e : Int, m = (e + 5200).toNat ∧ (-5200 ≤ e ∧ e ≤ 5200) ∧ Weak2 s' ⟨[(4, .pointer (some ⟨g5, 0, none⟩)), (5, .pointer (some ⟨g6, 0, none⟩)), (6, .slice z2 (ofN B32 lo).length z3), (7, .slice z4 (ofN B32 hi).length z5), (8, .slice z6 (ofN B32 den).length z7), (9, .slice A9 (ofN B32 mid).length c9), (10, .int .i64 e)], [⟨g5, [.slice none 0 0, .int .i64 0, .bool false, .int .i64 0], 52⟩, ⟨g6, [.int .i64 cc, .bool neg, .int .u64 (hiI S), .int .u64 (loI S), .int .i64 q], 33⟩], [Row .u64 A9 c9 (ofN B32 mid), Row .u64 z2 z3 (ofN B32 lo), Row .u64 z4 z5 (ofN B32 hi), Row .u64 z6 z7 (ofN B32 den)]⟩) (ge + 5200).toNat ⟨ge, rfl, by omega, ?_⟩ (fun m s' hI => ?_)
  ·exact xw2 [true, true] (zsS zi0 (zsS (ziS zi0) (zsS (ziS (ziS zi0)) (zsS (ziS (ziS (ziS zi0))) zs0))))
  ·obtain ⟨e, h1, h2, hw⟩ := hI
   refine SW_weak2 hw ?_
   clear hw
   have ct := fun A c A' c' => ct_spec_l5Ten mid den e A A' c c' (by omega) k lm l3 hk _ rfl
   rw [tlt e (by omega)] at ct
   by_cases hT : eS < e
   ·rw [decide_eq_true hT] at ct
    have v1 : Ve (IntKind.i64.wrap (e - 1)) (e - 1) := ⟨wrap_i64 (by omega)⟩
    refine SW_seq ?_
    refine xg ?_
    refine xn 3 [] [(79, .int .i64 e), (78, .slice z6 (List.length (ofN B32 den)) z7), (77, .slice A9 (List.length (ofN B32 mid)) c9)] ?_
    refine xcv 80 (ct _ _ _ _) (zsS zi0 (zsS (ziS (ziS (ziS zi0))) zs0)) ?_
    refine xz [] [] ?_
    refine xs1 ?_
    refine SW_skip ?_
    refine SW_block ?_
    refine SW_region ?_
    refine xn 1 [] [(81, .int .i64 e)] ?_
    refine xve 82 IntKind.i64 (IntKind.wrap IntKind.i64 (e - 1)) (e - 1) v1 ?_
    refine xz [] [(10, .int .i64 (e - 1))] ?_
    refine ⟨(e - 1 + 5200).toNat, by omega, e - 1, rfl, by omega, ?_⟩
    exact xw2 [true, true] (zsS zi0 (zsS (ziS zi0) (zsS (ziS (ziS zi0)) (zsS (ziS (ziS (ziS zi0))) zs0))))
   ·rw [decide_eq_false hT] at ct
    refine SW_seq ?_
    refine xg ?_
    refine xn 3 [] [(79, .int .i64 e), (78, .slice z6 (List.length (ofN B32 den)) z7), (77, .slice A9 (List.length (ofN B32 mid)) c9)] ?_
    refine xcv 80 (ct _ _ _ _) (zsS zi0 (zsS (ziS (ziS (ziS zi0))) zs0)) ?_
    refine xz [] [] ?_
    refine xs0 ?_
    refine SW_exit ?_
    refine ⟨e, by omega, ?_⟩
    exact xw2 [true, true] (zsS zi0 (zsS (ziS zi0) (zsS (ziS (ziS zi0)) (zsS (ziS (ziS (ziS zi0))) zs0))))
 obtain ⟨e, he, hw⟩ := hs'
 refine SW_weak2 hw ?_
 clear hw rge hge
 refine SW_cut (fun s' => Weak2 s' ⟨[(4, .pointer (some ⟨g5, 0, none⟩)), (5, .pointer (some ⟨g6, 0, none⟩)), (6, .slice z2 (ofN B32 lo).length z3), (7, .slice z4 (ofN B32 hi).length z5), (8, .slice z6 (ofN B32 den).length z7), (9, .slice A9 (ofN B32 mid).length c9), (10, .int .i64 eS)], [⟨g5, [.slice none 0 0, .int .i64 0, .bool false, .int .i64 0], 52⟩, ⟨g6, [.int .i64 cc, .bool neg, .int .u64 (hiI S), .int .u64 (loI S), .int .i64 q], 33⟩], [Row .u64 A9 c9 (ofN B32 mid), Row .u64 z2 z3 (ofN B32 lo), Row .u64 z4 z5 (ofN B32 hi), Row .u64 z6 z7 (ofN B32 den)]⟩) ?_ (fun s' hw => ?_)
 ·refine SW_block ?_
  refine SW_loopn (fun m s' => ∃ e : Int, m = (eS - e).toNat ∧ (-5200 ≤ e ∧ e ≤ eS) ∧ Weak2 s' ⟨[(4, .pointer (some ⟨g5, 0, none⟩)), (5, .pointer (some ⟨g6, 0, none⟩)), (6, .slice z2 (ofN B32 lo).length z3), (7, .slice z4 (ofN B32 hi).length z5), (8, .slice z6 (ofN B32 den).length z7), (9, .slice A9 (ofN B32 mid).length c9), (10, .int .i64 e)], [⟨g5, [.slice none 0 0, .int .i64 0, .bool false, .int .i64 0], 52⟩, ⟨g6, [.int .i64 cc, .bool neg, .int .u64 (hiI S), .int .u64 (loI S), .int .i64 q], 33⟩], [Row .u64 A9 c9 (ofN B32 mid), Row .u64 z2 z3 (ofN B32 lo), Row .u64 z4 z5 (ofN B32 hi), Row .u64 z6 z7 (ofN B32 den)]⟩) (eS - e).toNat ⟨e, rfl, he, ?_⟩ (fun m s' hI => ?_)
  ·exact xw2 [true, true] (zsS zi0 (zsS (ziS zi0) (zsS (ziS (ziS zi0)) (zsS (ziS (ziS (ziS zi0))) zs0))))
  ·obtain ⟨e, h1, h2, hw⟩ := hI
   refine SW_weak2 hw ?_
   clear hw
   have ct := fun A c A' c' => ct_spec_l5Ten mid den (e + 1) A A' c c' (by omega) k lm l3 hk _ rfl
   rw [tlt (e + 1) (by omega)] at ct
   have v1 : Ve (IntKind.i64.wrap (e + 1)) (e + 1) := ⟨wrap_i64 (by omega)⟩
   by_cases hT : eS < e + 1
   ·rw [decide_eq_true hT] at ct
    obtain rfl : e = eS := by omega
    refine SW_seq ?_
    refine xg ?_
    refine xn 3 [] [(85, .int .i64 e), (84, .slice z6 (List.length (ofN B32 den)) z7), (83, .slice A9 (List.length (ofN B32 mid)) c9)] ?_
    refine xve 86 IntKind.i64 (IntKind.wrap IntKind.i64 (e + 1)) (e + 1) v1 ?_
    refine xcv 87 (ct _ _ _ _) (zsS zi0 (zsS (ziS (ziS (ziS zi0))) zs0)) ?_
    refine xz [] [(88, .bool false)] ?_
    refine xs0 ?_
    refine SW_exit ?_
    exact xw2 [true, true] (zsS zi0 (zsS (ziS zi0) (zsS (ziS (ziS zi0)) (zsS (ziS (ziS (ziS zi0))) zs0))))
   ·rw [decide_eq_false hT] at ct
    refine SW_seq ?_
    refine xg ?_
    refine xn 3 [] [(85, .int .i64 e), (84, .slice z6 (List.length (ofN B32 den)) z7), (83, .slice A9 (List.length (ofN B32 mid)) c9)] ?_
    refine xve 86 IntKind.i64 (IntKind.wrap IntKind.i64 (e + 1)) (e + 1) v1 ?_
    refine xcv 87 (ct _ _ _ _) (zsS zi0 (zsS (ziS (ziS (ziS zi0))) zs0)) ?_
    refine xz [] [(88, .bool true)] ?_
    refine xs1 ?_
    refine SW_skip ?_
    refine SW_block ?_
    refine SW_region ?_
    refine xn 1 [] [(89, .int .i64 e)] ?_
    refine xve 90 IntKind.i64 (IntKind.wrap IntKind.i64 (e + 1)) (e + 1) v1 ?_
    refine xz [] [(10, .int .i64 (e + 1))] ?_
    refine ⟨(eS - (e + 1)).toNat, by omega, e + 1, rfl, by omega, ?_⟩
    exact xw2 [true, true] (zsS zi0 (zsS (ziS zi0) (zsS (ziS (ziS zi0)) (zsS (ziS (ziS (ziS zi0))) zs0))))
 refine SW_weak2 hw ?_
 clear hw he cten
 obtain ⟨un, hun⟩ : ∃ un, eS - 39 = un := ⟨_, rfl⟩
 have w7 : Ve (IntKind.i64.wrap (eS - 40)) (eS - 40) := ⟨wrap_i64 (by omega)⟩
 have w8 : Ve (IntKind.i64.wrap (eS - 40 + 1)) un := ⟨by rw [wrap_i64 (by omega)]; omega⟩
 obtain ⟨up, hup⟩ : ∃ up, decide (un ≥ 0) = up := ⟨_, rfl⟩
 obtain ⟨N9, hN9, hN9a, hN9b⟩ : ∃ N9 : Nat, k + 80001 ≤ N9 ∧ N9 ≤ 98000 ∧ 135 ≤ N9 := ⟨98000, by omega, by omega, by omega⟩
 have run : -20000 ≤ un ∧ un ≤ 20000 := by omega
 have bL := atN_lt (n := N9) l1 l3 run hN9
 have bH := (atN_lt (n := N9) l2 l3 run hN9).1
 have bM := (atN_lt (n := N9) lm l3 run hN9).1
 have pU := atN_pos (x := lo) (y := den) (e := un) g3
 have iJ := fun x => inJ_atN (((S % 2 : Nat) : Int) == 0) lo hi den un (by omega) x
 have dM := div_atN mid den un (by omega)
 rw [atN_snd mid lo den un] at dM
 obtain ⟨Lq, hLq⟩ : ∃ Lq, (atN lo den un).1 = Lq := ⟨_, rfl⟩
 obtain ⟨Hq, hHq⟩ : ∃ Hq, (atN hi den un).1 = Hq := ⟨_, rfl⟩
 obtain ⟨Mq, hMq⟩ : ∃ Mq, (atN mid den un).1 = Mq := ⟨_, rfl⟩
 obtain ⟨U, hU⟩ : ∃ U, (atN lo den un).2 = U := ⟨_, rfl⟩
 rw [hLq, hU] at bL
 rw [hHq] at bH
 rw [hMq] at bM
 rw [hU] at pU
 rw [hMq, hU] at dM
 rw [hLq, hHq, hU] at iJ
 have mc := mid_scale mid den un (by omega)
 rw [hMq, atN_snd mid lo den un, hU] at mc
 have sLq : Sm Lq := Sm.of bL.1 (by omega)
 have sHq : Sm Hq := Sm.of bH (by omega)
 have sMq : Sm Mq := Sm.of bM (by omega)
 have sU : Sm U := Sm.of bL.2 (by omega)
 have hUup : U = if up = true then U else den := by
  rw [← hup, ← hU]
  unfold atN
  by_cases h0 : 0 ≤ un
  ·rw [if_pos h0, if_pos (decide_eq_true h0)]
  ·rw [if_neg h0, if_neg (by rw [decide_eq_false h0]; decide)]
 refine xg ?_
 refine xn 1 [] [(91, .int .i64 eS)] ?_
 refine xve 92 IntKind.i64 (IntKind.wrap IntKind.i64 (eS - 40)) (eS - 40) w7 ?_
 refine xve 93 IntKind.i64 (IntKind.wrap IntKind.i64 (eS - 40 + 1)) (un) w8 ?_
 refine xz [] [(11, .int .i64 un)] ?_
 refine xr [] [(12, .bool (decide (un ≥ 0)))] ?_
 refine xr [] [(13, .slice z6 (List.length (ofN B32 den)) z7)] ?_
 refine SW_cut (fun s' => ∃ (A5 A6 A7 A8 : Option Addr) (c5 c6 c7 c8 : Nat), Weak2 s' ⟨[(4, .pointer (some ⟨g5, 0, none⟩)), (5, .pointer (some ⟨g6, 0, none⟩)), (6, .slice A6 (ofN B32 Lq).length c6), (7, .slice A7 (ofN B32 Hq).length c7), (8, .slice z6 (ofN B32 den).length z7), (9, .slice A8 (ofN B32 Mq).length c8), (10, .int .i64 eS), (12, .bool up), (13, .slice A5 (ofN B32 U).length c5)], [⟨g5, [.slice none 0 0, .int .i64 0, .bool false, .int .i64 0], 52⟩, ⟨g6, [.int .i64 cc, .bool neg, .int .u64 (hiI S), .int .u64 (loI S), .int .i64 q], 33⟩], [Row .u64 A6 c6 (ofN B32 Lq), Row .u64 A7 c7 (ofN B32 Hq), Row .u64 z6 z7 (ofN B32 den), Row .u64 A8 c8 (ofN B32 Mq), Row .u64 A5 c5 (ofN B32 U)]⟩) ?_ (fun s' hs' => ?_)
 ·unfold atN at hLq hHq hMq hU
  have sLo : Sm lo := Sm.of l1 (by omega)
  have sHi : Sm hi := Sm.of l2 (by omega)
  by_cases h0 : 0 ≤ un
  ·have y1 : decide (un ≥ 0) = true := decide_eq_true h0
   have hN : Nn un un.toNat := ⟨by omega⟩
   have hN2 : un.toNat ≤ 20000 := by omega
   have sT : Sm (10 ^ un.toNat) := ten_sm' hN2
   rw [if_pos h0] at hLq hHq hMq hU
   dsimp only at hLq hHq hMq hU
   rw [← hLq, ← hHq, ← hMq, ← hU, Nat.mul_comm den]
   rw [← hup]
   refine xr [] [(97, .bool (decide (un ≥ 0)))] ?_
   refine xst y1 ?_
   refine SW_region ?_
   refine xn 1 [] [(98, .int .i64 un)] ?_
   refine xcr 99 (ct_spec_l1Ten (un) (Int.toNat un) hN hN2) zs0 (fun A10 k10 => ?_)
   refine xn 3 [] [(100, .slice z6 (List.length (ofN B32 den)) z7)] ?_
   refine xcr 101 (ct_spec_l1Mul (10 ^ Int.toNat un) (den) (A10) (z6) (k10) (z7) sT sDen) (zsS zi0 (zsS (ziS (ziS (ziS (ziS zi0)))) zs0)) (fun A11 k11 => ?_)
   refine xz [] [(13, .slice A11 (List.length (ofN B32 (10 ^ Int.toNat un * den))) k11)] ?_
   refine ⟨(A11), (z2), (z4), (A9), (k11), (z3), (z5), (c9), xw2 [true, true] (zsS (ziS (ziS (ziS zi0))) (zsS (ziS (ziS (ziS (ziS zi0)))) (zsS (ziS (ziS (ziS (ziS (ziS zi0))))) (zsS (ziS (ziS zi0)) (zsS zi0 zs0)))))⟩
  ·have y1 : decide (un ≥ 0) = false := decide_eq_false h0
   have v1 : Ve (IntKind.i64.wrap (0 - un)) (((-un).toNat : Nat) : Int) := ⟨by rw [wrap_i64 (by omega)]; omega⟩
   have hN2 : (-un).toNat ≤ 20000 := by omega
   have sT : Sm (10 ^ (-un).toNat) := ten_sm' hN2
   rw [if_neg h0] at hLq hHq hMq hU
   dsimp only at hLq hHq hMq hU
   rw [← hLq, ← hHq, ← hMq, ← hU]
   rw [← hup]
   refine xr [] [(97, .bool (decide (un ≥ 0)))] ?_
   refine xsf y1 ?_
   refine xg ?_
   refine xn 1 [] [(102, .int .i64 un)] ?_
   refine xve 103 IntKind.i64 (IntKind.wrap IntKind.i64 (0 - un)) ((((Int.toNat (-un)) : Nat) : Int)) v1 ?_
   refine xcr 104 (ct_spec_l1Ten ((((Int.toNat (-un)) : Nat) : Int)) (Int.toNat (-un)) ⟨rfl⟩ hN2) zs0 (fun A10 k10 => ?_)
   refine xz [] [(14, .slice A10 (List.length (ofN B32 (10 ^ Int.toNat (-un)))) k10)] ?_
   refine xg ?_
   refine xn 2 [] [(106, .slice A10 (List.length (ofN B32 (10 ^ Int.toNat (-un)))) k10), (105, .slice z2 (List.length (ofN B32 lo)) z3)] ?_
   refine xcr 107 (ct_spec_l1Mul (lo) (10 ^ Int.toNat (-un)) (z2) (A10) (z3) (k10) sLo sT) (zsS (ziS (ziS zi0)) (zsS zi0 zs0)) (fun A11 k11 => ?_)
   refine xz [] [(6, .slice A11 (List.length (ofN B32 (lo * 10 ^ Int.toNat (-un)))) k11)] ?_
   refine xg ?_
   refine xn 2 [] [(109, .slice A10 (List.length (ofN B32 (10 ^ Int.toNat (-un)))) k10), (108, .slice z4 (List.length (ofN B32 hi)) z5)] ?_
   refine xcr 110 (ct_spec_l1Mul (hi) (10 ^ Int.toNat (-un)) (z4) (A10) (z5) (k10) sHi sT) (zsS (ziS (ziS (ziS (ziS zi0)))) (zsS (ziS zi0) zs0)) (fun A12 k12 => ?_)
   refine xz [] [(7, .slice A12 (List.length (ofN B32 (hi * 10 ^ Int.toNat (-un)))) k12)] ?_
   refine SW_region ?_
   refine xn 2 [] [(112, .slice A10 (List.length (ofN B32 (10 ^ Int.toNat (-un)))) k10), (111, .slice A9 (List.length (ofN B32 mid)) c9)] ?_
   refine xcr 113 (ct_spec_l1Mul (mid) (10 ^ Int.toNat (-un)) (A9) (A10) (c9) (k10) sMid sT) (zsS (ziS (ziS (ziS zi0))) (zsS (ziS (ziS zi0)) zs0)) (fun A13 k13 => ?_)
   refine xz [] [(9, .slice A13 (List.length (ofN B32 (mid * 10 ^ Int.toNat (-un)))) k13)] ?_
   refine ⟨(z6), (A11), (A12), (A13), (z7), (k11), (k12), (k13), xw2 [true, true] (zsS (ziS (ziS zi0)) (zsS (ziS zi0) (zsS (ziS (ziS (ziS (ziS (ziS (ziS (ziS zi0))))))) (zsS zi0 (zsS (ziS (ziS (ziS (ziS (ziS (ziS (ziS zi0))))))) zs0)))))⟩
 obtain ⟨A5, A6, A7, A8, c5, c6, c7, c8, hw⟩ := hs'
 refine SW_weak2 hw ?_
 clear hw hLq hHq hMq hU w7 w8 hup tlt
 obtain ⟨W9, hW9⟩ : ∃ W9, Mq / U = W9 := ⟨_, rfl⟩
 have sW : Sm W9 := by rw [← hW9]; exact sMq.mono (Nat.div_le_self _ _)
 have cdv := fun A A' c c' => ct_spec_l1Div Mq U A A' c c' sMq sU pU
 rw [hW9] at cdv dM
 refine xg ?_
 refine xn 2 [] [(116, .slice A5 (List.length (ofN B32 U)) c5), (115, .slice A8 (List.length (ofN B32 Mq)) c8)] ?_
 refine xcw 117 (cdv _ _ _ _) (zsS (ziS (ziS (ziS zi0))) (zsS (ziS (ziS (ziS (ziS zi0)))) zs0)) (fun A10 k10 A11 k11 => ?_)
 refine xz [] [(15, .slice A10 (List.length (ofN B32 W9)) k10)] ?_
 refine xg ?_
 refine xn 3 [(2, [1])] [(122, .int .u64 (loI S))] ?_
 refine xve 123 IntKind.u64 (Int.tmod (loI S) 2) ((((S % 2) : Nat) : Int)) v2 ?_
 refine xz [] [(17, .bool ((((S % 2) : Nat) : Int) == 0))] ?_
 refine SW_seq ?_
 refine xr [] [(18, .int .i64 1)] ?_
 refine SW_block ?_
 refine SW_loopn (fun m s' => ∃ n : Nat, n + m = 40 ∧ 1 ≤ n ∧ (∀ e, eS - n + 1 < e → e ≤ eS → ¬ lhN (((S % 2 : Nat) : Int) == 0) (s6 lo) (s6 hi) (s6 mid) (tU den e) = true) ∧
  Weak2 s' ⟨[(4, .pointer (some ⟨g5, 0, none⟩)), (5, .pointer (some ⟨g6, 0, none⟩)), (6, .slice A6 (ofN B32 Lq).length c6), (7, .slice A7 (ofN B32 Hq).length c7), (8, .slice z6 (ofN B32 den).length z7), (9, .slice A8 (ofN B32 Mq).length c8), (10, .int .i64 eS), (12, .bool up), (13, .slice A5 (ofN B32 U).length c5), (15, .slice A10 (ofN B32 W9).length k10), (17, .bool (((S % 2 : Nat) : Int) == 0)), (18, .int .i64 (n : Int))], [⟨g5, [.slice none 0 0, .int .i64 0, .bool false, .int .i64 0], 52⟩, ⟨g6, [.int .i64 cc, .bool neg, .int .u64 (hiI S), .int .u64 (loI S), .int .i64 q], 33⟩], [Row .u64 A10 k10 (ofN B32 W9), Row .u64 A6 c6 (ofN B32 Lq), Row .u64 A7 c7 (ofN B32 Hq), Row .u64 z6 z7 (ofN B32 den), Row .u64 A8 c8 (ofN B32 Mq), Row .u64 A5 c5 (ofN B32 U)]⟩) 39 ⟨1, rfl, Nat.le_refl _, fun e h1 h2 => by omega, ?_⟩ (fun m s' hI => ?_)
 ·exact xw2 [true, true] (zsS zi0 (zsS (ziS (ziS zi0)) (zsS (ziS (ziS (ziS zi0))) (zsS (ziS (ziS (ziS (ziS zi0)))) (zsS (ziS (ziS (ziS (ziS (ziS zi0))))) (zsS (ziS (ziS (ziS (ziS (ziS (ziS zi0)))))) zs0))))))
 obtain ⟨n, h1, h2, h3, hw⟩ := hI
 refine SW_weak2 hw ?_
 clear hw
 have hn40 : n < 40 := by
  rcases Nat.lt_or_ge n 40 with z | z
  ·exact z
  ·exact absurd s5 (h3 u (by omega) s3)
 have y0 : decide ((n : Int) < 40) = true := decide_eq_true (by omega)
 obtain ⟨uu, huu⟩ : ∃ uu, eS - n + 1 = uu := ⟨_, rfl⟩
 obtain ⟨t, htt⟩ : ∃ t, tU den uu = t := ⟨_, rfl⟩
 have hT : t = 10 ^ (40 - n) * tU den un := by
  rw [← htt, s1.pow' (e := un) (e' := uu) (by omega) (by omega)]
  congr 2
  omega
 have tp : 0 < t := by rw [← htt]; exact s1.p uu
 have tV : t ≤ s6 mid := by rw [← htt]; exact Nat.le_trans (s1.mono (by omega) (by omega)) s1.lo
 have v1 : Ve (IntKind.i64.wrap (40 - (n : Int))) ((40 - n : Nat) : Int) := ⟨by rw [wrap_i64 (by omega)]; omega⟩
 have hj20 : 40 - n ≤ 20000 := by omega
 have sj : Sm (10 ^ (40 - n)) := ten_sm' hj20
 have pj : 0 < 10 ^ (40 - n) := Nat.pow_pos (by decide)
 have hdd : W9 / 10 ^ (40 - n) = s6 mid / t := by rw [dM, Nat.div_div_eq_div_mul, hT, Nat.mul_comm (tU den un)]
 obtain ⟨dd, hd⟩ : ∃ dd, s6 mid / t = dd := ⟨_, rfl⟩
 have cd := fun A A' c c' => ct_spec_l1Div W9 (10 ^ (40 - n)) A A' c c' sW sj pj
 rw [hdd, hd] at cd
 have d135 : dd < 2 ^ 136 := by
  rw [← hd]
  refine (Nat.div_lt_iff_lt_mul tp).2 ?_
  have a0 := s1.pow' (e := uu) (e' := eS + 1) (by omega) (by omega)
  rw [htt] at a0
  have a1 := s1.hi
  have a2 : 10 ^ (eS + 1 - uu).toNat ≤ 10 ^ 40 := Nat.pow_le_pow_right (by decide) (by omega)
  have a3 : 10 ^ (eS + 1 - uu).toNat * t ≤ 2 ^ 136 * t := Nat.mul_le_mul_right _ (Nat.le_trans a2 (by decide))
  omega
 have ten40 : 10 ^ (40 - n) < 2 ^ 136 := Nat.lt_of_le_of_lt (Nat.pow_le_pow_right (by decide) (show 40 - n ≤ 40 by omega)) (by decide)
 obtain ⟨st, hst⟩ : ∃ st, 10 ^ (40 - n) = st := ⟨_, rfl⟩
 rw [hst] at hT sj pj cd ten40
 have cst := ct_spec_l1Ten ((40 - n : Nat) : Int) (40 - n) ⟨rfl⟩ hj20
 rw [hst] at cst
 have s1' : Sm 1 := Sm.of (k := 1) (by decide) (by decide)
 have sdd : Sm dd := Sm.of d135 (by omega)
 have sd1 : Sm (dd + 1) := Sm.of (k := 137) (by omega) (by omega)
 have sd2 : Sm (dd + (dd + 1)) := Sm.of (k := 138) (by omega) (by omega)
 obtain ⟨bl, hbl⟩ : ∃ b, inJ (((S % 2 : Nat) : Int) == 0) (s6 lo) (s6 hi) (dd * t) = b := ⟨_, rfl⟩
 obtain ⟨bh, hbh⟩ : ∃ b, inJ (((S % 2 : Nat) : Int) == 0) (s6 lo) (s6 hi) ((dd + 1) * t) = b := ⟨_, rfl⟩
 have up9 : ∀ z, z < 2 ^ N9 → z < 2 ^ (N9 + 300) := fun z hz => Nat.lt_of_lt_of_le hz (Nat.pow_le_pow_right (by decide) (by omega))
 obtain ⟨e274, he274⟩ : ∃ e274 : Nat, e274 = 274 := ⟨_, rfl⟩
 have up8 : ∀ z, z < 2 ^ e274 → z < 2 ^ (N9 + 300) := fun z hz => Nat.lt_of_lt_of_le hz (Nat.pow_le_pow_right (by decide) (by omega))
 obtain ⟨e1, he1⟩ : ∃ e1 : Nat, e1 = 136 := ⟨_, rfl⟩
 have d6 : dd < 2 ^ e1 := by rw [he1]; exact d135
 have t6 : st < 2 ^ e1 := by rw [he1]; exact ten40
 have d7 : dd + 1 < 2 ^ (e1 + 1) := Nat.lt_of_le_of_lt (Nat.succ_le_of_lt d6) (Nat.pow_lt_pow_right (by decide) (by omega))
 have bdd := mul_lt2 d6 t6
 have bd1 := mul_lt2 d7 t6
 have q1 := fun A A2 A3 A4 A5 c c2 c3 c4 c5 => ct_spec_l5Within (dd * st) U Lq Hq den U up (((S % 2 : Nat) : Int) == 0) A A2 A3 A4 A5 c c2 c3 c4 c5 hUup (N9 + 300) (up8 _ (Nat.lt_of_lt_of_le bdd (Nat.pow_le_pow_right (by decide) (by omega)))) (up9 _ bL.2) (up9 _ bL.1) (up9 _ bH) (by omega) bl (by rw [iJ, Nat.mul_assoc, ← hT]; exact hbl)
 have q2 := fun A A2 A3 A4 A5 c c2 c3 c4 c5 => ct_spec_l5Within ((dd + 1) * st) U Lq Hq den U up (((S % 2 : Nat) : Int) == 0) A A2 A3 A4 A5 c c2 c3 c4 c5 hUup (N9 + 300) (up8 _ (Nat.lt_of_lt_of_le bd1 (Nat.pow_le_pow_right (by decide) (by omega)))) (up9 _ bL.2) (up9 _ bL.1) (up9 _ bH) (by omega) bh (by rw [iJ, Nat.mul_assoc, ← hT]; exact hbh)
 refine SW_cut (fun s' => Weak s' ⟨[(4, .pointer (some ⟨g5, 0, none⟩)), (5, .pointer (some ⟨g6, 0, none⟩)), (6, .slice A6 (ofN B32 Lq).length c6), (7, .slice A7 (ofN B32 Hq).length c7), (8, .slice z6 (ofN B32 den).length z7), (9, .slice A8 (ofN B32 Mq).length c8), (10, .int .i64 eS), (12, .bool up), (13, .slice A5 (ofN B32 U).length c5), (15, .slice A10 (ofN B32 W9).length k10), (17, .bool (((S % 2 : Nat) : Int) == 0)), (18, .int .i64 (n : Int))], [⟨g5, [.slice none 0 0, .int .i64 0, .bool false, .int .i64 0], 52⟩, ⟨g6, [.int .i64 cc, .bool neg, .int .u64 (hiI S), .int .u64 (loI S), .int .i64 q], 33⟩], [Row .u64 A10 k10 (ofN B32 W9), Row .u64 A6 c6 (ofN B32 Lq), Row .u64 A7 c7 (ofN B32 Hq), Row .u64 z6 z7 (ofN B32 den), Row .u64 A8 c8 (ofN B32 Mq), Row .u64 A5 c5 (ofN B32 U)]⟩) ?_ (fun s' hw => ?_)
 ·refine xr [] [(126, .bool (decide ((n : Int) < 40)))] ?_
  refine xst y0 ?_
  refine SW_skip ?_
  exact xw (zsS zi0 (zsS (ziS zi0) (zsS (ziS (ziS zi0)) (zsS (ziS (ziS (ziS zi0))) (zsS (ziS (ziS (ziS (ziS zi0)))) (zsS (ziS (ziS (ziS (ziS (ziS zi0))))) zs0))))))
 refine SW_weak hw ?_
 clear hw
 refine SW_cut (fun s' => bl = false ∧ bh = false ∧ Weak2 s' ⟨[(4, .pointer (some ⟨g5, 0, none⟩)), (5, .pointer (some ⟨g6, 0, none⟩)), (6, .slice A6 (ofN B32 Lq).length c6), (7, .slice A7 (ofN B32 Hq).length c7), (8, .slice z6 (ofN B32 den).length z7), (9, .slice A8 (ofN B32 Mq).length c8), (10, .int .i64 eS), (12, .bool up), (13, .slice A5 (ofN B32 U).length c5), (15, .slice A10 (ofN B32 W9).length k10), (17, .bool (((S % 2 : Nat) : Int) == 0)), (18, .int .i64 (n : Int))], [⟨g5, [.slice none 0 0, .int .i64 0, .bool false, .int .i64 0], 52⟩, ⟨g6, [.int .i64 cc, .bool neg, .int .u64 (hiI S), .int .u64 (loI S), .int .i64 q], 33⟩], [Row .u64 A10 k10 (ofN B32 W9), Row .u64 A6 c6 (ofN B32 Lq), Row .u64 A7 c7 (ofN B32 Hq), Row .u64 z6 z7 (ofN B32 den), Row .u64 A8 c8 (ofN B32 Mq), Row .u64 A5 c5 (ofN B32 U)]⟩) ?_ (fun s' hs' => ?_)
 ·refine SW_block ?_
  refine xg ?_
  refine xn 1 [] [(129, .int .i64 (n : Int))] ?_
  refine xve 130 IntKind.i64 (IntKind.wrap IntKind.i64 (40 - (n : Int))) ((((40 - n) : Nat) : Int)) v1 ?_
  refine xcr 131 cst zs0 (fun A12 k12 => ?_)
  refine xz [] [(19, .slice A12 (List.length (ofN B32 st)) k12)] ?_
  refine xg ?_
  refine xn 2 [] [(134, .slice A12 (List.length (ofN B32 st)) k12), (133, .slice A10 (List.length (ofN B32 W9)) k10)] ?_
  refine xcw 135 (cd _ _ _ _) (zsS (ziS zi0) (zsS zi0 zs0)) (fun A13 k13 A14 k14 => ?_)
  refine xz [] [(20, .slice A13 (List.length (ofN B32 dd)) k13)] ?_
  refine xg ?_
  refine xn 1 [] [(138, .slice A13 (List.length (ofN B32 dd)) k13)] ?_
  refine xcr 139 (ct_spec_l1Of (1) (1) ⟨rfl⟩ (by omega)) zs0 (fun A15 k15 => ?_)
  refine xcr 140 (ct_spec_l1Add (dd) (1) (A13) (A15) (k13) (k15) sdd s1') (zsS (ziS zi0) (zsS zi0 zs0)) (fun A16 k16 => ?_)
  refine xz [] [(22, .slice A16 (List.length (ofN B32 (dd + 1))) k16)] ?_
  refine xg ?_
  refine xn 2 [] [(142, .slice A12 (List.length (ofN B32 st)) k12), (141, .slice A13 (List.length (ofN B32 dd)) k13)] ?_
  refine xcr 143 (ct_spec_l1Mul (dd) (st) (A13) (A12) (k13) (k12) sdd sj) (zsS (ziS (ziS zi0)) (zsS (ziS (ziS (ziS (ziS zi0)))) zs0)) (fun A17 k17 => ?_)
  refine xn 9 [] [(149, .bool ((((S % 2) : Nat) : Int) == 0)), (148, .slice z6 (List.length (ofN B32 den)) z7), (147, .slice A7 (List.length (ofN B32 Hq)) c7), (146, .slice A6 (List.length (ofN B32 Lq)) c6), (145, .bool up), (144, .slice A5 (List.length (ofN B32 U)) c5)] ?_
  refine xcv 150 (q1 _ _ _ _ _ _ _ _ _ _) (zsS zi0 (zsS (ziS (ziS (ziS (ziS (ziS (ziS (ziS (ziS (ziS (ziS (ziS zi0))))))))))) (zsS (ziS (ziS (ziS (ziS (ziS (ziS (ziS zi0))))))) (zsS (ziS (ziS (ziS (ziS (ziS (ziS (ziS (ziS zi0)))))))) (zsS (ziS (ziS (ziS (ziS (ziS (ziS (ziS (ziS (ziS zi0))))))))) zs0))))) ?_
  refine xz [] [(23, .bool bl)] ?_
  refine xg ?_
  refine xn 2 [] [(152, .slice A12 (List.length (ofN B32 st)) k12), (151, .slice A16 (List.length (ofN B32 (dd + 1))) k16)] ?_
  refine xcr 153 (ct_spec_l1Mul (dd + 1) (st) (A16) (A12) (k16) (k12) sd1 sj) (zsS (ziS zi0) (zsS (ziS (ziS (ziS (ziS (ziS zi0))))) zs0)) (fun A18 k18 => ?_)
  refine xn 9 [] [(159, .bool ((((S % 2) : Nat) : Int) == 0)), (158, .slice z6 (List.length (ofN B32 den)) z7), (157, .slice A7 (List.length (ofN B32 Hq)) c7), (156, .slice A6 (List.length (ofN B32 Lq)) c6), (155, .bool up), (154, .slice A5 (List.length (ofN B32 U)) c5)] ?_
  refine xcv 160 (q2 _ _ _ _ _ _ _ _ _ _) (zsS zi0 (zsS (ziS (ziS (ziS (ziS (ziS (ziS (ziS (ziS (ziS (ziS (ziS (ziS zi0)))))))))))) (zsS (ziS (ziS (ziS (ziS (ziS (ziS (ziS (ziS zi0)))))))) (zsS (ziS (ziS (ziS (ziS (ziS (ziS (ziS (ziS (ziS zi0))))))))) (zsS (ziS (ziS (ziS (ziS (ziS (ziS (ziS (ziS (ziS (ziS zi0)))))))))) zs0))))) ?_
  refine xz [] [(24, .bool bh)] ?_
  refine SW_cut (fun s' => (bl || bh) = true ∧ Weak2 s' ⟨[(4, .pointer (some ⟨g5, 0, none⟩)), (5, .pointer (some ⟨g6, 0, none⟩)), (8, .slice z6 (ofN B32 den).length z7), (9, .slice A8 (ofN B32 Mq).length c8), (10, .int .i64 eS), (12, .bool up), (13, .slice A5 (ofN B32 U).length c5), (18, .int .i64 (n : Int)), (19, .slice A12 (ofN B32 st).length k12), (20, .slice A13 (ofN B32 dd).length k13), (22, .slice A16 (ofN B32 (dd + 1)).length k16), (23, .bool bl), (24, .bool bh)], [⟨g5, [.slice none 0 0, .int .i64 0, .bool false, .int .i64 0], 52⟩, ⟨g6, [.int .i64 cc, .bool neg, .int .u64 (hiI S), .int .u64 (loI S), .int .i64 q], 33⟩], [Row .u64 A16 k16 (ofN B32 (dd + 1)), Row .u64 A13 k13 (ofN B32 dd), Row .u64 A12 k12 (ofN B32 st), Row .u64 z6 z7 (ofN B32 den), Row .u64 A8 c8 (ofN B32 Mq), Row .u64 A5 c5 (ofN B32 U)]⟩) ?_ (fun s' hs' => ?_)
  ·cases bl with
   | false =>
    cases bh with
    | false =>
     refine xr [] [(166, .bool true)] ?_
     refine xs1 ?_
     refine SW_exit ?_
     refine ⟨rfl, rfl, ?_⟩
     exact xw2 [true, true] (zsS (ziS (ziS (ziS (ziS (ziS (ziS (ziS zi0))))))) (zsS (ziS (ziS (ziS (ziS (ziS (ziS (ziS (ziS zi0)))))))) (zsS (ziS (ziS (ziS (ziS (ziS (ziS (ziS (ziS (ziS zi0))))))))) (zsS (ziS (ziS (ziS (ziS (ziS (ziS (ziS (ziS (ziS (ziS zi0)))))))))) (zsS (ziS (ziS (ziS (ziS (ziS (ziS (ziS (ziS (ziS (ziS (ziS zi0))))))))))) (zsS (ziS (ziS (ziS (ziS (ziS (ziS (ziS (ziS (ziS (ziS (ziS (ziS zi0)))))))))))) zs0))))))
    | true =>
     refine xr [] [(166, .bool false)] ?_
     refine xs0 ?_
     refine SW_skip ?_
     refine ⟨rfl, ?_⟩
     exact xw2 [true, true] (zsS (ziS (ziS zi0)) (zsS (ziS (ziS (ziS (ziS zi0)))) (zsS (ziS (ziS (ziS (ziS (ziS (ziS zi0)))))) (zsS (ziS (ziS (ziS (ziS (ziS (ziS (ziS (ziS (ziS (ziS zi0)))))))))) (zsS (ziS (ziS (ziS (ziS (ziS (ziS (ziS (ziS (ziS (ziS (ziS zi0))))))))))) (zsS (ziS (ziS (ziS (ziS (ziS (ziS (ziS (ziS (ziS (ziS (ziS (ziS zi0)))))))))))) zs0))))))
   | true =>
    refine xr [] [(166, .bool false)] ?_
    refine xs0 ?_
    refine SW_skip ?_
    refine ⟨rfl, ?_⟩
    exact xw2 [true, true] (zsS (ziS (ziS zi0)) (zsS (ziS (ziS (ziS (ziS zi0)))) (zsS (ziS (ziS (ziS (ziS (ziS (ziS zi0)))))) (zsS (ziS (ziS (ziS (ziS (ziS (ziS (ziS (ziS (ziS (ziS zi0)))))))))) (zsS (ziS (ziS (ziS (ziS (ziS (ziS (ziS (ziS (ziS (ziS (ziS zi0))))))))))) (zsS (ziS (ziS (ziS (ziS (ziS (ziS (ziS (ziS (ziS (ziS (ziS (ziS zi0)))))))))))) zs0))))))
  obtain ⟨hb, hw⟩ := hs'
  refine SW_weak2 hw ?_
  clear hw q1 q2 cdv cst cd
  have hlu : lhN (((S % 2 : Nat) : Int) == 0) (s6 lo) (s6 hi) (s6 mid) (tU den uu) = true := by
   rw [htt]
   unfold lhN
   rw [hd, hbl, hbh]
   exact hb
  have hue : uu = u := by
   rcases Int.lt_trichotomy uu u with z | z | z
   ·exact absurd s5 (h3 u (by omega) s3)
   ·exact z
   ·exact absurd hlu (s6' uu z (by omega))
  have tc : tU den u = t := by rw [← hue]; exact htt
  rw [tc] at s7
  unfold chS at s7
  rw [hd, hbl, hbh] at s7
  have hrs := rrS_le (s6 mid) t
  rw [hd] at hrs
  have mch := mid_choice (s6 mid) t tp
  rw [hd] at mch
  refine SW_cut (fun s' => ∃ b2 : Bool, D = (if b2 = true then dd + 1 else dd) ∧ Weak2 s' ⟨[(4, .pointer (some ⟨g5, 0, none⟩)), (5, .pointer (some ⟨g6, 0, none⟩)), (10, .int .i64 eS), (18, .int .i64 (n : Int)), (20, .slice A13 (ofN B32 dd).length k13), (22, .slice A16 (ofN B32 (dd + 1)).length k16), (24, .bool b2)], [⟨g5, [.slice none 0 0, .int .i64 0, .bool false, .int .i64 0], 52⟩, ⟨g6, [.int .i64 cc, .bool neg, .int .u64 (hiI S), .int .u64 (loI S), .int .i64 q], 33⟩], [Row .u64 A16 k16 (ofN B32 (dd + 1)), Row .u64 A13 k13 (ofN B32 dd)]⟩) ?_ (fun s' hs' => ?_)
  ·cases bl with
   | false =>
    have hbh1 : bh = true := by simpa using hb
    rw [if_neg (by decide)] at s7
    rw [hbh1]
    refine xr [] [(170, .bool false)] ?_
    refine xs0 ?_
    refine SW_skip ?_
    refine ⟨true, s7.symm, ?_⟩
    exact xw2 [true, true] (zsS zi0 (zsS (ziS zi0) zs0))
   | true =>
    rw [if_pos rfl] at s7
    cases bh with
    | false =>
     rw [if_neg (by decide)] at s7
     refine xr [] [(170, .bool false)] ?_
     refine xs0 ?_
     refine SW_skip ?_
     refine ⟨false, s7.symm, ?_⟩
     exact xw2 [true, true] (zsS zi0 (zsS (ziS zi0) zs0))
    | true =>
     rw [if_pos rfl] at s7
     have b3 := mul_lt2 (x := dd + (dd + 1)) (a := e1 + 2) (by have h8 : 2 ^ (e1 + 2) = 2 ^ e1 * 4 := Nat.pow_add 2 e1 2; have h9 : 1 ≤ 2 ^ e1 := Nat.pow_pos (by decide); omega) t6
     have cs := fun A A2 A3 A4 c c2 c3 c4 => ct_spec_l5Scaled ((dd + (dd + 1)) * st) U (Mq * 2 ^ 1) den U up A A2 A3 A4 c c2 c3 c4 hUup (N9 + 300) (up8 _ (Nat.lt_of_lt_of_le b3 (Nat.pow_le_pow_right (by decide) (by omega)))) (up9 _ bL.2) (Nat.lt_of_lt_of_le (mul_lt2 (y := 2 ^ 1) (b := 2) bM (by decide)) (Nat.pow_le_pow_right (by decide) (by omega))) (by omega)
     have sM2 : Sm (Mq * 2 ^ 1) := Sm.of (mul_lt2 (y := 2 ^ 1) (b := 2) bM (by decide)) (by omega)
     have e9 : cmpN ((dd + (dd + 1)) * st * U) (Mq * 2 ^ 1) = cmpN ((2 * dd + 1) * t) (2 * s6 mid) := by
      rw [show Mq * 2 ^ 1 = 2 * Mq by omega, mc, hT, show dd + (dd + 1) = 2 * dd + 1 by omega, Nat.mul_assoc]
     rw [e9] at cs
     obtain ⟨Y1, hY1⟩ : ∃ Y1, (2 * dd + 1) * t = Y1 := ⟨_, rfl⟩
     obtain ⟨Y2, hY2⟩ : ∃ Y2, 2 * s6 mid = Y2 := ⟨_, rfl⟩
     obtain ⟨R, hR⟩ : ∃ R, rrS (s6 mid) t = R := ⟨_, rfl⟩
     rw [hY1, hY2] at mch cs
     rw [hR] at mch hrs s7
     have cq1 := cmp_neg Y1 Y2
     have cq2 := cmp_zero Y1 Y2
     rcases Nat.lt_trichotomy Y1 Y2 with hg | hg | hg
     ·have y1 : decide (cmpN Y1 Y2 < 0) = true := by rw [cq1]; exact decide_eq_true hg
      have e := mch.1 (.inl hg)
      clear mc e9 hY1 hY2
      refine xr [] [(170, .bool true)] ?_
      refine xs1 ?_
      refine xg ?_
      refine xn 2 [] [(172, .slice A16 (List.length (ofN B32 (dd + 1))) k16), (171, .slice A13 (List.length (ofN B32 dd)) k13)] ?_
      refine xcr 173 (ct_spec_l1Add (dd) (dd + 1) (A13) (A16) (k13) (k16) sdd sd1) (zsS (ziS zi0) (zsS zi0 zs0)) (fun A19 k19 => ?_)
      refine xn 4 [] [(174, .slice A12 (List.length (ofN B32 st)) k12)] ?_
      refine xcr 175 (ct_spec_l1Mul (dd + (dd + 1)) (st) (A19) (A12) (k19) (k12) sd2 sj) (zsS zi0 (zsS (ziS (ziS (ziS zi0))) zs0)) (fun A20 k20 => ?_)
      refine xn 8 [] [(178, .slice A8 (List.length (ofN B32 Mq)) c8), (177, .bool up), (176, .slice A5 (List.length (ofN B32 U)) c5)] ?_
      refine xcr 179 (ct_spec_l1Left (Mq) (A8) (c8) (1) (1) ⟨rfl⟩ (by omega) sMq) (zsS (ziS (ziS (ziS (ziS (ziS (ziS zi0)))))) zs0) (fun A21 k21 => ?_)
      refine xn 10 [] [(180, .slice z6 (List.length (ofN B32 den)) z7)] ?_
      refine xcv 181 (cs _ _ _ _ _ _ _ _) (zsS (ziS zi0) (zsS (ziS (ziS (ziS (ziS (ziS (ziS (ziS (ziS zi0)))))))) (zsS zi0 (zsS (ziS (ziS (ziS (ziS (ziS (ziS zi0)))))) zs0)))) ?_
      refine xz [] [(25, .int .i64 (cmpN Y1 Y2))] ?_
      refine SW_region ?_
      refine xn 3 [] [(184, .bool (decide (cmpN Y1 Y2 < 0)))] ?_
      refine xkt 184 y1 ?_
      refine xz [] [(24, .bool true)] ?_
      refine ⟨true, s7.symm.trans e, ?_⟩
      exact xw2 [true, true] (zsS (ziS (ziS (ziS zi0))) (zsS (ziS (ziS (ziS (ziS zi0)))) zs0))
     ·have y1 : decide (cmpN Y1 Y2 < 0) = false := by rw [cq1]; exact decide_eq_false (by omega)
      have y2 : (cmpN Y1 Y2 == 0) = true := by rw [cq2]; exact decide_eq_true hg
      have o5 : Ve (rd (ofN B32 dd) ((0 : Nat) : Int)) ((dd % B32 : Nat) : Int) := ⟨by rw [rd_limb32, Nat.pow_zero, Nat.div_one]⟩
      have o6 : Ve (Int.tmod ((dd % B32 : Nat) : Int) 2) ((dd % B32 % 2 : Nat) : Int) := ⟨by rw [Int.tmod_eq_emod_of_nonneg (by omega)]; omega⟩
      have o7 : dd % B32 % 2 = dd % 2 := Nat.mod_mod_of_dvd _ (by decide)
      have n0 : Nn (0 : Int) 0 := ⟨rfl⟩
      have cat := fun A c => ct_spec_l1At (ofN B32 dd) A c 0 0 n0 _ o5 (Nat.le_trans sdd.len (by decide))
      clear mc e9 hY1 hY2
      by_cases ho : dd % 2 = 1
      ·have y3 : (((dd % B32 % 2 : Nat) : Int) == 1) = true := by rw [o7, ho]; rfl
       have e := mch.1 (.inr ⟨hg, ho⟩)
       refine xr [] [(170, .bool true)] ?_
       refine xs1 ?_
       refine xg ?_
       refine xn 2 [] [(172, .slice A16 (List.length (ofN B32 (dd + 1))) k16), (171, .slice A13 (List.length (ofN B32 dd)) k13)] ?_
       refine xcr 173 (ct_spec_l1Add (dd) (dd + 1) (A13) (A16) (k13) (k16) sdd sd1) (zsS (ziS zi0) (zsS zi0 zs0)) (fun A19 k19 => ?_)
       refine xn 4 [] [(174, .slice A12 (List.length (ofN B32 st)) k12)] ?_
       refine xcr 175 (ct_spec_l1Mul (dd + (dd + 1)) (st) (A19) (A12) (k19) (k12) sd2 sj) (zsS zi0 (zsS (ziS (ziS (ziS zi0))) zs0)) (fun A20 k20 => ?_)
       refine xn 8 [] [(178, .slice A8 (List.length (ofN B32 Mq)) c8), (177, .bool up), (176, .slice A5 (List.length (ofN B32 U)) c5)] ?_
       refine xcr 179 (ct_spec_l1Left (Mq) (A8) (c8) (1) (1) ⟨rfl⟩ (by omega) sMq) (zsS (ziS (ziS (ziS (ziS (ziS (ziS zi0)))))) zs0) (fun A21 k21 => ?_)
       refine xn 10 [] [(180, .slice z6 (List.length (ofN B32 den)) z7)] ?_
       refine xcv 181 (cs _ _ _ _ _ _ _ _) (zsS (ziS zi0) (zsS (ziS (ziS (ziS (ziS (ziS (ziS (ziS (ziS zi0)))))))) (zsS zi0 (zsS (ziS (ziS (ziS (ziS (ziS (ziS zi0)))))) zs0)))) ?_
       refine xz [] [(25, .int .i64 (cmpN Y1 Y2))] ?_
       refine SW_region ?_
       refine xn 3 [] [(184, .bool (decide (cmpN Y1 Y2 < 0)))] ?_
       refine xkf 184 y1 ?_
       refine xn 6 [] [(187, .bool (cmpN Y1 Y2 == 0))] ?_
       refine xkt 187 y2 ?_
       refine xn 7 [] [(188, .slice A13 (List.length (ofN B32 dd)) k13)] ?_
       refine xcv 189 (cat _ _) (zsS (ziS (ziS (ziS (ziS zi0)))) zs0) ?_
       refine xve 190 IntKind.u64 (Int.tmod (((dd % B32) : Nat) : Int) 2) ((((dd % B32 % 2) : Nat) : Int)) o6 ?_
       refine xz [] [(24, .bool ((((dd % B32 % 2) : Nat) : Int) == 1))] ?_
       refine ⟨(((dd % B32 % 2 : Nat) : Int) == 1), by rw [y3, if_pos rfl]; exact s7.symm.trans e, ?_⟩
       exact xw2 [true, true] (zsS (ziS (ziS (ziS zi0))) (zsS (ziS (ziS (ziS (ziS zi0)))) zs0))
      ·have y3 : (((dd % B32 % 2 : Nat) : Int) == 1) = false := by rw [o7, show dd % 2 = 0 by omega]; rfl
       have e : R = dd := by
        have z : ¬ R = dd + 1 := fun z => by have := mch.2 z; omega
        omega
       refine xr [] [(170, .bool true)] ?_
       refine xs1 ?_
       refine xg ?_
       refine xn 2 [] [(172, .slice A16 (List.length (ofN B32 (dd + 1))) k16), (171, .slice A13 (List.length (ofN B32 dd)) k13)] ?_
       refine xcr 173 (ct_spec_l1Add (dd) (dd + 1) (A13) (A16) (k13) (k16) sdd sd1) (zsS (ziS zi0) (zsS zi0 zs0)) (fun A19 k19 => ?_)
       refine xn 4 [] [(174, .slice A12 (List.length (ofN B32 st)) k12)] ?_
       refine xcr 175 (ct_spec_l1Mul (dd + (dd + 1)) (st) (A19) (A12) (k19) (k12) sd2 sj) (zsS zi0 (zsS (ziS (ziS (ziS zi0))) zs0)) (fun A20 k20 => ?_)
       refine xn 8 [] [(178, .slice A8 (List.length (ofN B32 Mq)) c8), (177, .bool up), (176, .slice A5 (List.length (ofN B32 U)) c5)] ?_
       refine xcr 179 (ct_spec_l1Left (Mq) (A8) (c8) (1) (1) ⟨rfl⟩ (by omega) sMq) (zsS (ziS (ziS (ziS (ziS (ziS (ziS zi0)))))) zs0) (fun A21 k21 => ?_)
       refine xn 10 [] [(180, .slice z6 (List.length (ofN B32 den)) z7)] ?_
       refine xcv 181 (cs _ _ _ _ _ _ _ _) (zsS (ziS zi0) (zsS (ziS (ziS (ziS (ziS (ziS (ziS (ziS (ziS zi0)))))))) (zsS zi0 (zsS (ziS (ziS (ziS (ziS (ziS (ziS zi0)))))) zs0)))) ?_
       refine xz [] [(25, .int .i64 (cmpN Y1 Y2))] ?_
       refine SW_region ?_
       refine xn 3 [] [(184, .bool (decide (cmpN Y1 Y2 < 0)))] ?_
       refine xkf 184 y1 ?_
       refine xn 6 [] [(187, .bool (cmpN Y1 Y2 == 0))] ?_
       refine xkt 187 y2 ?_
       refine xn 7 [] [(188, .slice A13 (List.length (ofN B32 dd)) k13)] ?_
       refine xcv 189 (cat _ _) (zsS (ziS (ziS (ziS (ziS zi0)))) zs0) ?_
       refine xve 190 IntKind.u64 (Int.tmod (((dd % B32) : Nat) : Int) 2) ((((dd % B32 % 2) : Nat) : Int)) o6 ?_
       refine xz [] [(24, .bool ((((dd % B32 % 2) : Nat) : Int) == 1))] ?_
       refine ⟨(((dd % B32 % 2 : Nat) : Int) == 1), by rw [y3, if_neg (by decide)]; exact s7.symm.trans e, ?_⟩
       exact xw2 [true, true] (zsS (ziS (ziS (ziS zi0))) (zsS (ziS (ziS (ziS (ziS zi0)))) zs0))
     ·have y1 : decide (cmpN Y1 Y2 < 0) = false := by rw [cq1]; exact decide_eq_false (by omega)
      have y2 : (cmpN Y1 Y2 == 0) = false := by rw [cq2]; exact decide_eq_false (by omega)
      have e : R = dd := by
       have z : ¬ R = dd + 1 := fun z => by have := mch.2 z; omega
       omega
      clear mc e9 hY1 hY2
      refine xr [] [(170, .bool true)] ?_
      refine xs1 ?_
      refine xg ?_
      refine xn 2 [] [(172, .slice A16 (List.length (ofN B32 (dd + 1))) k16), (171, .slice A13 (List.length (ofN B32 dd)) k13)] ?_
      refine xcr 173 (ct_spec_l1Add (dd) (dd + 1) (A13) (A16) (k13) (k16) sdd sd1) (zsS (ziS zi0) (zsS zi0 zs0)) (fun A19 k19 => ?_)
      refine xn 4 [] [(174, .slice A12 (List.length (ofN B32 st)) k12)] ?_
      refine xcr 175 (ct_spec_l1Mul (dd + (dd + 1)) (st) (A19) (A12) (k19) (k12) sd2 sj) (zsS zi0 (zsS (ziS (ziS (ziS zi0))) zs0)) (fun A20 k20 => ?_)
      refine xn 8 [] [(178, .slice A8 (List.length (ofN B32 Mq)) c8), (177, .bool up), (176, .slice A5 (List.length (ofN B32 U)) c5)] ?_
      refine xcr 179 (ct_spec_l1Left (Mq) (A8) (c8) (1) (1) ⟨rfl⟩ (by omega) sMq) (zsS (ziS (ziS (ziS (ziS (ziS (ziS zi0)))))) zs0) (fun A21 k21 => ?_)
      refine xn 10 [] [(180, .slice z6 (List.length (ofN B32 den)) z7)] ?_
      refine xcv 181 (cs _ _ _ _ _ _ _ _) (zsS (ziS zi0) (zsS (ziS (ziS (ziS (ziS (ziS (ziS (ziS (ziS zi0)))))))) (zsS zi0 (zsS (ziS (ziS (ziS (ziS (ziS (ziS zi0)))))) zs0)))) ?_
      refine xz [] [(25, .int .i64 (cmpN Y1 Y2))] ?_
      refine SW_region ?_
      refine xn 3 [] [(184, .bool (decide (cmpN Y1 Y2 < 0)))] ?_
      refine xkf 184 y1 ?_
      refine xn 6 [] [(187, .bool (cmpN Y1 Y2 == 0))] ?_
      refine xkf 187 y2 ?_
      refine xz [] [(24, .bool false)] ?_
      refine ⟨false, s7.symm.trans e, ?_⟩
      exact xw2 [true, true] (zsS (ziS (ziS (ziS zi0))) (zsS (ziS (ziS (ziS (ziS zi0)))) zs0))
  obtain ⟨b2, hD2, hw⟩ := hs'
  refine SW_weak2 hw ?_
  clear hw
  refine SW_cut (fun s' => ∃ (A : Option Addr) (c : Nat), Weak2 s' ⟨[(4, .pointer (some ⟨g5, 0, none⟩)), (5, .pointer (some ⟨g6, 0, none⟩)), (10, .int .i64 eS), (18, .int .i64 (n : Int)), (20, .slice A (ofN B32 D).length c)], [⟨g5, [.slice none 0 0, .int .i64 0, .bool false, .int .i64 0], 52⟩, ⟨g6, [.int .i64 cc, .bool neg, .int .u64 (hiI S), .int .u64 (loI S), .int .i64 q], 33⟩], [Row .u64 A c (ofN B32 D)]⟩) ?_ (fun s' hs' => ?_)
  ·cases b2 with
   | false =>
    rw [if_neg (by decide)] at hD2
    rw [hD2]
    refine xr [] [(194, .bool false)] ?_
    refine xs0 ?_
    refine SW_skip ?_
    refine ⟨(A13), (k13), xw2 [true, true] (zsS (ziS zi0) zs0)⟩
   | true =>
    rw [if_pos rfl] at hD2
    rw [hD2]
    refine xr [] [(194, .bool true)] ?_
    refine xs1 ?_
    refine xrl [] [(20, .slice A16 (List.length (ofN B32 (dd + 1))) k16)] ?_
    refine ⟨(A16), (k16), xw2 [true, true] (zsS zi0 zs0)⟩
  obtain ⟨A, c, hw⟩ := hs'
  refine SW_weak2 hw ?_
  clear hw
  have D0 : D ≠ 0 := by
   have : 1 ≤ dd := by rw [← hd]; exact (Nat.le_div_iff_mul_le tp).2 (by omega)
   rw [hD2]
   split <;> omega
  have D137 : D < 2 ^ 137 := by
   rw [hD2]
   split <;> omega
  have sD : Sm D := Sm.of D137 (by decide)
  have hlD : (rdig D).length ≤ 24320 := rdig_len D137 (by decide)
  have hlX := digT0_len D137 (by decide)
  obtain ⟨x0, tl, hx0, h0⟩ := digT0_head D0
  have v2 : Ve (IntKind.i64.wrap (eS - (n : Int))) (eS - n) := ⟨wrap_i64 (by omega)⟩
  have v3 : Ve (IntKind.i64.wrap (eS - (n : Int) + 1)) uu := ⟨by rw [wrap_i64 (by omega)]; exact huu⟩
  obtain ⟨xs, hxs⟩ : ∃ xs, digT0 D = xs := ⟨_, rfl⟩
  rw [hxs] at hx0 hlX hds hee
  rw [← hue] at hee
  have cT := fun A c => ct_spec_l1Text D sD hlD A c
  rw [hxs] at cT
  clear mch hrs s7 hD2 hbl hbh iJ
  refine xg ?_
  refine xn 1 [] [(196, .slice A (List.length (ofN B32 D)) c)] ?_
  refine xcr 197 (cT _ _) (zsS zi0 zs0) (fun A19 k19 => ?_)
  refine xz [] [(26, .slice A19 (List.length xs) k19)] ?_
  refine xg ?_
  refine xn 2 [] [(199, .int .i64 (n : Int)), (198, .int .i64 eS)] ?_
  refine xve 200 IntKind.i64 (IntKind.wrap IntKind.i64 (eS - (n : Int))) (eS - (n : Int)) v2 ?_
  refine xve 201 IntKind.i64 (IntKind.wrap IntKind.i64 (eS - (n : Int) + 1)) (uu) v3 ?_
  refine xz [] [(27, .int .i64 uu)] ?_
  clear v2 v3
  refine SW_cut (fun s' => ∃ (A : Option Addr) (c : Nat), Weak2 s' ⟨[(4, .pointer (some ⟨g5, 0, none⟩)), (5, .pointer (some ⟨g6, 0, none⟩)), (26, .slice A ds.length c), (27, .int .i64 ee)], [⟨g5, [.slice none 0 0, .int .i64 0, .bool false, .int .i64 0], 52⟩, ⟨g6, [.int .i64 cc, .bool neg, .int .u64 (hiI S), .int .u64 (loI S), .int .i64 q], 33⟩], [Row .u8 A c ds]⟩) ?_ (fun s' hs' => ?_)
  ·refine SW_block ?_
   refine SW_know zi0 (fun w h => row_at h (show 0 < xs.length by rw [hx0]; simp)) (fun ⟨ad, ead⟩ => ?_)
   subst ead
   have hxp : 1 ≤ xs.length := by rw [hx0]; simp
   refine SW_know zi0 (fun w h => h.2) (fun hxk => ?_)
   refine SW_loopn (fun kk s' => ∃ tt : Nat, (dropE xs).1 = (dropE (xs.take kk)).1 ∧ (dropE xs).2 = tt + (dropE (xs.take kk)).2 ∧ kk + tt = xs.length ∧ 1 ≤ kk ∧ Weak2 s' ⟨[(4, .pointer (some ⟨g5, 0, none⟩)), (5, .pointer (some ⟨g6, 0, none⟩)), (26, .slice (some ad) kk k19), (27, .int .i64 (uu + tt))], [⟨g5, [.slice none 0 0, .int .i64 0, .bool false, .int .i64 0], 52⟩, ⟨g6, [.int .i64 cc, .bool neg, .int .u64 (hiI S), .int .u64 (loI S), .int .i64 q], 33⟩], [Row .u8 (some ad) k19 xs]⟩) xs.length ⟨0, by rw [List.take_length], by rw [List.take_length]; omega, by omega, hxp, ?_⟩ (fun kk s' hI => ?_)
   ·rw [show uu + ((0 : Nat) : Int) = uu by omega]
    exact xw2 [true, true] (zsS zi0 zs0)
   ·obtain ⟨tt, t1, t2, t3, t4, hw⟩ := hI
    refine SW_weak2 hw ?_
    clear hw
    obtain ⟨kp, rfl⟩ : ∃ kp, kk = kp + 1 := ⟨kk - 1, by omega⟩
    have hkx : kp < xs.length := by omega
    have v1 : Ve (IntKind.i64.wrap (((kp + 1 : Nat) : Int) - 1)) (kp : Int) := ⟨by rw [wrap_i64 (by omega)]; omega⟩
    have hsp : xs.take (kp + 1) = xs.take kp ++ [rd xs (kp : Int)] := by
     rw [List.take_succ_eq_append_getElem hkx, rd_nat, List.getD_eq_getElem?_getD, List.getElem?_eq_getElem hkx]
     rfl
    obtain ⟨y, hy⟩ : ∃ y, rd xs (kp : Int) = y := ⟨_, rfl⟩
    rw [hsp, hy] at t1 t2
    have fin : y ≠ 48 → ∃ (A : Option Addr) (c : Nat), True := fun _ => ⟨none, 0, trivial⟩
    have stop : y ≠ 48 → ds = xs.take (kp + 1) ∧ ee = uu + tt := fun hne => by
     rw [dropE_stop hne] at t1 t2
     refine ⟨by rw [hsp, hy, ← hds, t1], ?_⟩
     rw [← hee, t2]
     omega
    have hle : (xs.take (kp + 1)).length = kp + 1 := by rw [List.length_take]; omega
    by_cases hk0 : kp = 0
    ·subst hk0
     have hne : y ≠ 48 := by
      rw [← hy, hx0]
      exact h0
     have z1 : decide (((0 + 1 : Nat) : Int) > 1) = false := rfl
     obtain ⟨w1, w2⟩ := stop hne
     refine SW_fact (G := Row .u8 (some ad) k19 ds) zi0 (fun w h => by rw [w1]; exact row_take 1 k19 (by have := h.2; omega) h) ?_
     refine SW_fact (G := Row .u8 (some ad) k19 xs) (ziS zi0) (fun w h => h) ?_
     have w3 : ds.length = 0 + 1 := by rw [w1, hle]
     rw [w3, w2]
     clear w1 w2 stop t1 t2
     refine SW_seq ?_
     refine xr [] [(213, .bool false)] ?_
     refine xs0 ?_
     refine SW_exit ?_
     refine ⟨(some ad), (k19), xw2 [true, true] (zsS (ziS zi0) zs0)⟩
    ·have z1 : decide (((kp + 1 : Nat) : Int) > 1) = true := decide_eq_true (by omega)
     have ve : Ve (rd xs (kp : Int)) y := ⟨hy⟩
     by_cases hyz : y = 48
     ·have z2 : (y == 48) = true := by simp [hyz]
      have v5 : Ve (IntKind.i64.wrap (uu + (tt : Int) + 1)) (uu + ((tt + 1 : Nat) : Int)) := ⟨by rw [wrap_i64 (by omega)]; omega⟩
      rw [hyz, dropE_zero] at t1 t2
      dsimp only at t1 t2
      clear stop
      refine SW_seq ?_
      refine xg ?_
      refine xn 4 [] [(205, .bool (decide ((((kp + 1) : Nat) : Int) > 1)))] ?_
      refine xkt 205 z1 ?_
      refine xn 7 [] [(208, .int .i64 (((kp + 1) : Nat) : Int)), (206, .slice (some ad) (kp + 1) k19)] ?_
      refine xve 209 IntKind.i64 (IntKind.wrap IntKind.i64 ((((kp + 1) : Nat) : Int) - 1)) ((kp : Int)) v1 ?_
      refine xfi 210 5 (ad) (kp + 1) (k19) (kp) IntKind.i64 ((kp : Int)) ⟨rfl⟩ (by omega) ?_
      refine xfle 211 zi0 (kp) (y) ve (by omega) ?_
      refine xz [] [(213, .bool (y == 48))] ?_
      refine xst z2 ?_
      refine SW_skip ?_
      refine SW_block ?_
      refine xg ?_
      refine xn 3 [] [(216, .int .i64 (((kp + 1) : Nat) : Int)), (214, .slice (some ad) (kp + 1) k19)] ?_
      refine xve 217 IntKind.i64 (IntKind.wrap IntKind.i64 ((((kp + 1) : Nat) : Int) - 1)) ((kp : Int)) v1 ?_
      refine xsh 218 5 (some ad) (kp + 1) (k19) (kp) IntKind.i64 ((kp : Int)) ⟨rfl⟩ (by omega) ?_
      refine xz [] [(26, .slice (some ad) kp k19)] ?_
      refine SW_region ?_
      refine xn 1 [] [(219, .int .i64 (uu + (tt : Int)))] ?_
      refine xve 220 IntKind.i64 (IntKind.wrap IntKind.i64 (uu + (tt : Int) + 1)) (uu + (((tt + 1) : Nat) : Int)) v5 ?_
      refine xz [] [(27, .int .i64 (uu + (((tt + 1) : Nat) : Int)))] ?_
      refine ⟨kp, by omega, tt + 1, t1, by omega, by omega, by omega, ?_⟩
      exact xw2 [true, true] (zsS zi0 zs0)
     ·have z2 : (y == 48) = false := by simp [hyz]
      obtain ⟨w1, w2⟩ := stop hyz
      refine SW_fact (G := Row .u8 (some ad) k19 ds) zi0 (fun w h => by rw [w1]; exact row_take (kp + 1) k19 (by have := h.2; omega) h) ?_
      refine SW_fact (G := Row .u8 (some ad) k19 xs) (ziS zi0) (fun w h => h) ?_
      have w3 : ds.length = kp + 1 := by rw [w1, hle]
      rw [w3, w2]
      clear w1 w2 stop t1 t2
      refine SW_seq ?_
      refine xg ?_
      refine xn 4 [] [(205, .bool (decide ((((kp + 1) : Nat) : Int) > 1)))] ?_
      refine xkt 205 z1 ?_
      refine xn 7 [] [(208, .int .i64 (((kp + 1) : Nat) : Int)), (206, .slice (some ad) (kp + 1) k19)] ?_
      refine xve 209 IntKind.i64 (IntKind.wrap IntKind.i64 ((((kp + 1) : Nat) : Int) - 1)) ((kp : Int)) v1 ?_
      refine xfi 210 5 (ad) (kp + 1) (k19) (kp) IntKind.i64 ((kp : Int)) ⟨rfl⟩ (by omega) ?_
      refine xfle 211 zi0 (kp) (y) ve (by omega) ?_
      refine xz [] [(213, .bool (y == 48))] ?_
      refine xsf z2 ?_
      refine SW_exit ?_
      refine ⟨(some ad), (k19), xw2 [true, true] (zsS (ziS zi0) zs0)⟩
  obtain ⟨A', c', hw⟩ := hs'
  refine SW_weak2 hw ?_
  clear hw
  have dsp : 0 < ds.length := by
   rcases Nat.eq_zero_or_pos ds.length with z | z
   ·have z2 := List.eq_nil_of_length_eq_zero z
    rw [z2] at hds
    have z3 : dropZ xs.reverse ≠ [] := fun z4 => h0 (dropZ_all _ z4 x0 (by rw [hx0]; simp))
    exact absurd (by unfold dropE at hds; simpa using hds) z3
   ·exact z
  have dsl : ds.length * 1 ≤ 140737488355328 := by
   rw [← hds]
   unfold dropE
   dsimp only
   have := dropZ_len xs.reverse
   rw [List.length_reverse] at this ⊢
   omega
  refine xd (fun hB => ?_)
  refine xdk [(0, []), (2, []), (3, []), (4, [1])] [(225, .bool neg), (223, .int .i64 ee), (221, .slice A' (List.length ds) c')] hB ?_
  refine dx1 1 (dxan 1 222 5 1 zi0 dsp dsl (fun g9 r9 c9 e9 => ?_))
  refine RW_fz 2 c9 g9 .u8 ds r9 5 (by omega) (by omega) ?_
  refine xdk [(5, [])] [(226, .agg #[.slice (some ⟨g9, 0, none⟩) (List.length ds) c9, .int .i64 ee, .bool neg, .int .i64 0])] hB ?_
  refine xds 6 [0] [(0, [.slice (some ⟨g9, 0, none⟩) (List.length ds) c9, .int .i64 ee, .bool neg, .int .i64 0])] ?_
  refine xdz ?_
  refine SW_ret ?_
  refine xe (some ⟨g9, 0, none⟩, c9) (.agg #[.slice (some ⟨g9, 0, none⟩) (List.length ds) c9, .int .i64 ee, .bool neg, .int .i64 0]) [0] ?_ (zsS zi0 zs0)
  rfl
 ·obtain ⟨f1, f2, hw⟩ := hs'
  refine SW_weak2 hw ?_
  clear hw
  have v1 : Ve (IntKind.i64.wrap ((n : Int) + 1)) ((n + 1 : Nat) : Int) := ⟨by rw [wrap_i64 (by omega)]; omega⟩
  refine SW_region ?_
  refine xn 1 [] [(127, .int .i64 (n : Int))] ?_
  refine xve 128 IntKind.i64 (IntKind.wrap IntKind.i64 ((n : Int) + 1)) ((((n + 1) : Nat) : Int)) v1 ?_
  refine xz [] [(18, .int .i64 (((n + 1) : Nat) : Int))] ?_
  refine ⟨m - 1, by omega, n + 1, by omega, by omega, fun e h4 h5 => ?_, ?_⟩
  ·by_cases he : e = uu
   ·rw [he, htt]
    unfold lhN
    rw [hd, hbl, hbh, f1, f2]
    decide
   ·exact h3 e (by omega) h5
  ·exact xw2 [true, true] (zsS zi0 (zsS (ziS zi0) (zsS (ziS (ziS zi0)) (zsS (ziS (ziS (ziS zi0))) (zsS (ziS (ziS (ziS (ziS zi0)))) (zsS (ziS (ziS (ziS (ziS (ziS zi0))))) zs0))))))
end Go.Proofs.YtgknelgplmohoaaDoor.M
end
section
namespace Go.Proofs.YtgknelgplmohoaaDoor.M
open Go.RowKit Go.Proofs.YtgknelgplmohoaaDoor.G Go.Proofs.YtgknelgplmohoaaDoorV.PrintWords Go.Proofs.YtgknelgplmohoaaDoorV.PrintLast Go.Proofs.YtgknelgplmohoaaDoor.X
set_option linter.unusedVariables false
set_option linter.unusedSimpArgs false
structure Fr (a : List Int) (x : Nat) : Prop where
 d : Dig B64 a
 l : a.length ≤ 1200
 v : val B64 a = x
theorem Fr.bits {a : List Int} {x : Nat} (h : Fr a x) : ∃ m, IsBits x m ∧ m ≤ 76800 := by
 have := fits_bits h.d h.l
 rw [h.v] at this
 exact this
theorem Fr.sm {a : List Int} {x : Nat} (h : Fr a x) : Sm x := by
 obtain ⟨m, h1, h2⟩ := h.bits
 exact Sm.of h1.1 (by omega)
theorem Fr.of {x m : Nat} (hm : x < 2 ^ m) (h : m ≤ 76800) : Fr (ofN B64 x) x := by
 obtain ⟨d, n, v⟩ := ofN_spec B64_2 x
 exact ⟨d, len1200 hm h, v⟩
end Go.Proofs.YtgknelgplmohoaaDoor.M
end
section
namespace Go.Proofs.YtgknelgplmohoaaDoor.M
open Go.RowKit Go.Proofs.YtgknelgplmohoaaDoor.G Go.Proofs.YtgknelgplmohoaaDoorV.PrintWords Go.Proofs.YtgknelgplmohoaaDoorV.PrintLast Go.Proofs.YtgknelgplmohoaaDoor.X
set_option linter.unusedVariables false
set_option linter.unusedSimpArgs false
def mkL (K : IntKind) (k n : Nat) : List Int := (List.range n).map fun i => K.wrap ((k + i : Nat) : Int)
theorem mkL_len (K : IntKind) (k n : Nat) : (mkL K k n).length = n := by simp [mkL]
theorem mkL_succ (K : IntKind) (k n : Nat) : mkL K k (n + 1) = mkL K k n ++ [K.wrap ((k + n : Nat) : Int)] := by simp [mkL, List.range_succ]
theorem mkL_set (K : IntKind) (k i : Nat) (xs : List Int) (h : i < xs.length) : (mkL K k i ++ xs.drop i).set i (K.wrap ((k + i : Nat) : Int)) = mkL K k (i + 1) ++ xs.drop (i + 1) := by
 rw [mkL_succ, List.set_append_right _ _ (by rw [mkL_len]; exact Nat.le_refl _), mkL_len, Nat.sub_self, List.drop_eq_getElem_cons h, List.append_assoc]
 rfl
theorem mkL_rd (K : IntKind) (k n i : Nat) (h : i < n) : rd (mkL K k n) (i : Int) = K.wrap ((k + i : Nat) : Int) := by
 simp [rd, mkL, h]
end Go.Proofs.YtgknelgplmohoaaDoor.M
end
section
namespace Go.Proofs.YtgknelgplmohoaaDoor.M
open Go.RowKit Go.Proofs.YtgknelgplmohoaaDoor.G Go.Proofs.YtgknelgplmohoaaDoorV.PrintWords Go.Proofs.YtgknelgplmohoaaDoorV.PrintLast Go.Proofs.YtgknelgplmohoaaDoor.X
set_option linter.unusedVariables false
set_option linter.unusedSimpArgs false
theorem ct_laws_markByteS (g k n c : Nat) (xs : List Int) (r : List Value) (hn : xs.length = n) (hk : n + k ≤ 2000000000) : CtM Tryd.prog 87 [.slice (some ⟨g, 0, none⟩) n c, .int .i64 (k : Int)] [⟨g, cl .u8 xs r, 5⟩] [] (γ := Unit) (fun _ => .int .i64 ((k + n : Nat) : Int)) (fun _ => [⟨g, cl .u8 (mkL .u8 k n) r, 5⟩]) (fun _ => []) := by
 subst hn
 refine cm_of Tryd.func87 rfl (by kernel_rfl) (fun B w0 => ?_)
 refine xr [] [(4, .int .i64 0)] ?_
 refine SW_seq ?_
 refine xr [] [(5, .int .i64 0)] ?_
 refine SW_block ?_
 refine SW_loopn (fun m s => ∃ i : Nat, m + i = xs.length ∧ Weak s ⟨[(0, .slice (some ⟨g, 0, none⟩) xs.length c), (1, .int .i64 ((k + i : Nat) : Int)), (5, .int .i64 (i : Int))], [⟨g, cl .u8 (mkL .u8 k i ++ xs.drop i) r, 5⟩], []⟩) xs.length ⟨0, rfl, ?_⟩ (fun m s hI => ?_)
 ·exact xw zs0
 ·obtain ⟨i, h1, hw⟩ := hI
  refine SW_weak hw ?_
  clear hw
  by_cases hi : i < xs.length
  ·have z : decide ((i : Int) < (xs.length : Int)) = true := decide_eq_true (by omega)
   obtain ⟨m, rfl⟩ : ∃ m', m = m' + 1 := ⟨m - 1, by omega⟩
   have vi : Ve (IntKind.i64.wrap ((i : Int) + 1)) ((i + 1 : Nat) : Int) := ⟨by rw [wrap_i64 (by omega)]; omega⟩
   have vk : Ve (IntKind.i64.wrap (((k + i : Nat) : Int) + 1)) ((k + (i + 1) : Nat) : Int) := ⟨by rw [wrap_i64 (by omega)]; omega⟩
   have hl : (mkL .u8 k i ++ xs.drop i).length = xs.length := by rw [List.length_append, mkL_len, List.length_drop]; omega
   refine SW_seq ?_
   refine xr [] [(9, .bool (decide ((i : Int) < (((List.length xs) : Nat) : Int))))] ?_
   refine xst z ?_
   refine SW_skip ?_
   refine SW_seq ?_
   refine SW_block ?_
   refine xg ?_
   refine xn 4 [] [(15, .int .u8 (IntKind.wrap IntKind.u8 (((k + i) : Nat) : Int))), (13, .int .i64 (i : Int)), (12, .slice (some ⟨g, 0, none⟩) (List.length xs) c)] ?_
   refine xoi 16 5 (g) (List.length xs) (c) (i) IntKind.i64 ((i : Int)) ⟨rfl⟩ (by omega) ?_
   refine xos 0 (g) (i) IntKind.u8 (mkL IntKind.u8 k i ++ List.drop i xs) (r) 5 (IntKind.wrap IntKind.u8 (((k + i) : Nat) : Int)) (by first | omega | (simp <;> omega)) ?_
   refine xz [] [] ?_
   refine SW_region ?_
   refine xn 1 [] [(17, .int .i64 (((k + i) : Nat) : Int))] ?_
   refine xve 18 IntKind.i64 (IntKind.wrap IntKind.i64 ((((k + i) : Nat) : Int) + 1)) ((((k + (i + 1)) : Nat) : Int)) vk ?_
   refine xz [] [(1, .int .i64 (((k + (i + 1)) : Nat) : Int))] ?_
   refine SW_region ?_
   refine xn 1 [] [(10, .int .i64 (i : Int))] ?_
   refine xve 11 IntKind.i64 (IntKind.wrap IntKind.i64 ((i : Int) + 1)) ((((i + 1) : Nat) : Int)) vi ?_
   refine xz [] [(5, .int .i64 (((i + 1) : Nat) : Int))] ?_
   rw [mkL_set _ _ _ _ hi]
   refine ⟨m, by omega, i + 1, by omega, ?_⟩
   exact xw zs0
  ·have z : decide ((i : Int) < (xs.length : Int)) = false := decide_eq_false (by omega)
   obtain rfl : m = 0 := by omega
   obtain rfl : i = xs.length := by omega
   rw [List.drop_length, List.append_nil]
   refine SW_seq ?_
   refine xr [] [(9, .bool (decide ((((List.length xs) : Nat) : Int) < (((List.length xs) : Nat) : Int))))] ?_
   refine xsf z ?_
   refine SW_exit ?_
   refine xr [] [(4, .int .i64 (((k + List.length xs) : Nat) : Int))] ?_
   refine SW_ret ?_
   refine xmeg (.int .i64 (((k + List.length xs) : Nat) : Int)) [] ?_
   exact ⟨(), [true], rfl, rfl, zs0⟩
theorem ct_laws_markByteS' (k : Int) (c : Nat) : CtV Tryd.prog 87 [.slice none 0 c, .int .i64 k] [] (.int .i64 k) := by
 refine ct_of Tryd.func87 rfl (by kernel_rfl) (fun B w0 => ?_)
 refine xr [] [(4, .int .i64 0)] ?_
 refine SW_seq ?_
 refine xr [] [(5, .int .i64 0)] ?_
 refine SW_block ?_
 refine SW_unroll ?_
 refine LW_step ?_
 refine SW_seq ?_
 refine xr [] [(9, .bool false)] ?_
 refine xs0 ?_
 refine SW_exit ?_
 refine xr [] [(4, .int .i64 k)] ?_
 refine SW_ret ?_
 refine xe () (.int .i64 k) [] ?_ trivial
 rfl
theorem ct_laws_heldByteS' (k : Int) (c : Nat) : CtV Tryd.prog 88 [.slice none 0 c, .int .i64 k] [] (.int .i64 k) := by
 refine ct_of Tryd.func88 rfl (by kernel_rfl) (fun B w0 => ?_)
 refine xr [] [(4, .int .i64 0)] ?_
 refine SW_seq ?_
 refine xr [] [(5, .int .i64 0)] ?_
 refine SW_block ?_
 refine SW_unroll ?_
 refine LW_step ?_
 refine SW_seq ?_
 refine xr [] [(9, .bool false)] ?_
 refine xs0 ?_
 refine SW_exit ?_
 refine xr [] [(4, .int .i64 k)] ?_
 refine SW_ret ?_
 refine xe () (.int .i64 k) [] ?_ trivial
 rfl
theorem ct_laws_eqByteS (a : List Int) (A A' : Option Addr) (c c' : Nat) (hl : a.length ≤ 1000000000) : CtV Tryd.prog 20 [.slice A a.length c, .slice A' a.length c'] [Row .u8 A c a, Row .u8 A' c' a] (.bool true) := by
 refine ct_of Tryd.func20 rfl (by kernel_rfl) (fun B w0 => ?_)
 have z0 : ((a.length : Int) != (a.length : Int)) = false := by simp
 refine xr [] [(4, .bool false)] ?_
 refine SW_seq ?_
 refine xr [] [(10, .bool ((((List.length a) : Nat) : Int) != (((List.length a) : Nat) : Int)))] ?_
 refine xsf z0 ?_
 refine SW_skip ?_
 refine SW_seq ?_
 refine xr [] [(5, .int .i64 0)] ?_
 refine SW_block ?_
 refine SW_loopn (fun m s => ∃ i : Nat, m + i = a.length ∧ Weak s ⟨[(0, .slice A a.length c), (1, .slice A' a.length c'), (5, .int .i64 (i : Int))], [], [Row .u8 A c a, Row .u8 A' c' a]⟩) a.length ⟨0, rfl, ?_⟩ (fun m s hI => ?_)
 ·exact xw (zsS zi0 (zsS (ziS zi0) zs0))
 ·obtain ⟨i, h1, hw⟩ := hI
  refine SW_weak hw ?_
  clear hw
  by_cases hi : i < a.length
  ·have z : decide ((i : Int) < (a.length : Int)) = true := decide_eq_true (by omega)
   obtain ⟨m, rfl⟩ : ∃ m', m = m' + 1 := ⟨m - 1, by omega⟩
   refine SW_know zi0 (fun w h => row_at h (by omega)) (fun ⟨ad, e⟩ => ?_)
   subst e
   refine SW_know (ziS zi0) (fun w h => row_at h (by omega)) (fun ⟨ad', e⟩ => ?_)
   subst e
   have vi : Ve (IntKind.i64.wrap ((i : Int) + 1)) ((i + 1 : Nat) : Int) := veI (by omega) (by omega)
   have z2 : (rd a (i : Int) != rd a (i : Int)) = false := by simp
   refine SW_seq ?_
   refine xr [] [(14, .bool (decide ((i : Int) < (((List.length a) : Nat) : Int))))] ?_
   refine xst z ?_
   refine SW_skip ?_
   refine SW_seq ?_
   refine SW_block ?_
   refine xd (fun hB => ?_)
   refine xdk [(0, []), (1, []), (4, []), (5, [])] [(22, .int .i64 (i : Int)), (21, .slice (some ad') (List.length a) c'), (18, .int .i64 (i : Int)), (17, .slice (some ad) (List.length a) c)] hB ?_
   refine xdfi 2 hB 19 5 (ad) (List.length a) (c) (i) IntKind.i64 ((i : Int)) ⟨rfl⟩ (by omega) ?_
   refine xdfl 3 hB 20 zi0 (i) (by omega) ?_
   refine xdfi 6 hB 23 5 (ad') (List.length a) (c') (i) IntKind.i64 ((i : Int)) ⟨rfl⟩ (by omega) ?_
   refine xdfl 7 hB 24 (ziS zi0) (i) (by omega) ?_
   refine xdk [(8, [])] [(25, .bool (rd a (i : Int) != rd a (i : Int)))] hB ?_
   refine xdz ?_
   refine xsf z2 ?_
   refine SW_skip ?_
   refine SW_region ?_
   refine xn 1 [] [(15, .int .i64 (i : Int))] ?_
   refine xve 16 IntKind.i64 (IntKind.wrap IntKind.i64 ((i : Int) + 1)) ((((i + 1) : Nat) : Int)) vi ?_
   refine xz [] [(5, .int .i64 (((i + 1) : Nat) : Int))] ?_
   refine ⟨m, by omega, i + 1, by omega, ?_⟩
   exact xw (zsS zi0 (zsS (ziS zi0) zs0))
  ·have z : decide ((i : Int) < (a.length : Int)) = false := decide_eq_false (by omega)
   refine SW_seq ?_
   refine xr [] [(14, .bool (decide ((i : Int) < (((List.length a) : Nat) : Int))))] ?_
   refine xsf z ?_
   refine SW_exit ?_
   refine xr [] [(4, .bool true)] ?_
   refine SW_ret ?_
   refine xe () (.bool true) [] ?_ trivial
   rfl
theorem ct_laws_heldByteS (k n c : Nat) (A : Option Addr) (hk : n + k ≤ 2000000000) : CtV Tryd.prog 88 [.slice A n c, .int .i64 (k : Int)] [Row .u8 A c (mkL .u8 k n)] (.int .i64 ((k + n : Nat) : Int)) := by
 refine ct_of Tryd.func88 rfl (by kernel_rfl) (fun B w0 => ?_)
 have hl := mkL_len .u8 k n
 refine xr [] [(4, .int .i64 0)] ?_
 refine SW_seq ?_
 refine xr [] [(5, .int .i64 0)] ?_
 refine SW_block ?_
 refine SW_loopn (fun m s => ∃ i : Nat, m + i = n ∧ Weak s ⟨[(0, .slice A n c), (1, .int .i64 ((k + i : Nat) : Int)), (5, .int .i64 (i : Int))], [], [Row .u8 A c (mkL .u8 k n)]⟩) n ⟨0, rfl, ?_⟩ (fun m s hI => ?_)
 ·exact xw (zsS zi0 zs0)
 ·obtain ⟨i, h1, hw⟩ := hI
  refine SW_weak hw ?_
  clear hw
  by_cases hi : i < n
  ·have z : decide ((i : Int) < (n : Int)) = true := decide_eq_true (by omega)
   obtain ⟨m, rfl⟩ : ∃ m', m = m' + 1 := ⟨m - 1, by omega⟩
   refine SW_know zi0 (fun w h => row_at h (by omega)) (fun ⟨ad, e⟩ => ?_)
   subst e
   have vi : Ve (IntKind.i64.wrap ((i : Int) + 1)) ((i + 1 : Nat) : Int) := ⟨by rw [wrap_i64 (by omega)]; omega⟩
   have vk : Ve (IntKind.i64.wrap (((k + i : Nat) : Int) + 1)) ((k + (i + 1) : Nat) : Int) := ⟨by rw [wrap_i64 (by omega)]; omega⟩
   have z2 : (rd (mkL .u8 k n) (i : Int) != IntKind.u8.wrap ((k + i : Nat) : Int)) = false := by rw [mkL_rd _ _ _ _ hi]; simp
   refine SW_seq ?_
   refine xr [] [(9, .bool (decide ((i : Int) < (n : Int))))] ?_
   refine xst z ?_
   refine SW_skip ?_
   refine SW_seq ?_
   refine SW_block ?_
   refine SW_seq ?_
   refine xg ?_
   refine xn 2 [] [(13, .int .i64 (i : Int)), (12, .slice (some ad) n c)] ?_
   refine xfi 14 5 (ad) (n) (c) (i) IntKind.i64 ((i : Int)) ⟨rfl⟩ (by omega) ?_
   refine xfl 15 zi0 (i) (by omega) ?_
   refine xz [] [(18, .bool (rd (mkL IntKind.u8 k n) (i : Int) != IntKind.wrap IntKind.u8 (((k + i) : Nat) : Int)))] ?_
   refine xsf z2 ?_
   refine SW_skip ?_
   refine SW_region ?_
   refine xn 1 [] [(19, .int .i64 (((k + i) : Nat) : Int))] ?_
   refine xve 20 IntKind.i64 (IntKind.wrap IntKind.i64 ((((k + i) : Nat) : Int) + 1)) ((((k + (i + 1)) : Nat) : Int)) vk ?_
   refine xz [] [(1, .int .i64 (((k + (i + 1)) : Nat) : Int))] ?_
   refine SW_region ?_
   refine xn 1 [] [(10, .int .i64 (i : Int))] ?_
   refine xve 11 IntKind.i64 (IntKind.wrap IntKind.i64 ((i : Int) + 1)) ((((i + 1) : Nat) : Int)) vi ?_
   refine xz [] [(5, .int .i64 (((i + 1) : Nat) : Int))] ?_
   refine ⟨m, by omega, i + 1, by omega, ?_⟩
   exact xw (zsS zi0 zs0)
  ·have z : decide ((i : Int) < (n : Int)) = false := decide_eq_false (by omega)
   obtain rfl : m = 0 := by omega
   obtain rfl : i = n := by omega
   refine SW_seq ?_
   refine xr [] [(9, .bool (decide ((i : Int) < (i : Int))))] ?_
   refine xsf z ?_
   refine SW_exit ?_
   refine xr [] [(4, .int .i64 (((k + i) : Nat) : Int))] ?_
   refine SW_ret ?_
   refine xe () (.int .i64 (((k + i) : Nat) : Int)) [] ?_ trivial
   rfl
end Go.Proofs.YtgknelgplmohoaaDoor.M
end
section
namespace Go.Proofs.YtgknelgplmohoaaDoor.M
open Go.RowKit Go.Proofs.YtgknelgplmohoaaDoor.G Go.Proofs.YtgknelgplmohoaaDoorV.PrintWords Go.Proofs.YtgknelgplmohoaaDoorV.PrintLast Go.Proofs.YtgknelgplmohoaaDoor.X
set_option linter.unusedVariables false
set_option linter.unusedSimpArgs false
theorem ctM_re {P : Program} {f : FuncId} {args : List Value} {bs : List Box} {pre : List Fact} {γ γ2 : Type} {val : γ → Value} {bs' : γ → List Box} {post : γ → List Fact} (val2 : γ2 → Value) (bs2 : γ2 → List Box) (post2 : γ2 → List Fact) (h : CtM P f args bs pre val bs' post)
  (hx : ∀ g, ∃ g2, val g = val2 g2 ∧ bs' g = bs2 g2 ∧ post g = post2 g2) : CtM P f args bs pre val2 bs2 post2 := fun B w h1 h2 h3 h4 =>
 (h B w h1 h2 h3 h4).mono (fun e w' ⟨g, e1, e2⟩ => by
  obtain ⟨g2, a, b, c⟩ := hx g
  refine ⟨g2, by rw [e1, a], ?_⟩
  rw [← b, ← c]
  exact e2)
theorem ct_laws_eqByteS' (g c : Nat) (a : List Int) (r : List Value) (A' : Option Addr) (c' : Nat) (hl : a.length ≤ 1000000000) (hc : a.length ≤ c) : CtM Tryd.prog 20 [.slice (some ⟨g, 0, none⟩) a.length c, .slice A' a.length c'] [⟨g, cl .u8 a r, 5⟩] [Row .u8 A' c' a] (γ := Unit) (fun _ => .bool true) (fun _ => [⟨g, cl .u8 a r, 5⟩]) (fun _ => []) :=
 ctM_look (by omega) hc (ct_laws_eqByteS a (some ⟨g, 0, none⟩) A' c c' hl)
end Go.Proofs.YtgknelgplmohoaaDoor.M
end
section
namespace Go.Proofs.YtgknelgplmohoaaDoor.M
open Go.RowKit Go.Proofs.YtgknelgplmohoaaDoor.G Go.Proofs.YtgknelgplmohoaaDoorV.PrintWords Go.Proofs.YtgknelgplmohoaaDoorV.PrintLast Go.Proofs.YtgknelgplmohoaaDoor.X
set_option linter.unusedVariables false
set_option linter.unusedSimpArgs false
theorem ct_spec_Shortest0 {P : Nat} {emin emax : Int} {W E : Nat} {ex : Bool} {f : Int} (d : FD f P emin emax W E ex) (u1 u2 : Int) (cc : Int) (hc : cc = 0 ∨ cc = 1 ∨ cc = 4 ∨ cc = 5) (neg : Bool) (k1 k2 k3 : Int) (cu : CtV Tryd.prog 28 [.int .i64 f, .agg #[.int .u64 u1, .int .u64 u2]] [] (.agg #[.int .i64 cc, .bool neg, .int .u64 k1, .int .u64 k2, .int .i64 k3])) :
  CtV Tryd.prog 21 [.int .i64 f, .agg #[.int .u64 u1, .int .u64 u2]] [] (.agg #[.slice none 0 0, .int .i64 0, .bool (if cc = 0 then false else neg), .int .i64 (if cc = 0 then 3 else 0)]) := by
 have hF := d.h.toFmt
 have hs := d.sf
 have p0 := hF.p0
 have zP : ((P : Int) == 0) = false := by rw [beq_eq_false_iff_ne]; omega
 refine ct_of Tryd.func21 rfl (by kernel_rfl) (fun B w0 => ?_)
 rcases hc with rfl | rfl | rfl | rfl
 ·rw [if_pos rfl, if_pos rfl]
  refine xg ?_
  refine xb 3 [.int .u64 u1, .int .u64 u2] 28 (fun g0 => ?_)
  refine xb 4 [.slice none 0 0, .int .i64 0, .bool false, .int .i64 0] 52 (fun g1 => ?_)
  refine xz [] [] ?_
  refine SW_seq ?_
  refine xg ?_
  refine xn 1 [] [(28, .int .i64 f)] ?_
  refine xcv 29 (ct_spec_Describe (f) hs) zs0 ?_
  refine xz [] [(31, .bool ((P : Int) == 0))] ?_
  refine xsf zP ?_
  refine SW_skip ?_
  refine xg ?_
  refine xn 2 [(1, [0])] [(34, .agg #[.int .u64 u1, .int .u64 u2]), (33, .int .i64 f)] ?_
  refine xcv 35 cu zs0 ?_
  refine xb 5 [.int .i64 0, .bool false, .int .u64 0, .int .u64 0, .int .i64 0] 33 (fun g2 => ?_)
  refine xy [(4, [2])] [] [(2, [.int .i64 0, .bool neg, .int .u64 k1, .int .u64 k2, .int .i64 k3])] ?_
  refine SW_seq ?_
  refine xr [(1, [2])] [(38, .bool true)] ?_
  refine xs1 ?_
  refine xq [(1, [1])] [] [(1, [.slice none 0 0, .int .i64 0, .bool false, .int .i64 3])] ?_
  refine SW_ret ?_
  refine xe () (.agg #[.slice none 0 0, .int .i64 0, .bool false, .int .i64 3]) [1] ?_ trivial
  rfl
 ·rw [if_neg (by decide), if_neg (by decide)]
  refine xg ?_
  refine xb 3 [.int .u64 u1, .int .u64 u2] 28 (fun g0 => ?_)
  refine xb 4 [.slice none 0 0, .int .i64 0, .bool false, .int .i64 0] 52 (fun g1 => ?_)
  refine xz [] [] ?_
  refine SW_seq ?_
  refine xg ?_
  refine xn 1 [] [(28, .int .i64 f)] ?_
  refine xcv 29 (ct_spec_Describe (f) hs) zs0 ?_
  refine xz [] [(31, .bool ((P : Int) == 0))] ?_
  refine xsf zP ?_
  refine SW_skip ?_
  refine xg ?_
  refine xn 2 [(1, [0])] [(34, .agg #[.int .u64 u1, .int .u64 u2]), (33, .int .i64 f)] ?_
  refine xcv 35 cu zs0 ?_
  refine xb 5 [.int .i64 0, .bool false, .int .u64 0, .int .u64 0, .int .i64 0] 33 (fun g2 => ?_)
  refine xy [(4, [2])] [] [(2, [.int .i64 1, .bool neg, .int .u64 k1, .int .u64 k2, .int .i64 k3])] ?_
  refine SW_seq ?_
  refine xr [(1, [2])] [(38, .bool false)] ?_
  refine xs0 ?_
  refine SW_skip ?_
  refine SW_seq ?_
  refine xr [(1, [2]), (5, [2])] [(47, .bool true)] ?_
  refine xs1 ?_
  refine xq [(1, [2]), (3, [1])] [] [(1, [.slice none 0 0, .int .i64 0, .bool neg, .int .i64 0])] ?_
  refine SW_ret ?_
  refine xe () (.agg #[.slice none 0 0, .int .i64 0, .bool neg, .int .i64 0]) [1] ?_ trivial
  rfl
 ·rw [if_neg (by decide), if_neg (by decide)]
  refine xg ?_
  refine xb 3 [.int .u64 u1, .int .u64 u2] 28 (fun g0 => ?_)
  refine xb 4 [.slice none 0 0, .int .i64 0, .bool false, .int .i64 0] 52 (fun g1 => ?_)
  refine xz [] [] ?_
  refine SW_seq ?_
  refine xg ?_
  refine xn 1 [] [(28, .int .i64 f)] ?_
  refine xcv 29 (ct_spec_Describe (f) hs) zs0 ?_
  refine xz [] [(31, .bool ((P : Int) == 0))] ?_
  refine xsf zP ?_
  refine SW_skip ?_
  refine xg ?_
  refine xn 2 [(1, [0])] [(34, .agg #[.int .u64 u1, .int .u64 u2]), (33, .int .i64 f)] ?_
  refine xcv 35 cu zs0 ?_
  refine xb 5 [.int .i64 0, .bool false, .int .u64 0, .int .u64 0, .int .i64 0] 33 (fun g2 => ?_)
  refine xy [(4, [2])] [] [(2, [.int .i64 4, .bool neg, .int .u64 k1, .int .u64 k2, .int .i64 k3])] ?_
  refine SW_seq ?_
  refine xr [(1, [2])] [(38, .bool false)] ?_
  refine xs0 ?_
  refine SW_skip ?_
  refine SW_seq ?_
  refine xr [(1, [2]), (5, [2])] [(47, .bool true)] ?_
  refine xs1 ?_
  refine xq [(1, [2]), (3, [1])] [] [(1, [.slice none 0 0, .int .i64 0, .bool neg, .int .i64 0])] ?_
  refine SW_ret ?_
  refine xe () (.agg #[.slice none 0 0, .int .i64 0, .bool neg, .int .i64 0]) [1] ?_ trivial
  rfl
 ·rw [if_neg (by decide), if_neg (by decide)]
  refine xg ?_
  refine xb 3 [.int .u64 u1, .int .u64 u2] 28 (fun g0 => ?_)
  refine xb 4 [.slice none 0 0, .int .i64 0, .bool false, .int .i64 0] 52 (fun g1 => ?_)
  refine xz [] [] ?_
  refine SW_seq ?_
  refine xg ?_
  refine xn 1 [] [(28, .int .i64 f)] ?_
  refine xcv 29 (ct_spec_Describe (f) hs) zs0 ?_
  refine xz [] [(31, .bool ((P : Int) == 0))] ?_
  refine xsf zP ?_
  refine SW_skip ?_
  refine xg ?_
  refine xn 2 [(1, [0])] [(34, .agg #[.int .u64 u1, .int .u64 u2]), (33, .int .i64 f)] ?_
  refine xcv 35 cu zs0 ?_
  refine xb 5 [.int .i64 0, .bool false, .int .u64 0, .int .u64 0, .int .i64 0] 33 (fun g2 => ?_)
  refine xy [(4, [2])] [] [(2, [.int .i64 5, .bool neg, .int .u64 k1, .int .u64 k2, .int .i64 k3])] ?_
  refine SW_seq ?_
  refine xr [(1, [2])] [(38, .bool false)] ?_
  refine xs0 ?_
  refine SW_skip ?_
  refine SW_seq ?_
  refine xr [(1, [2]), (5, [2])] [(47, .bool true)] ?_
  refine xs1 ?_
  refine xq [(1, [2]), (3, [1])] [] [(1, [.slice none 0 0, .int .i64 0, .bool neg, .int .i64 0])] ?_
  refine SW_ret ?_
  refine xe () (.agg #[.slice none 0 0, .int .i64 0, .bool neg, .int .i64 0]) [1] ?_ trivial
  rfl
theorem ct_spec_Shortest4 (f : Int) (hs : spec_Describe.f f = some (0, 0, 0, 0, 0, false)) (u1 u2 : Int) :
  CtV Tryd.prog 21 [.int .i64 f, .agg #[.int .u64 u1, .int .u64 u2]] [] (.agg #[.slice none 0 0, .int .i64 0, .bool false, .int .i64 4]) := by
 refine ct_of Tryd.func21 rfl (by kernel_rfl) (fun B w0 => ?_)
 refine xg ?_
 refine xb 3 [.int .u64 u1, .int .u64 u2] 28 (fun g0 => ?_)
 refine xb 4 [.slice none 0 0, .int .i64 0, .bool false, .int .i64 0] 52 (fun g1 => ?_)
 refine xz [] [] ?_
 refine SW_seq ?_
 refine xg ?_
 refine xn 1 [] [(28, .int .i64 f)] ?_
 refine xcv 29 (ct_spec_Describe' (f) hs) zs0 ?_
 refine xz [] [(31, .bool true)] ?_
 refine xs1 ?_
 refine xq [(1, [1])] [] [(1, [.slice none 0 0, .int .i64 0, .bool false, .int .i64 4])] ?_
 refine SW_ret ?_
 refine xe () (.agg #[.slice none 0 0, .int .i64 0, .bool false, .int .i64 4]) [1] ?_ trivial
 rfl
theorem ct_laws_eqByteS0 : CtV Tryd.prog 20 [.slice none 0 0, .slice none 0 0] [] (.bool true) := by
 refine ct_of Tryd.func20 rfl (by kernel_rfl) (fun B w0 => ?_)
 refine xr [] [(4, .bool false)] ?_
 refine SW_seq ?_
 refine xr [] [(10, .bool false)] ?_
 refine xs0 ?_
 refine SW_skip ?_
 refine SW_seq ?_
 refine xr [] [(5, .int .i64 0)] ?_
 refine SW_block ?_
 refine SW_unroll ?_
 refine LW_step ?_
 refine SW_seq ?_
 refine xr [] [(14, .bool false)] ?_
 refine xs0 ?_
 refine SW_exit ?_
 refine xr [] [(4, .bool true)] ?_
 refine SW_ret ?_
 refine xe () (.bool true) [] ?_ trivial
 rfl
theorem ct_laws_eqShort0 (e k : Int) (neg : Bool) : CtV Tryd.prog 24 [.agg #[.slice none 0 0, .int .i64 e, .bool neg, .int .i64 k], .agg #[.slice none 0 0, .int .i64 e, .bool neg, .int .i64 k]] [] (.bool true) := by
 have z1 : (e != e) = false := by simp
 have z2 : (k != k) = false := by simp
 have z3 : (!(neg == neg)) = false := by simp
 have c0 := ct_laws_eqByteS0
 refine ct_of Tryd.func24 rfl (by kernel_rfl) (fun B w0 => ?_)
 refine xg ?_
 refine xb 2 [.slice none 0 0, .int .i64 e, .bool neg, .int .i64 k] 52 (fun g0 => ?_)
 refine xb 3 [.slice none 0 0, .int .i64 e, .bool neg, .int .i64 k] 52 (fun g1 => ?_)
 refine xz [] [(4, .bool false)] ?_
 refine SW_seq ?_
 refine xg ?_
 refine xn 4 [(1, [0]), (3, [1])] [(8, .slice none 0 0), (6, .slice none 0 0)] ?_
 refine xcv 9 c0 zs0 ?_
 refine xz [] [(10, .bool false)] ?_
 refine xs0 ?_
 refine SW_skip ?_
 refine SW_seq ?_
 refine xr [(1, [0]), (3, [1])] [(15, .bool (e != e))] ?_
 refine xsf z1 ?_
 refine SW_skip ?_
 refine SW_seq ?_
 refine xr [(1, [0]), (3, [1])] [(20, .bool !neg == neg)] ?_
 refine xsf z3 ?_
 refine SW_skip ?_
 refine SW_seq ?_
 refine xr [(1, [0]), (3, [1])] [(25, .bool (k != k))] ?_
 refine xsf z2 ?_
 refine SW_skip ?_
 refine xr [] [(4, .bool true)] ?_
 refine SW_ret ?_
 refine xe () (.bool true) [] ?_ trivial
 rfl
theorem ct_laws_eqShort1 (e k : Int) (neg : Bool) (g c : Nat) (ds : List Int) (r : List Value) (A' : Option Addr) (c' : Nat) (hl : ds.length ≤ 1000000000) (hc : ds.length ≤ c) : CtM Tryd.prog 24 [.agg #[.slice (some ⟨g, 0, none⟩) ds.length c, .int .i64 e, .bool neg, .int .i64 k], .agg #[.slice A' ds.length c', .int .i64 e, .bool neg, .int .i64 k]] [⟨g, X.cl .u8 ds r, 5⟩] [Row .u8 A' c' ds] (γ := Unit) (fun _ => .bool true) (fun _ => [⟨g, X.cl .u8 ds r, 5⟩]) (fun _ => []) := by
 have z1 : (e != e) = false := by simp
 have z2 : (k != k) = false := by simp
 have z3 : (!(neg == neg)) = false := by simp
 have c0 := ct_laws_eqByteS' g c ds r A' c' hl hc
 refine cm_of Tryd.func24 rfl (by kernel_rfl) (fun B w0 => ?_)
 refine xg ?_
 refine xb 2 [.slice (some ⟨g, 0, none⟩) (List.length ds) c, .int .i64 e, .bool neg, .int .i64 k] 52 (fun g0 => ?_)
 refine xb 3 [.slice A' (List.length ds) c', .int .i64 e, .bool neg, .int .i64 k] 52 (fun g1 => ?_)
 refine xz [] [(4, .bool false)] ?_
 refine SW_seq ?_
 refine xg ?_
 refine xn 4 [(1, [1]), (3, [2])] [(8, .slice A' (List.length ds) c'), (6, .slice (some ⟨g, 0, none⟩) (List.length ds) c)] ?_
 refine xcm 9 [true] c0 (zsS zi0 zs0) (fun z4 => ?_)
 refine xz [] [(10, .bool false)] ?_
 refine xs0 ?_
 refine SW_skip ?_
 refine SW_seq ?_
 refine xr [(1, [1]), (3, [2])] [(15, .bool (e != e))] ?_
 refine xsf z1 ?_
 refine SW_skip ?_
 refine SW_seq ?_
 refine xr [(1, [1]), (3, [2])] [(20, .bool !neg == neg)] ?_
 refine xsf z3 ?_
 refine SW_skip ?_
 refine SW_seq ?_
 refine xr [(1, [1]), (3, [2])] [(25, .bool (k != k))] ?_
 refine xsf z2 ?_
 refine SW_skip ?_
 refine xr [] [(4, .bool true)] ?_
 refine SW_ret ?_
 refine xmeg (.bool true) [] ?_
 exact ⟨(), [true], rfl, rfl, zs0⟩
theorem ct_laws_markShort0 (e k : Int) (neg : Bool) (x : Int) : CtV Tryd.prog 25 [.agg #[.slice none 0 0, .int .i64 e, .bool neg, .int .i64 k], .int .i64 x] [] (.int .i64 x) := by
 have c0 := ct_laws_markByteS' x 0
 refine ct_of Tryd.func25 rfl (by kernel_rfl) (fun B w0 => ?_)
 refine xg ?_
 refine xb 2 [.slice none 0 0, .int .i64 e, .bool neg, .int .i64 k] 52 (fun g0 => ?_)
 refine xz [] [(4, .int .i64 0)] ?_
 refine xg ?_
 refine xn 3 [(1, [0])] [(7, .int .i64 x), (6, .slice none 0 0)] ?_
 refine xcv 8 c0 zs0 ?_
 refine xz [] [(1, .int .i64 x)] ?_
 refine xr [] [(4, .int .i64 x)] ?_
 refine SW_ret ?_
 refine xe () (.int .i64 x) [] ?_ trivial
 rfl
theorem ct_laws_heldShort0 (e k : Int) (neg : Bool) : CtV Tryd.prog 26 [.agg #[.slice none 0 0, .int .i64 e, .bool neg, .int .i64 k], .int .i64 1] [] (.int .i64 1) := by
 have c0 := ct_laws_heldByteS' 1 0
 refine ct_of Tryd.func26 rfl (by kernel_rfl) (fun B w0 => ?_)
 refine xg ?_
 refine xb 2 [.slice none 0 0, .int .i64 e, .bool neg, .int .i64 k] 52 (fun g0 => ?_)
 refine xz [] [(4, .int .i64 0)] ?_
 refine xg ?_
 refine xn 3 [(1, [0])] [(7, .int .i64 1), (6, .slice none 0 0)] ?_
 refine xcv 8 c0 zs0 ?_
 refine xz [] [(1, .int .i64 1)] ?_
 refine SW_seq ?_
 refine xr [] [(10, .bool false)] ?_
 refine xs0 ?_
 refine SW_skip ?_
 refine xr [] [(4, .int .i64 1)] ?_
 refine SW_ret ?_
 refine xe () (.int .i64 1) [] ?_ trivial
 rfl
theorem ct_laws_markShort1 (e k : Int) (neg : Bool) (g c : Nat) (ds : List Int) (r : List Value) (hl : ds.length ≤ 1000000000) : CtM Tryd.prog 25 [.agg #[.slice (some ⟨g, 0, none⟩) ds.length c, .int .i64 e, .bool neg, .int .i64 k], .int .i64 1] [⟨g, X.cl .u8 ds r, 5⟩] [] (γ := Unit) (fun _ => .int .i64 ((1 + ds.length : Nat) : Int)) (fun _ => [⟨g, X.cl .u8 (mkL .u8 1 ds.length) r, 5⟩]) (fun _ => []) := by
 have c0 : CtM Tryd.prog 87 [.slice (some ⟨g, 0, none⟩) ds.length c, .int .i64 1] [⟨g, X.cl .u8 ds r, 5⟩] [] (γ := Unit) (fun _ => .int .i64 ((1 + ds.length : Nat) : Int)) (fun _ => [⟨g, X.cl .u8 (mkL .u8 1 ds.length) r, 5⟩]) (fun _ => []) := ct_laws_markByteS g 1 ds.length c ds r rfl (by omega)
 refine cm_of Tryd.func25 rfl (by kernel_rfl) (fun B w0 => ?_)
 refine xg ?_
 refine xb 2 [.slice (some ⟨g, 0, none⟩) (List.length ds) c, .int .i64 e, .bool neg, .int .i64 k] 52 (fun g0 => ?_)
 refine xz [] [(4, .int .i64 0)] ?_
 refine xg ?_
 refine xn 3 [(1, [1])] [(7, .int .i64 1), (6, .slice (some ⟨g, 0, none⟩) (List.length ds) c)] ?_
 refine xcm 8 [true] c0 zs0 (fun z0 => ?_)
 refine xz [] [(1, .int .i64 (((1 + List.length ds) : Nat) : Int))] ?_
 refine xr [] [(4, .int .i64 (((1 + List.length ds) : Nat) : Int))] ?_
 refine SW_ret ?_
 refine xmeg (.int .i64 (((1 + List.length ds) : Nat) : Int)) [] ?_
 exact ⟨(), [true], rfl, rfl, zs0⟩
theorem ct_laws_heldShort1 (e k : Int) (neg : Bool) (g n c : Nat) (r : List Value) (hl : n ≤ 1000000000) (hc : n ≤ c) : CtM Tryd.prog 26 [.agg #[.slice (some ⟨g, 0, none⟩) n c, .int .i64 e, .bool neg, .int .i64 k], .int .i64 1] [⟨g, X.cl .u8 (mkL .u8 1 n) r, 5⟩] [] (γ := Unit) (fun _ => .int .i64 ((1 + n : Nat) : Int)) (fun _ => [⟨g, X.cl .u8 (mkL .u8 1 n) r, 5⟩]) (fun _ => []) := by
 have hm := mkL_len .u8 1 n
 have c0 : CtM Tryd.prog 88 [.slice (some ⟨g, 0, none⟩) n c, .int .i64 1] [⟨g, X.cl .u8 (mkL .u8 1 n) r, 5⟩] [] (γ := Unit) (fun _ => .int .i64 ((1 + n : Nat) : Int)) (fun _ => [⟨g, X.cl .u8 (mkL .u8 1 n) r, 5⟩]) (fun _ => []) := ctM_look (by omega) (by omega) (ct_laws_heldByteS 1 n c (some ⟨g, 0, none⟩) (by omega))
 have z1 : decide (((1 + n : Nat) : Int) < 0) = false := decide_eq_false (by omega)
 refine cm_of Tryd.func26 rfl (by kernel_rfl) (fun B w0 => ?_)
 refine xg ?_
 refine xb 2 [.slice (some ⟨g, 0, none⟩) n c, .int .i64 e, .bool neg, .int .i64 k] 52 (fun g0 => ?_)
 refine xz [] [(4, .int .i64 0)] ?_
 refine xg ?_
 refine xn 3 [(1, [1])] [(7, .int .i64 1), (6, .slice (some ⟨g, 0, none⟩) n c)] ?_
 refine xcm 8 [true] c0 zs0 (fun z2 => ?_)
 refine xz [] [(1, .int .i64 (((1 + n) : Nat) : Int))] ?_
 refine SW_seq ?_
 refine xr [] [(10, .bool (decide ((((1 + n) : Nat) : Int) < 0)))] ?_
 refine xsf z1 ?_
 refine SW_skip ?_
 refine xr [] [(4, .int .i64 (((1 + n) : Nat) : Int))] ?_
 refine SW_ret ?_
 refine xmeg (.int .i64 (((1 + n) : Nat) : Int)) [] ?_
 exact ⟨(), [true], rfl, rfl, zs0⟩
theorem ct_laws_FnExactShortest (f : Int) (x : Nat) (hx : x < B128) : CtV Tryd.prog 5 [.int .i64 f, .agg #[.int .u64 (hiI x), .int .u64 (loI x)]] [Tabled] (.bool true) := by
 have cw := ct_laws_toWord (hiI x) (loI x)
 have plain : ∀ (e k : Int) (neg : Bool), CtV Tryd.prog 21 [.int .i64 f, .agg #[.int .u64 (hiI x), .int .u64 (loI x)]] [] (.agg #[.slice none 0 0, .int .i64 e, .bool neg, .int .i64 k]) → CtV Tryd.prog 23 [.int .i64 f, .agg #[.int .u64 (hiI x), .int .u64 (loI x)]] [Tabled] (.agg #[.slice none 0 0, .int .i64 e, .bool neg, .int .i64 k]) → CtV Tryd.prog 5 [.int .i64 f, .agg #[.int .u64 (hiI x), .int .u64 (loI x)]] [Tabled] (.bool true) := by
  intro e k neg cs ci
  have ce := ct_laws_eqShort0 e k neg
  have cm := ct_laws_markShort0 e k neg 1
  have ch := ct_laws_heldShort0 e k neg
  refine ct_of Tryd.func5 rfl (by kernel_rfl) (fun B w0 => ?_)
  refine xg ?_
  refine xb 3 [.int .u64 (hiI x), .int .u64 (loI x)] 50 (fun g0 => ?_)
  refine xz [] [(4, .bool false)] ?_
  refine xg ?_
  refine xn 2 [(1, [0])] [(11, .agg #[.int .u64 (hiI x), .int .u64 (loI x)]), (10, .int .i64 f)] ?_
  refine xcv 12 cw zs0 ?_
  refine xcv 13 cs zs0 ?_
  refine xb 5 [.slice none 0 0, .int .i64 0, .bool false, .int .i64 0] 52 (fun g1 => ?_)
  refine xy [(5, [1])] [] [(1, [.slice none 0 0, .int .i64 e, .bool neg, .int .i64 k])] ?_
  refine xg ?_
  refine xn 2 [(1, [0])] [(15, .agg #[.int .u64 (hiI x), .int .u64 (loI x)]), (14, .int .i64 f)] ?_
  refine xcv 16 cw zs0 ?_
  refine xcv 17 ci (zsS zi0 zs0) ?_
  refine xb 6 [.slice none 0 0, .int .i64 0, .bool false, .int .i64 0] 52 (fun g2 => ?_)
  refine xy [(5, [2])] [] [(2, [.slice none 0 0, .int .i64 e, .bool neg, .int .i64 k])] ?_
  refine SW_seq ?_
  refine xg ?_
  refine xn 2 [(0, [2]), (1, [1])] [(19, .agg #[.slice none 0 0, .int .i64 e, .bool neg, .int .i64 k]), (18, .agg #[.slice none 0 0, .int .i64 e, .bool neg, .int .i64 k])] ?_
  refine xcv 20 ce zs0 ?_
  refine xz [] [(21, .bool false)] ?_
  refine xs0 ?_
  refine SW_skip ?_
  refine xr [] [(7, .int .i64 1)] ?_
  refine xg ?_
  refine xn 2 [(0, [2])] [(23, .int .i64 1), (22, .agg #[.slice none 0 0, .int .i64 e, .bool neg, .int .i64 k])] ?_
  refine xcv 24 cm zs0 ?_
  refine xz [] [(7, .int .i64 1)] ?_
  refine xr [] [(8, .int .i64 1)] ?_
  refine xg ?_
  refine xn 2 [(0, [2])] [(26, .int .i64 1), (25, .agg #[.slice none 0 0, .int .i64 e, .bool neg, .int .i64 k])] ?_
  refine xcv 27 ch zs0 ?_
  refine xz [] [(8, .int .i64 1)] ?_
  refine SW_seq ?_
  refine xr [] [(29, .bool false)] ?_
  refine xs0 ?_
  refine SW_skip ?_
  refine SW_seq ?_
  refine xr [] [(32, .bool false)] ?_
  refine xs0 ?_
  refine SW_skip ?_
  refine xg ?_
  refine xn 2 [(1, [0])] [(34, .agg #[.int .u64 (hiI x), .int .u64 (loI x)]), (33, .int .i64 f)] ?_
  refine xcv 35 cw zs0 ?_
  refine xcv 36 ci (zsS zi0 zs0) ?_
  refine xb 9 [.slice none 0 0, .int .i64 0, .bool false, .int .i64 0] 52 (fun g3 => ?_)
  refine xy [(5, [3])] [] [(3, [.slice none 0 0, .int .i64 e, .bool neg, .int .i64 k])] ?_
  refine SW_seq ?_
  refine xg ?_
  refine xn 2 [(0, [3]), (1, [1])] [(38, .agg #[.slice none 0 0, .int .i64 e, .bool neg, .int .i64 k]), (37, .agg #[.slice none 0 0, .int .i64 e, .bool neg, .int .i64 k])] ?_
  refine xcv 39 ce zs0 ?_
  refine xz [] [(40, .bool false)] ?_
  refine xs0 ?_
  refine SW_skip ?_
  refine xr [] [(8, .int .i64 1)] ?_
  refine xg ?_
  refine xn 2 [(0, [2])] [(42, .int .i64 1), (41, .agg #[.slice none 0 0, .int .i64 e, .bool neg, .int .i64 k])] ?_
  refine xcv 43 ch zs0 ?_
  refine xz [] [(8, .int .i64 1)] ?_
  refine SW_seq ?_
  refine xr [] [(45, .bool false)] ?_
  refine xs0 ?_
  refine SW_skip ?_
  refine SW_seq ?_
  refine xr [] [(48, .bool false)] ?_
  refine xs0 ?_
  refine SW_skip ?_
  refine xr [] [(4, .bool true)] ?_
  refine SW_ret ?_
  refine xe () (.bool true) [] ?_ trivial
  rfl
 rcases fd_or f with ⟨hf4, P, emin, emax, W, E, ex, d⟩ | ⟨hf4, hs, hl⟩
 ·have cs := ct_spec_Unpack d.h.toFmt f d.sf x hx
  have ci := ct_impl_Unpack d.h.toFmt f d.lf x hx
  rcases unp_form d.h x with hu | hu | ⟨c, neg, S, q, hu, hSl, hv⟩
  ·rw [hu, badP, prtV] at cs ci
   exact plain _ _ _ (ct_spec_Shortest0 d _ _ 0 (.inl rfl) false _ _ _ cs) (ct_impl_Shortest0 d hf4 _ _ 0 (.inl rfl) false _ _ _ ci)
  ·rw [hu, prtV] at cs ci
   exact plain _ _ _ (ct_spec_Shortest0 d _ _ 5 (.inr (.inr (.inr rfl))) false _ _ _ cs) (ct_impl_Shortest0 d hf4 _ _ 5 (.inr (.inr (.inr rfl))) false _ _ _ ci)
  ·by_cases hc : c = 2 ∨ c = 3
   ·obtain ⟨eS, u, D, sd⟩ := shD_ex d.h d.x1 hv hc (decide (S % 2 = 0))
    obtain ⟨ds, hds⟩ : ∃ ds, (dropE (digT0 D)).1 = ds := ⟨_, rfl⟩
    obtain ⟨ee, hee⟩ : ∃ ee, u + ((dropE (digT0 D)).2 : Int) = ee := ⟨_, rfl⟩
    have hln := shD_len sd
    have hdl : ds.length ≤ 24320 := by
     rw [← hds]
     unfold dropE
     dsimp only
     have := dropZ_len (digT0 D).reverse
     rw [List.length_reverse] at this ⊢
     omega
    have ks := ct_spec_Shortest d x hx c neg S q hu hv hc eS u D sd ds ee hds hee
    have ki0 := ct_impl_Shortest d hf4 x hx c neg S q hu hv hc eS u D sd ds ee hds hee
    have ki := ctM_re (γ2 := Nat × List Value) (fun p => .agg #[.slice (some ⟨p.1, 0, none⟩) ds.length (ds.length + p.2.length), .int .i64 ee, .bool neg, .int .i64 0]) (fun p => [⟨p.1, X.cl .u8 ds p.2, 5⟩]) (fun _ => []) ki0 (fun p => ⟨(p.1.1, p.1.2.1), by rw [← p.2], rfl, rfl⟩)
    have ce := fun g r A' c' => ct_laws_eqShort1 ee 0 neg g (ds.length + r.length) ds r A' c' (by omega) (by omega)
    have cm := fun g (r : List Value) => ct_laws_markShort1 ee 0 neg g (ds.length + r.length) ds r (by omega)
    have ch := fun g (r : List Value) => ct_laws_heldShort1 ee 0 neg g ds.length (ds.length + r.length) r (by omega) (by omega)
    have zk : decide (((1 + ds.length : Nat) : Int) < 0) = false := decide_eq_false (by omega)
    have zq : (((1 + ds.length : Nat) : Int) != ((1 + ds.length : Nat) : Int)) = false := by simp
    clear ki0 plain cs ci hds hee sd hln hv hc hu hx
    refine ct_of Tryd.func5 rfl (by kernel_rfl) (fun B w0 => ?_)
    refine xg ?_
    refine xb 3 [.int .u64 (hiI x), .int .u64 (loI x)] 50 (fun g0 => ?_)
    refine xz [] [(4, .bool false)] ?_
    refine xg ?_
    refine xn 2 [(1, [0])] [(11, .agg #[.int .u64 (hiI x), .int .u64 (loI x)]), (10, .int .i64 f)] ?_
    refine xcv 12 cw zs0 ?_
    (refine xck 13 ks zs0 (fun zz => ?_); obtain ⟨z0, z1⟩ := zz)
    refine xb 5 [.slice none 0 0, .int .i64 0, .bool false, .int .i64 0] 52 (fun g1 => ?_)
    refine xy [(5, [1])] [] [(1, [.slice z0 (List.length ds) z1, .int .i64 ee, .bool neg, .int .i64 0])] ?_
    refine xg ?_
    refine xn 2 [(1, [0])] [(15, .agg #[.int .u64 (hiI x), .int .u64 (loI x)]), (14, .int .i64 f)] ?_
    refine xcv 16 cw zs0 ?_
    (refine xcm 17 [false] ki (zsS (ziS zi0) zs0) (fun zz => ?_); obtain ⟨z2, z3⟩ := zz)
    refine xb 6 [.slice none 0 0, .int .i64 0, .bool false, .int .i64 0] 52 (fun g2 => ?_)
    refine xy [(5, [3])] [] [(3, [.slice (some ⟨z2, 0, none⟩) (List.length ds) (List.length ds + List.length z3), .int .i64 ee, .bool neg, .int .i64 0])] ?_
    refine SW_seq ?_
    refine xg ?_
    refine xn 2 [(0, [3]), (1, [1])] [(19, .agg #[.slice z0 (List.length ds) z1, .int .i64 ee, .bool neg, .int .i64 0]), (18, .agg #[.slice (some ⟨z2, 0, none⟩) (List.length ds) (List.length ds + List.length z3), .int .i64 ee, .bool neg, .int .i64 0])] ?_
    refine xcm 20 [false, false, true] (ce (z2) (z3) (z0) (z1)) (zsS zi0 zs0) (fun z4 => ?_)
    refine xz [] [(21, .bool false)] ?_
    refine xs0 ?_
    refine SW_skip ?_
    refine xr [] [(7, .int .i64 1)] ?_
    refine xg ?_
    refine xn 2 [(0, [3])] [(23, .int .i64 1), (22, .agg #[.slice (some ⟨z2, 0, none⟩) (List.length ds) (List.length ds + List.length z3), .int .i64 ee, .bool neg, .int .i64 0])] ?_
    refine xcm 24 [false, false, true] (cm (z2) (z3)) zs0 (fun z5 => ?_)
    refine xz [] [(7, .int .i64 (((1 + List.length ds) : Nat) : Int))] ?_
    refine xr [] [(8, .int .i64 1)] ?_
    refine xg ?_
    refine xn 2 [(0, [3])] [(26, .int .i64 1), (25, .agg #[.slice (some ⟨z2, 0, none⟩) (List.length ds) (List.length ds + List.length z3), .int .i64 ee, .bool neg, .int .i64 0])] ?_
    refine xcm 27 [false, false, true] (ch (z2) (z3)) zs0 (fun z6 => ?_)
    refine xz [] [(8, .int .i64 (((1 + List.length ds) : Nat) : Int))] ?_
    refine SW_seq ?_
    refine xr [] [(29, .bool (decide ((((1 + List.length ds) : Nat) : Int) < 0)))] ?_
    refine xsf zk ?_
    refine SW_skip ?_
    refine SW_seq ?_
    refine xr [] [(32, .bool ((((1 + List.length ds) : Nat) : Int) != (((1 + List.length ds) : Nat) : Int)))] ?_
    refine xsf zq ?_
    refine SW_skip ?_
    refine xg ?_
    refine xn 2 [(1, [0])] [(34, .agg #[.int .u64 (hiI x), .int .u64 (loI x)]), (33, .int .i64 f)] ?_
    refine xcv 35 cw zs0 ?_
    (refine xcm 36 [false] ki (zsS (ziS zi0) zs0) (fun zz => ?_); obtain ⟨z7, z8⟩ := zz)
    refine xb 9 [.slice none 0 0, .int .i64 0, .bool false, .int .i64 0] 52 (fun g3 => ?_)
    refine xy [(5, [5])] [] [(5, [.slice (some ⟨z7, 0, none⟩) (List.length ds) (List.length ds + List.length z8), .int .i64 ee, .bool neg, .int .i64 0])] ?_
    refine SW_seq ?_
    refine xg ?_
    refine xn 2 [(0, [5]), (1, [1])] [(38, .agg #[.slice z0 (List.length ds) z1, .int .i64 ee, .bool neg, .int .i64 0]), (37, .agg #[.slice (some ⟨z7, 0, none⟩) (List.length ds) (List.length ds + List.length z8), .int .i64 ee, .bool neg, .int .i64 0])] ?_
    refine xcm 39 [false, false, false, false, true] (ce (z7) (z8) (z0) (z1)) (zsS zi0 zs0) (fun z9 => ?_)
    refine xz [] [(40, .bool false)] ?_
    refine xs0 ?_
    refine SW_skip ?_
    refine xr [] [(8, .int .i64 1)] ?_
    refine xg ?_
    refine xn 2 [(0, [3])] [(42, .int .i64 1), (41, .agg #[.slice (some ⟨z2, 0, none⟩) (List.length ds) (List.length ds + List.length z3), .int .i64 ee, .bool neg, .int .i64 0])] ?_
    refine xcm 43 [false, false, true] (ch (z2) (z3)) zs0 (fun z10 => ?_)
    refine xz [] [(8, .int .i64 (((1 + List.length ds) : Nat) : Int))] ?_
    refine SW_seq ?_
    refine xr [] [(45, .bool (decide ((((1 + List.length ds) : Nat) : Int) < 0)))] ?_
    refine xsf zk ?_
    refine SW_skip ?_
    refine SW_seq ?_
    refine xr [] [(48, .bool ((((1 + List.length ds) : Nat) : Int) != (((1 + List.length ds) : Nat) : Int)))] ?_
    refine xsf zq ?_
    refine SW_skip ?_
    refine xr [] [(4, .bool true)] ?_
    refine SW_ret ?_
    refine xe () (.bool true) [] ?_ trivial
    rfl
   ·rw [hu, prtV] at cs ci
    have hc2 : c = 0 ∨ c = 1 ∨ c = 4 ∨ c = 5 := by rcases hv with ⟨z, _⟩ | ⟨z, _⟩ | ⟨z, _⟩ | ⟨z, _⟩ <;> omega
    exact plain _ _ _ (ct_spec_Shortest0 d _ _ c hc2 neg _ _ _ cs) (ct_impl_Shortest0 d hf4 _ _ c hc2 neg _ _ _ ci)
 ·exact plain _ _ _ (ct_spec_Shortest4 f hs _ _) (ct_impl_Shortest4 f hf4 _ _)
end Go.Proofs.YtgknelgplmohoaaDoor.M
end
