import Derived.RangeFuncRecord
import Derived.Laws.ResultCell
import Derived.Test.YtlggnljibebfeaaQFnNatTexti
section
namespace Go.Proofs.Ytlggnljibebfeaa.X
open Go.RowKit Go.Proofs.YtlggnljibebfeaaV.PrintWords Go.Proofs.YtlggnljibebfeaaV.PrintLast
set_option linter.unusedVariables false
set_option linter.unusedSimpArgs false
abbrev loopO (st : LoopState) (fn : FuncId) (tm : Array Value) (ps : Array Tmp) (asg body : Code) (D : Nat) : Obj := .loop { state := st, pending := none, fn := fn, tmps := tm, params := ps, assign := asg, body := body, defers := D }
def CtY (P : Program) (l : Nat) (args : List Value) (bs : List Box) (pre : List Fact) {γ : Type} (val : γ → Value) (bs' : γ → List Box) (post : γ → List Fact) : Prop :=
  ∀ (B : List Nat) (w : World), (∀ k ∈ B, k < w.heap.size ∧ k ∉ bs.map Box.id) → WB bs w → (bs.map Box.id).Nodup → (∀ F ∈ pre, Foot F w (away B bs)) →
    ∃ f tmps asg body, (Instr.yield l args.toArray).run P w = .ok (.round l f tmps asg body) w ∧
      RoundIn Fence.wide 0 P l f tmps asg body w fun e w' => ∃ g : γ, e = .returned (val g) ∧ Holds ⟨P, 0, B, ⟨w, bs.map Box.id, []⟩, none⟩ ⟨[], bs' g, post g⟩ w'
theorem CtY.call {P : Program} {l : Nat} {args : List Value} {bs : List Box} {pre : List Fact} {γ : Type} {val : γ → Value} {bs' : γ → List Box} {post : γ → List Fact} (hc : CtY P l args bs pre val bs' post) {X : Cx} (hP : X.P = P) {s : St} {w : World} (hw : Holds X s w) (m : List Bool) (hm : pick s.bs m = bs) (hp : Sub pre s.fs) (e : List (Nat × Value)) :
    ∃ f tmps asg body, (Instr.yield l args.toArray).run P w = .ok (.round l f tmps asg body) w ∧
      RoundIn Fence.wide 0 P l f tmps asg body w fun en w' => ∃ g : γ, en = .returned (val g) ∧ Holds X ⟨e, plug s.bs m (bs' g), post g ++ s.fs⟩ w' := by
  subst hm
  have hperm := pick_perm s.bs m
  have hmem : ∀ b, b ∈ s.bs ↔ b ∈ pick s.bs m ∨ b ∈ rest s.bs m := fun b => by rw [← hperm.mem_iff, List.mem_append]
  have hnd : ((pick s.bs m).map Box.id ++ (rest s.bs m).map Box.id).Nodup := by
    rw [← List.map_append]
    exact (hperm.map Box.id).nodup_iff.2 hw.nodup
  obtain ⟨f, tmps, asg, body, hy, hr⟩ := hc (X.B ++ (rest s.bs m).map Box.id) w (fun k hk => by
    rcases List.mem_append.1 hk with hk | hk
    · refine ⟨Nat.lt_of_lt_of_le (hw.old k hk).1 hw.below.size, fun hm2 => ?_⟩
      obtain ⟨b, hb, rfl⟩ := List.mem_map.1 hm2
      exact (hw.new b ((hmem b).2 (.inl hb))).elim (fun z => absurd (hw.old _ hk).1 (Nat.not_lt.2 z)) (hw.old _ hk).2
    · obtain ⟨b, hb, rfl⟩ := List.mem_map.1 hk
      exact ⟨wb_lt hw.box b ((hmem b).2 (.inr hb)), fun hm2 => (List.nodup_append.1 hnd).2.2 _ hm2 _ hk rfl⟩) (fun b hb => hw.box b ((hmem b).2 (.inl hb))) (List.nodup_append.1 hnd).1 (fun F hF => (hw.fact F (hp.mem F hF)).mono (fun k hk => by
    refine ⟨fun hB => ?_, fun b hb e => hk.2 b ((hmem b).2 (.inl hb)) e⟩
    rcases List.mem_append.1 hB with hB | hB
    · exact hk.1 hB
    · obtain ⟨b, hb, e⟩ := List.mem_map.1 hB
      exact hk.2 b ((hmem b).2 (.inr hb)) e.symm))
  refine ⟨f, tmps, asg, body, hy, hr.mono ?_⟩
  rintro en w' ⟨g, rfl, h2⟩
  subst hP
  exact ⟨g, rfl, hw.back e h2⟩
section
variable {X : Cx} {env : List (Nat × Value)} {bs : List Box} {fs : List Fact} {K : Exit → St → Prop} {ops : Array Oper} {i : Nat}
theorem xcy (d : Nat) (m : List Bool) {l : Nat} {args : List Value} {bq : List Box} {pre : List Fact} {γ : Type} {val : γ → Value} {bs' : γ → List Box} {post : γ → List Fact} {o : Oper} (hc : CtY X.P l args bq pre val bs' post) (hp : Sub pre fs)
    (h : ∀ g, NW X ops (Nat.succ i) ⟨(d, val g) :: env, plug bs m (bs' g), post g ++ fs⟩ K)
    (ho : ops[i]? = some o := by rfl) (hg : guardD ops env o = some true := by kernel_rfl) (hf : fitO X.n env o = true := by kernel_rfl) (hd : o.dst = some d := by rfl)
    (hr : ∀ w, (execOp (evD env) o).run X.P w = (Instr.yield l args.toArray).run X.P w := by intro w; kernel_rfl) (hm : pick bs m = bq := by kernel_rfl) : NW X ops i ⟨env, bs, fs⟩ K := by
  obtain ⟨h1, h2, h3⟩ := fitO_spec hf
  refine NW_on (s := ⟨env, bs, fs⟩) ho hg (fun a w ha hw => ?_)
  obtain ⟨f, tmps, asg, body, hy, hr2⟩ := hc.call rfl hw m hm hp env
  refine opIn (r := .ok (.round l f tmps asg body) w) h2 (by rw [ha.exec h2 h3, hr w]; exact hy) ?_
  rw [Oper.uponIn_round]
  refine ⟨fun z => (by cases z), hr2.mono ?_⟩
  rintro en w' ⟨g, rfl, hw'⟩
  have ha' : Agree X.fr ⟨env, plug bs m (bs' g), post g ++ fs⟩ a := ⟨ha.size, ha.defers, ha.env⟩
  rw [hd]
  exact h g _ _ (ha'.put (some d) (by rw [← hd]; exact dstOk_lt h1) _) (hw'.put (some d) _)
end
def RetY (X : Cx) (lb : Box) (lr : Box) {γ : Type} (bs' : γ → List Box) (post : γ → List Fact) : Exit → St → Prop
  | .normal, s => ∃ g m bsx, s.bs = lb :: bsx ∧ bs' g = lr :: pick bsx m ∧ Sub (post g) s.fs
  | _, _ => False
theorem RetY.calm {X : Cx} {lb lr : Box} {γ : Type} {bs' : γ → List Box} {post : γ → List Fact} : Calm (RetY X lb lr bs' post) := fun _ _ h => h
theorem Holds.weak {X : Cx} {s t : St} {w : World} (h : Weak s t) (hw : Holds X s w) : Holds X t w :=
  ⟨hw.below, h.bs ▸ hw.box, h.bs ▸ hw.new, h.bs ▸ hw.nodup, fun F hF => (by
    have := hw.fact F (h.fs.mem F hF)
    rw [h.bs] at this
    exact this), hw.old⟩
theorem Agree.weak {n : Nat × List Deferred} {s t : St} {a : Act} (h : Weak s t) (ha : Agree n s a) : Agree n t a := ⟨ha.size, ha.defers, fun i v hv => ha.env i v (h.env i v hv)⟩
theorem cy_of {P : Program} {n : Nat} {fn : FuncId} {tm : Array Value} {t : Tmp} {asg body : Code} {D l : Nat} {env0 env1 : List (Nat × Value)} {v : Value} {bs0 : List Box} {pre : List Fact} {γ : Type} {bs' : γ → List Box} {post : γ → List Fact} (hT : Agree (n, []) ⟨env0, [], []⟩ ⟨tm, []⟩) (ht : t < n)
    (ha : ∀ B w0, SW ⟨P, n, B, w0, some l⟩ asg ⟨(t, v) :: env0, ⟨l, [], .ob (loopO .ready fn tm #[t] asg body D)⟩ :: bs0, pre⟩ (thenK (fun s' => Weak s' ⟨env1, ⟨l, [], .ob (loopO .ready fn tm #[t] asg body D)⟩ :: bs0, pre⟩) (fun _ _ => False)))
    (hb : ∀ B w0, SW ⟨P, n, B, w0, some l⟩ body ⟨env1, ⟨l, [], .ob (loopO .busy fn tm #[t] asg body D)⟩ :: bs0, pre⟩ (RetY ⟨P, n, B, w0, some l⟩ ⟨l, [], .ob (loopO .busy fn tm #[t] asg body D)⟩ ⟨l, [], .ob (loopO .ready fn tm #[t] asg body D)⟩ bs' post)) :
    CtY P l [v] (⟨l, [], .ob (loopO .ready fn tm #[t] asg body D)⟩ :: bs0) pre (γ := γ) (fun _ => .bool true) bs' post := by
  intro B w hB hbs hnd hp
  have hl : w.heap[l]? = some (loopO .ready fn tm #[t] asg body D) := hbs _ (List.mem_cons_self ..)
  have hy : (Instr.yield l [v].toArray).run P w = .ok (.round l fn (tm.setIfInBounds t v) asg body) w := by
    have := run_yield (P := P) (args := #[v]) hl rfl
    simpa using this
  refine ⟨_, _, _, _, hy, roundIn_of_wpIn trivial ?_⟩
  have h0 : Holds ⟨P, n, B, ⟨w, (⟨l, [], .ob (loopO .ready fn tm #[t] asg body D)⟩ :: bs0 : List Box).map Box.id, []⟩, some l⟩ ⟨(t, v) :: env0, ⟨l, [], .ob (loopO .ready fn tm #[t] asg body D)⟩ :: bs0, pre⟩ w :=
    ⟨Kept.of (Below.refl _ _), hbs, fun b hb => .inr (List.mem_map_of_mem hb), hnd, hp, hB⟩
  have hag : Agree (n, []) ⟨(t, v) :: env0, ⟨l, [], .ob (loopO .ready fn tm #[t] asg body D)⟩ :: bs0, pre⟩ { tmps := tm.setIfInBounds t v, defers := [] } := by
    have := hT.put (some t) (fun k hk => by cases hk; exact ht) v
    exact ⟨this.size, this.defers, this.env⟩
  refine wpIn_mono (ha B _ _ w hag h0) ?_
  rintro e a1 w1 ⟨s1, ha1, hw1, hk1⟩
  cases e with
  | normal =>
    have ha2 := ha1.weak hk1
    have hw2 := hw1.weak hk1
    have hl1 : w1.heap[l]? = some (loopO .ready fn tm #[t] asg body D) := hw2.box _ (List.mem_cons_self ..)
    refine ⟨_, run_beginRound hl1 rfl, ?_⟩
    have hx := putB_ext (h := 0) (loopO .busy fn tm #[t] asg body D) (b := ⟨l, [], .ob (loopO .ready fn tm #[t] asg body D)⟩) (bs := ⟨l, [], .ob (loopO .ready fn tm #[t] asg body D)⟩ :: bs0) rfl rfl hw2.box hw2.nodup
    have hw3 := hw2.ext hx env1
    refine wpIn_mono (hb B _ a1 _ ⟨ha2.size, ha2.defers, ha2.env⟩ hw3) ?_
    rintro e a4 w4 ⟨s4, ha4, hw4, hk4⟩
    cases e with
    | normal =>
      obtain ⟨g, m, bsx, e1, e2, hsub⟩ := hk4
      have hl4 : w4.heap[l]? = some (loopO .busy fn tm #[t] asg body D) := hw4.box ⟨l, [], .ob (loopO .busy fn tm #[t] asg body D)⟩ (by rw [e1]; exact List.mem_cons_self ..)
      refine ⟨_, _, run_endRound none hl4, g, rfl, ?_⟩
      have hx4 := putB_ext (h := 0) (loopO .ready fn tm #[t] asg body D) (b := ⟨l, [], .ob (loopO .busy fn tm #[t] asg body D)⟩) (bs := s4.bs) (by rw [e1]; rfl) rfl hw4.box hw4.nodup
      have hw5 := hw4.ext hx4 []
      rw [e1] at hw5
      have hnd5 := hw5.nodup
      have hsubl : List.Sublist (⟨l, [], .ob (loopO .ready fn tm #[t] asg body D)⟩ :: pick bsx m) (putB (⟨l, [], .ob (loopO .busy fn tm #[t] asg body D)⟩ :: bsx) 0 (loopO .ready fn tm #[t] asg body D)) := (pick_sub bsx m).cons_cons _
      have hw6 := hw5.sub (bs' := ⟨l, [], .ob (loopO .ready fn tm #[t] asg body D)⟩ :: pick bsx m) (fun b hb => hsubl.subset hb) ((hsubl.map Box.id).nodup hnd5) []
      rw [e2]
      exact ⟨hw6.below, hw6.box, hw6.new, hw6.nodup, fun F hF => hw6.fact F (hsub.mem F hF), hw6.old⟩
    | _ => exact hk4.elim
  | _ => exact hk1.elim
section
variable {X : Cx} {env : List (Nat × Value)} {bs : List Box} {fs : List Fact} {Q : Post}
theorem SQ_block {id : Nat} {c : Code} {s : St} (h : SQ X c s (Exit.inBlock id Q)) : SQ X (.block id c) s Q := fun a w ha hw => wpIn_block (h a w ha hw)
theorem SQ_range {gop : Operand} {ps : Array Tmp} {asg body : Code} (gf : FuncId) (cap : Array Value) (hg : ev env gop = some (.func (.func gf) #[] cap)) (he : ∀ args w, (callFunc gf args).run X.P w = .ok (.enter gf args) w) (hrd : X.rd = none)
    (h : ∀ (fn : FuncId) (tm : Array Value) (D l : Nat), Agree (X.n, []) ⟨env, [], []⟩ ⟨tm, []⟩ → ∀ w, Holds X ⟨env, bs ++ [⟨D, [], .ob (.deferred (some []))⟩] ++ [⟨l, [], .ob (loopO .ready fn tm ps asg body D)⟩], fs⟩ w →
      Calls X.P gf (#[.func (.yield l) #[] #[]] ++ cap) w fun e w' => ∃ v bs2 fs2 h2, e = .returned v ∧ Holds X ⟨env, bs2, fs2⟩ w' ∧ bs2[h2]? = some ⟨l, [], .ob (loopO .ready fn tm ps asg body D)⟩ ∧
        ∀ a w, Agree (X.push ⟨.collected D, #[]⟩).fr ⟨env, putB bs2 h2 (loopO .exhausted fn tm ps asg body D), fs2⟩ a → Holds (X.push ⟨.collected D, #[]⟩) ⟨env, putB bs2 h2 (loopO .exhausted fn tm ps asg body D), fs2⟩ w → Q .normal a w) :
    SQ X (.rangeFunc gop ps asg body) ⟨env, bs, fs⟩ Q := by
  intro a w ha hw
  refine wpIn_rangeFunc (fun fn _ => ?_)
  have hr0 : X.F.round = none := hrd
  rw [hr0]
  have hev : a.eval gop = .func (.func gf) #[] cap := ha.ev hg
  have hw1 : Holds X ⟨env, bs ++ [⟨w.heap.size, [], .ob (.deferred (some []))⟩], fs⟩ (w.alloc (.deferred (some []))) := hw.ext (newO_ext ⟨w.heap.size, [], .ob (.deferred (some []))⟩ rfl hw.box hw.nodup) env
  have hs1 : w.heap.size + 1 = (w.alloc (.deferred (some []))).heap.size := (World.size_alloc w _).symm
  have hw2 : Holds X ⟨env, bs ++ [⟨w.heap.size, [], .ob (.deferred (some []))⟩] ++ [⟨w.heap.size + 1, [], .ob (loopO .ready fn a.tmps ps asg body w.heap.size)⟩], fs⟩ ((w.alloc (.deferred (some []))).alloc (loopO .ready fn a.tmps ps asg body w.heap.size)) := hw1.ext (newO_ext ⟨w.heap.size + 1, [], .ob (loopO .ready fn a.tmps ps asg body w.heap.size)⟩ hs1 hw1.box hw1.nodup) env
  have hel := run_enterLoop_outer (P := X.P) (w := w) fn a.tmps ps asg body
  have hcall := h fn a.tmps w.heap.size (w.heap.size + 1) ⟨ha.size, rfl, ha.env⟩ _ hw2
  generalize hW : (w.alloc (.deferred (some []))).alloc (loopO .ready fn a.tmps ps asg body w.heap.size) = W at hcall hw2
  have hel' : (Instr.enterLoop fn a.tmps ps asg body none).run X.P w = .ok (w.heap.size + 1, [{ target := .collected w.heap.size, args := #[] }]) W := by rw [← hW]; exact hel
  clear hel hW hw1
  have hres : (resolve a.eval (rangeCall gop (w.heap.size + 1)) 0).run X.P W = .ok ⟨.fn (.func gf) cap, #[.func (.yield (w.heap.size + 1)) #[] #[]]⟩ W := by
    simp only [resolve, hev]
    simp [go_sem]
  have hinv : (invoke (.fn (.func gf) cap) #[.func (.yield (w.heap.size + 1)) #[] #[]]).run X.P W = .ok (.enter gf (#[.func (.yield (w.heap.size + 1)) #[] #[]] ++ cap)) W := by
    simp [invoke, go_sem, he]
  have hfin : Calls X.P gf (#[.func (.yield (w.heap.size + 1)) #[] #[]] ++ cap) W (rangePost X.F 0 X.P (w.heap.size + 1) Q { a with defers := [{ target := .collected w.heap.size, args := #[] }] ++ a.defers }) := by
    refine hcall.mono ?_
    rintro e w' ⟨v, bs2, fs2, h2, rfl, hw3, hb2, hq⟩
    have hl : w'.heap[w.heap.size + 1]? = some (loopO .ready fn a.tmps ps asg body w.heap.size) := hw3.box _ (List.mem_of_getElem? hb2)
    refine ⟨none, _, run_endLoop hl (by simp), ?_⟩
    have hx4 := putB_ext (h := h2) (loopO .exhausted fn a.tmps ps asg body w.heap.size) hb2 rfl hw3.box hw3.nodup
    have hw4 := (hw3.ext hx4 env).push ⟨.collected w.heap.size, #[]⟩
    refine hq _ _ ⟨ha.size, ?_, ha.env⟩ hw4
    show _ :: a.defers = _ :: X.w0.df
    rw [ha.defers]
  have hf2 := callsX (X := X) (n := 0 - 1) hfin
  have hdep : X.F.depth.isSome = true → 1 ≤ 0 := fun z => (by cases z)
  refine ⟨w.heap.size + 1, [{ target := .collected w.heap.size, args := #[] }], W, ⟨.fn (.func gf) cap, #[.func (.yield (w.heap.size + 1)) #[] #[]]⟩, W, gf, #[.func (.yield (w.heap.size + 1)) #[] #[]] ++ cap, W, hel', hres, fun _ _ => trivial, hinv, hdep, ?_⟩
  exact hf2
end
abbrev LvM (P : Program) (fn : Func) (R : Ending → World → Prop) (a : Act) (w : World) : Prop := LeavesInM Fence.wide 0 P fn a.tmps R a.defers .returning w
theorem RetL.postM {X : Cx} {fn : Func} {R : Ending → World → Prop} : ∀ e a w, Lift X (RetL X fn (LvM X.P fn R)) e a w → bodyPostM Fence.wide 0 X.P fn R e a w := by
  rintro e a w ⟨s, ha, hw, hk⟩
  cases e with
  | normal => exact hk a w ha hw
  | ret => exact hk a w ha hw
  | _ => exact hk.elim
theorem cm_ofY {P : Program} {f : FuncId} {fn : Func} {c : Code} {args : List Value} {bs : List Box} {pre : List Fact} {γ : Type} {val : γ → Value} {bs' : γ → List Box} {post : γ → List Fact} (hf : P.funcs[f]? = some fn) (hb : fn.body = some c) (hn : Nat.ble args.length fn.ntmps = true)
    (h : ∀ B w (M : List Nat), SQ ⟨P, fn.ntmps, B, ⟨w, M, []⟩, none⟩ c ⟨argEnv args 0, bs, pre⟩ (bodyPostM Fence.wide 0 P fn (LeftM P B ⟨w, M, []⟩ val bs' post))) : CtM P f args bs pre val bs' post := by
  intro B w hB hbs hnd hp
  have hn' := Nat.le_of_ble_eq_true hn
  have hag : Agree (fn.ntmps, []) ⟨argEnv args 0, bs, pre⟩ { tmps := args.toArray ++ Array.replicate (fn.ntmps - args.toArray.size) undef, defers := [] } := by
    refine ⟨by simp; omega, rfl, fun t v hl => ?_⟩
    obtain ⟨_, h2⟩ := look_arg args 0 t v hl
    have hlt : t < args.length := (List.getElem?_eq_some_iff.1 (by simpa using h2)).1
    rw [Array.getElem?_append_left (by simpa using hlt)]
    simpa using h2
  have h0 : Holds ⟨P, fn.ntmps, B, ⟨w, bs.map Box.id, []⟩, none⟩ ⟨argEnv args 0, bs, pre⟩ w :=
    ⟨Kept.of (Below.refl _ _), hbs, fun b hb => .inr (List.mem_map_of_mem hb), hnd, hp, hB⟩
  exact callsIn_wide.1 (callsIn_of_wp_marks (n := 0) hf hb trivial (h B w (bs.map Box.id) _ w hag h0))
theorem leave_range {P : Program} {n : Nat} {B M : List Nat} {w0 : World} {fn : Func} {γ : Type} {val : γ → Value} {bs' : γ → List Box} {post : γ → List Fact} {env : List (Nat × Value)} {bs : List Box} {fs : List Fact} (h D : Nat) (g0 : γ) (m : List Bool) (hs : List Nat) (v : Value)
    (hv : v = val g0) (hm : bs' g0 = pick (putB bs h (.deferred none)) m) (hsub : Sub (post g0) fs) (hb : bs[h]? = some ⟨D, [], .ob (.deferred (some []))⟩ := by rfl)
    (ho : outN P fn ⟨env, putB bs h (.deferred none), fs⟩ hs = some (v, fsts (psO (outN P fn ⟨env, putB bs h (.deferred none), fs⟩ hs))) := by kernel_rfl) :
    RetL (Cx.push ⟨P, n, B, ⟨w0, M, []⟩, none⟩ ⟨.collected D, #[]⟩) fn (LvM P fn (LeftM P B ⟨w0, M, []⟩ val bs' post)) .ret ⟨env, bs, fs⟩ := by
  intro a w ha hw
  have hd : a.defers = [⟨.collected D, #[]⟩] := ha.defers
  show LeavesInM Fence.wide 0 P fn a.tmps _ a.defers .returning w
  rw [hd]
  have hbw : w.heap[D]? = some (.deferred (some [])) := hw.box _ (List.mem_of_getElem? hb)
  refine ⟨(by intro h; cases h), .inl ⟨D, _, rfl, run_takeDeferred hbw, ?_⟩⟩
  have hx : Holds ⟨P, n, B, ⟨w0, M, []⟩, none⟩ ⟨env, putB bs h (.deferred none), fs⟩ (w.putObj D (.deferred none)) := by
    have h3 := hw.ext (putB_ext (.deferred none) hb rfl hw.box hw.nodup) env
    exact ⟨⟨h3.below.os, h3.below.tape, h3.below.output, h3.below.size, h3.below.block⟩, h3.box, h3.new, h3.nodup, h3.fact, h3.old⟩
  have ha2 : Agree (n, []) ⟨env, putB bs h (.deferred none), fs⟩ ⟨a.tmps, []⟩ := ⟨ha.size, rfl, ha.env⟩
  exact left_end (P := P) ha2 hx g0 m hs _ (by rw [← fsts_dup, ← hv]; exact ho) hm hsub
end Go.Proofs.Ytlggnljibebfeaa.X
end
section
namespace Go.Proofs.Ytlggnljibebfeaa.M
open Go.RowKit Go.Proofs.Ytlggnljibebfeaa.G Go.Proofs.YtlggnljibebfeaaV.PrintWords Go.Proofs.YtlggnljibebfeaaV.PrintLast Go.Proofs.Ytlggnljibebfeaa.X
set_option linter.unusedVariables false
set_option linter.unusedSimpArgs false
theorem ct_spec_l1Fits (n c : Nat) (A : Option Addr) (b : Bool) (hb : decide (n ≤ 1200) = b) : CtV Try.prog 45 [.slice A n c] [] (.bool b) := by
 subst hb
 refine ct_of Try.func45 rfl (by kernel_rfl) (fun B w0 => ?_)
 have e : decide ((n : Int) ≤ 1200) = decide (n ≤ 1200) := by rw [decide_eq_decide]; omega
 refine xr [] [(2, .bool false)] ?_
 refine xr [] [(2, .bool (decide ((n : Int) ≤ 1200)))] ?_
 refine SW_ret ?_
 refine xe () (.bool (decide ((n : Int) ≤ 1200))) [] ?_ trivial
 rw [e]
theorem trim_ofN {a : List Int} (d : Dig B64 a) : trimL a = ofN B64 (val B64 a) := ofN_of B64_2 d.trim (norm_trim a) (val_trim B64 a)
theorem isBits_ex (v : Nat) : ∃ n, IsBits v n := by
 by_cases h : v = 0
 ·exact ⟨0, h ▸ IsBits.zero⟩
 ·exact ⟨Nat.log2 v + 1, Nat.lt_log2_self, .inr (Nat.log2_self_le h)⟩
theorem fits_bits {a : List Int} (d : Dig B64 a) (h : a.length ≤ 1200) : ∃ m, IsBits (val B64 a) m ∧ m ≤ 76800 := by
 obtain ⟨m, hm⟩ := isBits_ex (val B64 a)
 have h1 := val_lt d
 rw [show B64 = 2 ^ 64 from rfl, ← Nat.pow_mul] at h1
 have h2 := hm.le (w := 64 * a.length) h1
 exact ⟨m, hm, by omega⟩
theorem len1200 {x m : Nat} (hm : x < 2 ^ m) (h : m ≤ 76800) : (ofN B64 x).length ≤ 1200 := by
 obtain ⟨k, hk⟩ : ∃ k : Nat, k = 1200 := ⟨_, rfl⟩
 have h1 : x < B64 ^ k := by
  rw [show B64 = 2 ^ 64 from rfl, ← Nat.pow_mul]
  exact Nat.lt_of_lt_of_le hm (Nat.pow_le_pow_right (by decide) (by omega))
 have := ofN_len B64_2 h1
 omega
end Go.Proofs.Ytlggnljibebfeaa.M
end
section
namespace Go.Proofs.Ytlggnljibebfeaa.M
open Go.RowKit Go.Proofs.Ytlggnljibebfeaa.G Go.Proofs.YtlggnljibebfeaaV.PrintWords Go.Proofs.YtlggnljibebfeaaV.PrintLast Go.Proofs.Ytlggnljibebfeaa.X
set_option linter.unusedVariables false
set_option linter.unusedSimpArgs false
def digN (d : Nat) : Nat → List Int
 | 0 => []
 | n + 1 => digN d n ++ [((48 + d / 10 ^ n % 10 : Nat) : Int)]
theorem digN_len (d n : Nat) : (digN d n).length = n := by
 induction n with
 | zero => rfl
 | succ n ih => simp [digN, ih]
def lowD : Nat → Nat → List Int
 | 0, _ => []
 | f + 1, x => if x = 0 then [] else digN (x % 10000000000000000000) 19 ++ lowD f (x / 10000000000000000000)
theorem lowD_more : ∀ (f g x : Nat), x ≤ f → x ≤ g → lowD f x = lowD g x
 | 0, 0, _, _, _ => rfl
 | 0, g + 1, x, h, _ => by
  obtain rfl : x = 0 := by omega
  simp [lowD]
 | f + 1, 0, x, _, h => by
  obtain rfl : x = 0 := by omega
  simp [lowD]
 | f + 1, g + 1, x, h1, h2 => by
  by_cases hx : x = 0
  ·simp [lowD, hx]
  ·simp only [lowD, if_neg hx]
   rw [lowD_more f g (x / 10000000000000000000) (by omega) (by omega)]
theorem lowD_step {x : Nat} (hx : x ≠ 0) : lowD x x = digN (x % 10000000000000000000) 19 ++ lowD (x / 10000000000000000000) (x / 10000000000000000000) := by
 obtain ⟨f, rfl⟩ : ∃ f, x = f + 1 := ⟨x - 1, by omega⟩
 rw [lowD, if_neg hx, lowD_more f ((f + 1) / 10000000000000000000) _ (by omega) (Nat.le_refl _)]
def OB (gO gB : Nat) (O : List Int) (r : List Value) (c : Nat) : List Box := [⟨gO, [.slice (some ⟨gB, 0, none⟩) O.length c], 23⟩, ⟨gB, cl .u8 O r, 5⟩]
abbrev OG (n : Nat) : Type := {p : Nat × List Value × Nat // n + p.2.1.length = p.2.2}
abbrev OGb (gO : Nat) (O : List Int) (p : OG O.length) : List Box := OB gO p.1.1 O p.1.2.1 p.1.2.2
theorem divWord_n (x : Nat) (A : Option Addr) (c : Nat) (hx : Sm x) (d : Nat) (hd : 0 < d) (hdB : d < 18446744073709551616) : CtRV Try.prog 122 [.slice A (ofN B64 x).length c, .int .u64 (d : Int)] [Row .u64 A c (ofN B64 x)] .u64 (ofN B64 (x / d)) (.int .u64 ((x % d : Nat) : Int)) := by
 obtain ⟨d1, n1, v1⟩ := ofN_spec B64_2 x
 obtain ⟨d2, n2, v2⟩ := ofN_spec B64_2 (x / d)
 have hl := hx.len64
 have := ct_impl_nat_divWord_rows _ A c d d1 (by omega) hd hdB _ d2 n2 (by rw [v2, v1])
 rw [v1] at this
 exact this
theorem ct_impl_nat_groups_1 (gA gO l : Nat) (lo : Obj) (x : Nat) (hx : Sm x) (A : Option Addr) (cA : Nat)
  (hy : ∀ (d : Nat) (O : List Int) (gB : Nat) (r : List Value) (c : Nat), d < 10000000000000000000 → O.length + r.length = c → O.length ≤ 1000000 → CtY Try.prog l [.int .u64 (d : Int)] (⟨l, [], .ob lo⟩ :: OB gO gB O r c) [] (γ := OG (O ++ digN d 19).length) (fun _ => .bool true) (fun p => ⟨l, [], .ob lo⟩ :: OGb gO (O ++ digN d 19) p) (fun _ => [])) :
  ∀ (O : List Int) (gB : Nat) (r : List Value) (c : Nat), O.length + r.length = c → O.length + (lowD x x).length ≤ 900000 →
  CtM Try.prog 121 [.func (.yield l) #[] #[], .pointer (some ⟨gA, 0, none⟩)] ([⟨l, [], .ob lo⟩, ⟨gA, [.slice A (ofN B64 x).length cA], 77⟩] ++ OB gO gB O r c) [Row .u64 A cA (ofN B64 x)] (γ := OG (O ++ lowD x x).length) (fun _ => .tuple #[]) (fun p => ⟨l, [], .ob lo⟩ :: OGb gO (O ++ lowD x x) p) (fun _ => []) := by
 intro O gB r c hc hlen
 refine cm_of Try.func121 rfl (by kernel_rfl) (fun B w0 => ?_)
 refine SW_block ?_
 refine SW_loopn (fun m s => ∃ (A : Option Addr) (cA : Nat) (O1 : List Int) (gB : Nat) (r : List Value) (c : Nat), O1 ++ lowD m m = O ++ lowD x x ∧ O1.length + r.length = c ∧ m ≤ x ∧ Weak s ⟨[(0, .func (.yield l) #[] #[]), (1, .pointer (some ⟨gA, 0, none⟩))], [⟨l, [], .ob lo⟩, ⟨gA, [.slice A (ofN B64 m).length cA], 77⟩, ⟨gO, [.slice (some ⟨gB, 0, none⟩) O1.length c], 23⟩, ⟨gB, cl .u8 O1 r, 5⟩], [Row .u64 A cA (ofN B64 m)]⟩) x ⟨A, cA, O, gB, r, c, rfl, hc, Nat.le_refl _, ?_⟩ (fun m s hI => ?_)
 ·exact xw (zsS zi0 zs0)
 ·obtain ⟨A, cA, O1, gB, r, c, h1, h2, h3, hw⟩ := hI
  refine SW_weak hw ?_
  clear hw
  by_cases hm : m = 0
  ·subst hm
   rw [ofN_nil B64_2]
   rw [show lowD 0 0 = [] from rfl, List.append_nil] at h1
   subst h1
   refine SW_seq ?_
   refine xr [(0, [1])] [(6, .bool false)] ?_
   refine xs0 ?_
   refine SW_exit ?_
   refine xmfg (.tuple #[]) [] ?_
   exact ⟨⟨(gB, r, c), h2⟩, [true, false, true, true], rfl, rfl, zs0⟩
  ·have sm : Sm m := hx.mono h3
   have hz : 0 < (ofN B64 m).length := by
    rcases Nat.eq_zero_or_pos (ofN B64 m).length with h | h
    ·exact absurd ((ofN_zero B64_2 m).1 h) hm
    ·exact h
   have z : decide (((ofN B64 m).length : Int) > 0) = true := decide_eq_true (by omega)
   have cd := divWord_n m A cA sm 10000000000000000000 (by decide) (by decide)
   have hl1 : O1.length ≤ 900000 := by
    have := congrArg List.length h1
    simp only [List.length_append] at this
    omega
   rw [lowD_step hm, ← List.append_assoc] at h1
   have hlt : m % 10000000000000000000 < 10000000000000000000 := Nat.mod_lt _ (by decide)
   have hle : m / 10000000000000000000 < m := Nat.div_lt_self (by omega) (by decide)
   have cy := hy (m % 10000000000000000000) O1 gB r c hlt h2 (by omega)
   obtain ⟨q, hq⟩ : ∃ q, m / 10000000000000000000 = q := ⟨_, rfl⟩
   obtain ⟨d, hd⟩ : ∃ d, m % 10000000000000000000 = d := ⟨_, rfl⟩
   rw [hq, hd] at h1
   rw [hd] at cy
   rw [hq] at hle
   have cd' : CtRV Try.prog 122 [.slice A (ofN B64 m).length cA, .int .u64 10000000000000000000] [Row .u64 A cA (ofN B64 m)] .u64 (ofN B64 q) (.int .u64 (d : Int)) := by rw [← hq, ← hd]; exact cd
   clear cd hq hd hlt hy
   refine SW_seq ?_
   refine xr [(0, [1])] [(6, .bool (decide ((((List.length (ofN B64 m)) : Nat) : Int) > 0)))] ?_
   refine xst z ?_
   refine SW_skip ?_
   refine SW_block ?_
   refine xr [] [(3, .int .u64 0)] ?_
   refine xg ?_
   refine xn 1 [(0, [1])] [(8, .slice A (List.length (ofN B64 m)) cA)] ?_
   refine xct 9 cd' (zsS zi0 zs0) (fun A0 k0 => ?_)
   refine xy [(5, [1])] [(3, .int .u64 (d : Int))] [(1, [.slice A0 (List.length (ofN B64 q)) k0])] ?_
   refine xg ?_
   refine xn 2 [] [(13, .int .u64 (d : Int)), (12, Value.func (Fn.yield l) #[] #[])] ?_
   refine xcy 14 [true, false, true, true] cy zs0 (fun p => ?_)
   obtain ⟨⟨gB2, r2, c2⟩, hc2⟩ := p
   dsimp only at hc2
   refine xz [] [(15, .bool false)] ?_
   refine xs0 ?_
   refine SW_skip ?_
   refine ⟨q, hle, A0, k0, O1 ++ digN d 19, gB2, r2, c2, h1, hc2, by omega, ?_⟩
   exact xw (zsS zi0 zs0)
end Go.Proofs.Ytlggnljibebfeaa.M
end
section
namespace Go.Proofs.Ytlggnljibebfeaa.X
open Go.RowKit Go.Proofs.YtlggnljibebfeaaV.PrintWords Go.Proofs.YtlggnljibebfeaaV.PrintLast
set_option linter.unusedVariables false
set_option linter.unusedSimpArgs false
abbrev mkB (g : Nat) (cs : List Value) (e : TypeId) (mk : Nat × Nat) : Box := ⟨g, [], .ob (.cells cs.toArray e mk)⟩
theorem run_mark {P : Program} {w : World} {g n c : Nat} {cs : List Value} {t e : TypeId} (hh : w.heap[g]? = some (.cells cs.toArray e (0, 0))) (ht : P.underlying t = some (.slice e)) (he : P.underlying e = some (.int .u8)) :
    (convert t t (.slice (some ⟨g, 0, none⟩) n c)).run P w = .ok (.slice (some ⟨g, 0, none⟩) n c) { w with heap := w.heap.setIfInBounds g (.cells cs.toArray e (cs.length, cs.length + 1)) } := by
  have hsh : w.shape? g = some (e, cs.length) := by
    unfold World.shape?
    rw [hh]
    simp
  have hfr : w.freeze ⟨g, cs.length, none⟩ 1 = { w with heap := w.heap.setIfInBounds g (.cells cs.toArray e (cs.length, cs.length + 1)) } := by
    unfold World.freeze
    rw [if_neg (by decide)]
    congr 1
    obtain ⟨hlt, hg⟩ := Array.getElem?_eq_some_iff.1 hh
    apply Array.ext
    · simp
    · intro i h1 h2
      rw [Array.getElem_modify]
      by_cases h : g = i
      · subst h
        rw [if_pos rfl, hg]
        simp
      · rw [if_neg h, Array.getElem_setIfInBounds]
        rw [if_neg h]
  simp [convert, run_underlying ht, run_underlying he, markStringish, hsh]
  exact hfr
theorem row_mk {w : World} {g c : Nat} {k : IntKind} {xs : List Int} {ty : TypeId} {mk : Nat × Nat} (h : w.heap[g]? = some (.cells (xs.map (Value.int k)).toArray ty mk)) (hx : xs.length ≤ 9223372036854775807) (hc : xs.length ≤ c) : Row k (some ⟨g, 0, none⟩) c xs w := by
  refine ⟨⟨rfl, hx, fun hp => ⟨⟨g, 0, none⟩, rfl, fun i x hi => ⟨[.int k x], rfl, rfl, fun m u hu => ?_⟩⟩⟩, hc⟩
  match m, hu with
  | 0, hu =>
    cases hu
    rw [add_base, Nat.add_zero]
    show w.cell? ⟨g, i * 1, none⟩ = _
    rw [Nat.mul_one, cell_of_row w g i _ ty mk h]
    simp [hi]
  | m + 1, hu => simp at hu
theorem Holds.fzM {X : Cx} {s : St} {w : World} (hw : Holds X s w) {h : Nat} {g c : Nat} {k : IntKind} {xs : List Int} {ty : TypeId} {mk : Nat × Nat} (hb : s.bs[h]? = some (mkB g (xs.map (Value.int k)) ty mk)) (hx : xs.length ≤ 9223372036854775807) (hc : xs.length ≤ c) (e : List (Nat × Value)) : Holds X ⟨e, delB s.bs h, Row k (some ⟨g, 0, none⟩) c xs :: s.fs⟩ w := by
  have h0 := hw.box _ (List.mem_of_getElem? hb)
  have hd := hw.del h e
  refine hd.facts [_] (fun G hG => ?_)
  rw [List.mem_singleton.1 hG]
  intro W' hW
  refine row_mk (ty := ty) (mk := mk) ((hW g ⟨fun hB => ?_, fun b hm he => ?_⟩ (blk_lt h0)).trans h0) hx hc
  · have h1 := hw.old g hB
    exact (hw.new _ (List.mem_of_getElem? hb)).elim (fun h2 => absurd h1.1 (Nat.not_lt.2 h2)) h1.2
  · exact delB_ne hw.nodup hb hm he.symm
section
variable {X : Cx} {env : List (Nat × Value)} {bs : List Box} {fs : List Fact} {K : Exit → St → Prop} {ops : Array Oper} {j : Nat}
theorem xmk (h d g n c : Nat) (cs : List Value) (e : TypeId) {o : Oper} {t : TypeId} {x : Operand} (hk : NW X ops (Nat.succ j) ⟨(d, .slice (some ⟨g, 0, none⟩) n c) :: env, putB bs h (.cells cs.toArray e (cs.length, cs.length + 1)), fs⟩ K)
    (hb : bs[h]? = some ⟨g, cs, e⟩ := by kernel_rfl) (ho : ops[j]? = some o := by rfl) (hop : o.op = .convert t t x := by rfl) (hg : guardD ops env o = some true := by kernel_rfl) (hf : fitO X.n env o = true := by kernel_rfl) (hd : o.dst = some d := by rfl)
    (hx : evD env x = .slice (some ⟨g, 0, none⟩) n c := by kernel_rfl) (ht : X.P.underlying t = some (.slice e) := by kernel_rfl) (he : X.P.underlying e = some (.int .u8) := by kernel_rfl) : NW X ops j ⟨env, bs, fs⟩ K := by
  obtain ⟨h1, h2, h3⟩ := fitO_spec hf
  refine NW_on (s := ⟨env, bs, fs⟩) ho hg (fun a w ha hw => ?_)
  have hrun := run_mark (P := X.P) (n := n) (c := c) (hw.box _ (List.mem_of_getElem? hb)) ht he
  have hex := putB_ext (w := w) (.cells cs.toArray e (cs.length, cs.length + 1)) hb rfl hw.box hw.nodup
  refine opV h2 (v := .slice (some ⟨g, 0, none⟩) n c) (w' := { w with heap := w.heap.setIfInBounds g (.cells cs.toArray e (cs.length, cs.length + 1)) }) (by
    rw [ha.exec h2 h3]
    unfold execOp
    simp only [hop, hx, Sem.run_bind, hrun]
    rfl) ?_
  rw [hd]
  have ha' : Agree X.fr ⟨env, putB bs h (.cells cs.toArray e (cs.length, cs.length + 1)), fs⟩ a := ⟨ha.size, ha.defers, ha.env⟩
  exact hk _ _ (ha'.put (some d) (by rw [← hd]; exact dstOk_lt h1) _) ((hw.ext hex env).put (some d) _)
theorem NW_fzM (h c g : Nat) (k : IntKind) (xs : List Int) (ty : TypeId) (mk : Nat × Nat) (hx : xs.length ≤ 9223372036854775807) (hc : xs.length ≤ c) (hk : NW X ops j ⟨env, delB bs h, Row k (some ⟨g, 0, none⟩) c xs :: fs⟩ K) (hb : bs[h]? = some (mkB g (xs.map (Value.int k)) ty mk) := by kernel_rfl) : NW X ops j ⟨env, bs, fs⟩ K :=
  fun a w ha hw => hk a w ⟨ha.size, ha.defers, ha.env⟩ (hw.fzM hb hx hc env)
end
end Go.Proofs.Ytlggnljibebfeaa.X
end
section
namespace Go.Proofs.Ytlggnljibebfeaa.M
open Go.RowKit Go.Proofs.Ytlggnljibebfeaa.G Go.Proofs.YtlggnljibebfeaaV.PrintWords Go.Proofs.YtlggnljibebfeaaV.PrintLast Go.Proofs.Ytlggnljibebfeaa.X
set_option linter.unusedVariables false
set_option linter.unusedSimpArgs false
theorem Holds_perm {X : Cx} {s : St} {w : World} (h : Holds X s w) (is : List Nat) (bs' : List Box) (hm : is.map (fun i => s.bs[i]?) = bs'.map some) (hn : is.Nodup) : Holds X ⟨s.env, bs', s.fs⟩ w := by
 obtain ⟨k1, k2⟩ := pickI _ _ _ hn hm h.nodup
 exact h.sub (fun b hb => by obtain ⟨i, _, hi⟩ := k2 b hb; exact List.mem_of_getElem? hi) k1 s.env
theorem ct_impl_nat_groups (n c : Nat) (A : Option Addr) : CtM Try.prog 95 [.slice A n c] [] [] (γ := Nat) (fun g => .func (.func 121) #[] #[.pointer (some ⟨g, 0, none⟩)]) (fun g => [⟨g, [.slice A n c], 77⟩]) (fun _ => []) := by
 refine cm_of Try.func95 rfl (by kernel_rfl) (fun B w0 => ?_)
 refine xg ?_
 refine xb 1 [.slice A n c] 77 (fun g0 => ?_)
 refine xz [] [(2, Value.nilFunc)] ?_
 refine xr [] [(2, Value.func (Fn.func 121) #[] #[.pointer (some ⟨g0, 0, none⟩)])] ?_
 refine SW_ret ?_
 refine xmeg (Value.func (Fn.func 121) #[] #[.pointer (some ⟨g0, 0, none⟩)]) [] ?_
 exact ⟨g0, [true], rfl, rfl, zs0⟩
abbrev OW (n : Nat) : Type := {p : Nat × List Value × Nat // n + p.2.1.length = p.2.2}
def strip : List Int → List Int
 | [] => []
 | a :: l => if a = 48 then strip l else a :: l
def digT (x : Nat) : List Int := strip (lowD x x).reverse
def digT0 (x : Nat) : List Int := if digT x = [] then [48] else digT x
def digB (x g : Nat) (r : List Value) : Box := if digT x = [] then mkB g [.int .u8 48] 5 (1, 2) else ⟨g, cl .u8 (digT x) r, 5⟩
def swp (O : List Int) : Nat → List Int
 | 0 => O
 | i + 1 => ((swp O i).set i (rd (swp O i) ((O.length - 1 - i : Nat) : Int))).set (O.length - 1 - i) (rd (swp O i) (i : Int))
theorem swp_len (O : List Int) (i : Nat) : (swp O i).length = O.length := by
 induction i with
 | zero => rfl
 | succ i ih => simp [swp, ih]
theorem swp_get (O : List Int) (i : Nat) (hi : 2 * i ≤ O.length) (k : Nat) : (swp O i)[k]? = if k < i ∨ (O.length - i ≤ k ∧ k < O.length) then O[O.length - 1 - k]? else O[k]? := by
 induction i generalizing k with
 | zero =>
  rw [if_neg (by omega)]
  rfl
 | succ i ih =>
  have h1 := ih (by omega) i
  have h2 := ih (by omega) (O.length - 1 - i)
  rw [if_neg (by omega)] at h1 h2
  have e1 : rd (swp O i) (i : Int) = O[i]'(by omega) := by
   rw [rd_nat, List.getD_eq_getElem?_getD, h1, List.getElem?_eq_getElem (by omega)]
   rfl
  have e2 : rd (swp O i) ((O.length - 1 - i : Nat) : Int) = O[O.length - 1 - i]'(by omega) := by
   rw [rd_nat, List.getD_eq_getElem?_getD, h2, List.getElem?_eq_getElem (by omega)]
   rfl
  rw [swp, e1, e2, List.getElem?_set, List.getElem?_set, List.length_set, swp_len]
  by_cases c1 : O.length - 1 - i = k
  ·subst c1
   rw [if_pos rfl, if_pos (by omega), if_pos (by omega), List.getElem?_eq_getElem (by omega)]
   congr 2
   omega
  ·rw [if_neg c1]
   by_cases c2 : i = k
   ·subst c2
    rw [if_pos rfl, if_pos (by omega), if_pos (by omega), List.getElem?_eq_getElem (by omega)]
   ·rw [if_neg c2, ih (by omega) k]
    by_cases c3 : k < i ∨ (O.length - i ≤ k ∧ k < O.length)
    ·rw [if_pos c3, if_pos (by omega)]
    ·rw [if_neg c3, if_neg (by omega)]
theorem swp_rev (O : List Int) (i : Nat) (h1 : 2 * i ≤ O.length) (h2 : O.length ≤ 2 * i + 1) : swp O i = O.reverse := by
 apply List.ext_getElem?
 intro k
 rw [swp_get O i h1 k]
 by_cases hk : k < O.length
 ·rw [List.getElem?_reverse hk]
  by_cases c : k < i ∨ (O.length - i ≤ k ∧ k < O.length)
  ·rw [if_pos c]
  ·rw [if_neg c]
   congr 1
   omega
 ·rw [if_neg (by omega), List.getElem?_eq_none (by omega), List.getElem?_eq_none (by simp; omega)]
theorem ct_impl_nat_digits (x : Nat) (hx : Sm x) (hlen : (lowD x x).length ≤ 900000) (A : Option Addr) (cA : Nat) :
  CtM Try.prog 50 [.slice A (ofN B64 x).length cA] [] [Row .u64 A cA (ofN B64 x)] (γ := OW (digT0 x).length) (fun p => .slice (some ⟨p.1.1, 0, none⟩) (digT0 x).length p.1.2.2) (fun p => [digB x p.1.1 p.1.2.1]) (fun _ => []) := by
 refine cm_ofY Try.func50 rfl (by kernel_rfl) (fun B w0 M => ?_)
 refine SQ_cut (K := fun _ _ => False) (fun s => Weak s ⟨[(0, .slice A (ofN B64 x).length cA)], [], [Row .u64 A cA (ofN B64 x)]⟩) ?_ (fun _ _ _ _ _ _ z => z.elim) (fun s hw => ?_)
 ·refine xrl [] [(2, .slice none 0 0)] ?_
  exact xw (zsS zi0 zs0)
 refine SQ_weak hw ?_
 clear hw
 refine SQ_cut (K := fun _ _ => False) (fun s => ∃ gO gB, Weak s ⟨[(0, .slice A (ofN B64 x).length cA), (3, .pointer (some ⟨gO, 0, none⟩))], [⟨gB, cl .u8 [] [], 5⟩, ⟨gO, [.slice (some ⟨gB, 0, none⟩) 0 0], 23⟩], [Row .u64 A cA (ofN B64 x)]⟩) ?_ (fun _ _ _ _ _ _ z => z.elim) (fun s hw => ?_)
 ·refine SW_region ?_
  refine xbl 7 [] 5 0 (fun g0 => ?_)
  refine xb 3 [.slice none 0 0] 23 (fun g1 => ?_)
  refine xy [(2, [1])] [] [(1, [.slice (some ⟨g0, 0, none⟩) 0 0])] ?_
  refine ⟨(g1), (g0), xw (zsS zi0 zs0)⟩
 obtain ⟨gO, gB, hw⟩ := hw
 refine SQ_weak hw ?_
 clear hw
 refine SQ_seq ?_
 refine SQ_cut (K := fun _ _ => False) (fun s => ∃ gA, Weak s ⟨[(3, .pointer (some ⟨gO, 0, none⟩)), (9, .func (.func 121) #[] #[.pointer (some ⟨gA, 0, none⟩)])], [⟨gB, cl .u8 [] [], 5⟩, ⟨gO, [.slice (some ⟨gB, 0, none⟩) 0 0], 23⟩, ⟨gA, [.slice A (ofN B64 x).length cA], 77⟩], [Row .u64 A cA (ofN B64 x)]⟩) ?_ (fun _ _ _ _ _ _ z => z.elim) (fun s hw => ?_)
 ·refine SW_region ?_
  refine xn 1 [] [(8, .slice A (List.length (ofN B64 x)) cA)] ?_
  refine xcm 9 [false] (ct_impl_nat_groups (List.length (ofN B64 x)) (cA) (A)) zs0 (fun z0 => ?_)
  refine xz [] [] ?_
  refine ⟨(z0), xw (zsS zi0 zs0)⟩
 obtain ⟨gA, hw⟩ := hw
 refine SQ_weak hw ?_
 clear hw
 refine SQ_block (SQ_range 121 #[.pointer (some ⟨gA, 0, none⟩)] rfl (fun args w => by kernel_rfl) rfl (fun fn tm D l hT w hw => ?_))
 have hw2 := Holds_perm hw [4, 2, 1, 0, 3] (⟨l, [], .ob (loopO .ready fn tm _ _ _ D)⟩ :: ⟨gA, [.slice A (ofN B64 x).length cA], 77⟩ :: OB gO gB [] [] 0 ++ [⟨D, [], .ob (.deferred (some []))⟩]) rfl (by decide)
 have hG := fun hy => (ct_impl_nat_groups_1 gA gO l _ x hx A cA hy [] gB [] 0 rfl (by simpa using hlen)).call rfl hw2 [true, true, true, true] rfl (zsS zi0 zs0) [(3, .pointer (some ⟨gO, 0, none⟩)), (9, .func (.func 121) #[] #[.pointer (some ⟨gA, 0, none⟩)])]
 refine (hG (fun d O gB r c hd hc hl => ?_)).mono ?_
 ·refine cy_of (env1 := [(4, .int .u64 (d : Int)), (3, .pointer (some ⟨gO, 0, none⟩))]) hT (Nat.le_of_ble_eq_true (by kernel_rfl)) (fun B w0 => ?_) (fun B w0 => ?_)
  ·refine xrl [] [(4, .int .u64 (d : Int))] ?_
   exact xw zs0
  ·generalize loopO .busy fn tm _ _ _ D = o1, loopO .ready fn tm _ _ _ D = o2
   refine SW_block ?_
   refine xr [] [(11, .int .i64 0)] ?_
   refine SW_block ?_
   refine SW_loopn (fun m s => ∃ (n dd : Nat) (O2 : List Int) (gB : Nat) (r : List Value) (c : Nat), n + m = 19 ∧ dd = d / 10 ^ n ∧ O2 = O ++ digN d n ∧ O2.length + r.length = c ∧ Weak s ⟨[(11, .int .i64 n), (4, .int .u64 (dd : Int)), (3, .pointer (some ⟨gO, 0, none⟩))], [⟨l, [], .ob o1⟩, ⟨gO, [.slice (some ⟨gB, 0, none⟩) O2.length c], 23⟩, ⟨gB, cl .u8 O2 r, 5⟩], []⟩) 19 ⟨0, d, O, gB, r, c, rfl, by simp, by simp [digN], hc, ?_⟩ (fun m s hI => ?_)
   ·exact xw zs0
   ·obtain ⟨n, dd, O2, gB, r, c, h1, h2, h3, h4, hw⟩ := hI
    refine SW_weak hw ?_
    clear hw
    by_cases hm : n = 19
    ·have z : decide ((n : Int) < 19) = false := decide_eq_false (by omega)
     clear h1
     subst hm h3
     refine xr [] [(12, .bool false)] ?_
     refine SW_seq ?_
     refine xs0 ?_
     refine SW_exit ?_
     exact ⟨⟨(gB, r, c), h4⟩, [true, true], _, rfl, rfl, zs0⟩
    ·have z : decide ((n : Int) < 19) = true := decide_eq_true (by omega)
     have h5 : dd < 18446744073709551616 := by
      have := Nat.div_le_self d (10 ^ n)
      omega
     have h6 : O2.length ≤ 1000019 := by
      rw [h3, List.length_append, digN_len]
      omega
     have h7 : O2 ++ [((48 + dd % 10 : Nat) : Int)] = O ++ digN d (n + 1) := by rw [h3, digN, h2, List.append_assoc]
     have h8 : dd / 10 = d / 10 ^ (n + 1) := by rw [h2, Nat.div_div_eq_div_mul, Nat.pow_succ]
     have v1 : Ve (IntKind.u8.wrap (IntKind.u64.wrap (48 + ((dd : Int)).tmod 10))) ((48 + dd % 10 : Nat) : Int) := ⟨by
      rw [Int.tmod_eq_emod_of_nonneg (by omega)]
      simp [IntKind.wrap, IntKind.bits, IntKind.signed]
      omega⟩
     have v2 : Ve (IntKind.u64.wrap (((dd : Int)).tdiv 10)) ((dd / 10 : Nat) : Int) := ⟨by
      rw [Int.tdiv_eq_ediv_of_nonneg (by omega)]
      simp [IntKind.wrap, IntKind.bits, IntKind.signed]
      omega⟩
     have v3 : Ve (IntKind.i64.wrap ((n : Int) + 1)) ((n + 1 : Nat) : Int) := ⟨by rw [wrap_i64 (by omega)]; rfl⟩
     obtain ⟨y, hy⟩ : ∃ y, 48 + dd % 10 = y := ⟨_, rfl⟩
     obtain ⟨q, hq⟩ : ∃ q, dd / 10 = q := ⟨_, rfl⟩
     rw [hy] at v1 h7
     rw [hq] at v2 h8
     clear hy hq
     clear h2 h3
     refine xr [] [(12, .bool (decide ((n : Int) < 19)))] ?_
     refine SW_seq ?_
     refine xst z ?_
     refine SW_skip ?_
     refine SW_seq ?_
     refine SW_block ?_
     refine xg ?_
     refine xn 4 [(0, [1])] [(16, .int .u64 (IntKind.wrap IntKind.u64 (48 + Int.tmod (dd : Int) 10))), (15, .int .u64 (Int.tmod (dd : Int) 10)), (14, .int .u64 (dd : Int)), (13, .slice (some ⟨gB, 0, none⟩) (List.length O2) c)] ?_
     refine xve 17 IntKind.u8 (IntKind.wrap IntKind.u8 (IntKind.wrap IntKind.u64 (48 + Int.tmod (dd : Int) 10))) ((y : Int)) v1 ?_
     refine xbl 18 [.int .u8 (y : Int)] 5 1 (fun g0 => ?_)
     refine xap 19 2 3 1 5 1 (gB) (g0) (c) (1) IntKind.u8 5 (O2) (r) [(y : Int)] (by omega) (by omega) (fun g1 r0 c0 hc0 => ?_)
     refine xy [(7, [1])] [] [(1, [.slice (some ⟨g1, 0, none⟩) (List.length (O2 ++ [(y : Int)])) c0])] ?_
     refine SW_region ?_
     refine xn 1 [] [(20, .int .u64 (dd : Int))] ?_
     refine xve 21 IntKind.u64 (IntKind.wrap IntKind.u64 (Int.tdiv (dd : Int) 10)) ((q : Int)) v2 ?_
     refine xz [] [(4, .int .u64 (q : Int))] ?_
     refine SW_region ?_
     refine xve 22 IntKind.i64 (IntKind.wrap IntKind.i64 ((n : Int) + 1)) ((((n + 1) : Nat) : Int)) v3 ?_
     refine xz [] [(11, .int .i64 (((n + 1) : Nat) : Int))] ?_
     refine ⟨m - 1, by omega, n + 1, q, O2 ++ [(y : Int)], g1, r0, c0, by omega, h8, h7, by assumption, ?_⟩
     exact xw zs0
 ·rintro en w' ⟨⟨⟨gB2, r2, c2⟩, hc2⟩, rfl, hx2⟩
  dsimp only at hc2
  refine ⟨_, _, _, 0, rfl, hx2, rfl, fun a w ha hw => ?_⟩
  refine wpIn_mono ((?_ : SW (Cx.push ⟨Try.prog, Try.f50.ntmps, B, ⟨w0, M, []⟩, none⟩ ⟨.collected D, #[]⟩) _ _ (RetL (Cx.push ⟨Try.prog, Try.f50.ntmps, B, ⟨w0, M, []⟩, none⟩ ⟨.collected D, #[]⟩) Try.f50 (LvM Try.prog Try.f50 (LeftM _ B ⟨w0, M, []⟩ _ _ _)))) a w ha hw) RetL.postM
  clear ha hw hx2 hG hw2
  refine SW_weak2 (t := ⟨[(3, .pointer (some ⟨gO, 0, none⟩))], [⟨gO, [.slice (some ⟨gB2, 0, none⟩) (lowD x x).length c2], 23⟩, ⟨gB2, cl .u8 (lowD x x) r2, 5⟩, ⟨D, [], .ob (.deferred (some []))⟩], []⟩) (xw2 [false, true, true, true] zs0) ?_
  replace hc2 : (lowD x x).length + r2.length = c2 := hc2
  have hR : digT0 x = if strip (lowD x x).reverse = [] then [48] else strip (lowD x x).reverse := rfl
  have hRB : ∀ g r, digB x g r = if strip (lowD x x).reverse = [] then mkB g [.int .u8 48] 5 (1, 2) else ⟨g, cl .u8 (strip (lowD x x).reverse) r, 5⟩ := fun _ _ => rfl
  generalize lowD x x = L at hlen hc2 hR hRB ⊢
  refine SW_cut (fun s => ∃ (n : Nat) (O : List Int) (r : List Value), O.length = n ∧ O.reverse = strip L.reverse ∧ n + r.length = c2 ∧ n ≤ 900000 ∧ Weak s ⟨[(3, .pointer (some ⟨gO, 0, none⟩))], [⟨gO, [.slice (some ⟨gB2, 0, none⟩) n c2], 23⟩, ⟨gB2, cl .u8 O r, 5⟩, ⟨D, [], .ob (.deferred (some []))⟩], []⟩) ?_ (fun s hs => ?_)
  ·refine SW_block ?_
   refine SW_loopn (fun n s => ∃ (O : List Int) (r : List Value), O.length = n ∧ strip O.reverse = strip L.reverse ∧ n + r.length = c2 ∧ n ≤ 900000 ∧ Weak s ⟨[(3, .pointer (some ⟨gO, 0, none⟩))], [⟨gO, [.slice (some ⟨gB2, 0, none⟩) n c2], 23⟩, ⟨gB2, cl .u8 O r, 5⟩, ⟨D, [], .ob (.deferred (some []))⟩], []⟩) L.length ⟨L, r2, rfl, rfl, hc2, hlen, ?_⟩ (fun m s hI => ?_)
   ·exact xw zs0
   ·obtain ⟨O, r, h1, h2, h3, h4, hw⟩ := hI
    refine SW_weak hw ?_
    clear hw
    rcases List.eq_nil_or_concat O with h | ⟨O3, y, h⟩
    ·subst h
     obtain rfl : m = 0 := h1.symm
     refine SW_seq ?_
     refine xr [(0, [0]), (4, [0]), (5, [0])] [(34, .bool false)] ?_
     refine xs0 ?_
     refine SW_exit ?_
     refine ⟨0, [], r, rfl, h2, h3, h4, ?_⟩
     exact xw zs0
    ·obtain ⟨k, rfl⟩ : ∃ k, m = k + 1 := ⟨O3.length, by rw [← h1, h]; simp⟩
     have hk : O3.length = k := by
      rw [h] at h1
      simpa using h1
     have z : decide (((k + 1 : Nat) : Int) > 0) = true := decide_eq_true (by omega)
     have v1 : Ve (IntKind.i64.wrap (((k + 1 : Nat) : Int) - 1)) (k : Int) := ⟨by rw [wrap_i64 (by omega)]; omega⟩
     have v2 : Ve (rd O (k : Int)) y := ⟨by rw [h, List.concat_eq_append, rd_mid O3 [] y k hk.symm]⟩
     have hcl : cl .u8 O r = cl .u8 O3 (.int .u8 y :: r) := by simp [cl, h]
     have hrev : O.reverse = y :: O3.reverse := by simp [h]
     clear h
     by_cases hy : y = 48
     ·have z2 : (y == 48) = true := by simp [hy]
      rw [hrev, strip, if_pos hy] at h2
      refine SW_seq ?_
      refine xg ?_
      refine xn 4 [(0, [0])] [(26, .bool (decide ((((k + 1) : Nat) : Int) > 0)))] ?_
      refine xkt 26 z ?_
      refine xn 7 [(4, [0]), (5, [0])] [(29, .int .i64 (((k + 1) : Nat) : Int)), (27, .slice (some ⟨gB2, 0, none⟩) (k + 1) c2)] ?_
      refine xve 30 IntKind.i64 (IntKind.wrap IntKind.i64 ((((k + 1) : Nat) : Int) - 1)) ((k : Int)) v1 ?_
      refine xoi 31 5 (gB2) (k + 1) (c2) (k) IntKind.i64 ((k : Int)) ⟨rfl⟩ (by omega) ?_
      refine xole 32 1 (gB2) (k) IntKind.u8 (O) (r) 5 (y) v2 (by first | omega | (simp <;> omega)) ?_
      refine xz [] [(34, .bool (y == 48))] ?_
      refine xst z2 ?_
      refine SW_skip ?_
      refine SW_block ?_
      refine SW_region ?_
      refine xn 3 [(0, [0]), (1, [0])] [(37, .int .i64 (((k + 1) : Nat) : Int)), (35, .slice (some ⟨gB2, 0, none⟩) (k + 1) c2)] ?_
      refine xve 38 IntKind.i64 (IntKind.wrap IntKind.i64 ((((k + 1) : Nat) : Int) - 1)) ((k : Int)) v1 ?_
      refine xsh 39 5 (some ⟨gB2, 0, none⟩) (k + 1) (c2) (k) IntKind.i64 ((k : Int)) ⟨rfl⟩ (by omega) ?_
      refine xy [(5, [0])] [] [(0, [.slice (some ⟨gB2, 0, none⟩) k c2])] ?_
      rw [hcl]
      refine ⟨k, by omega, O3, .int .u8 y :: r, hk, h2, ?_, by omega, ?_⟩
      rotate_left
      ·exact xw zs0
      ·simp only [List.length_cons]; omega
     ·have z2 : (y == 48) = false := by simp [hy]
      rw [hrev, strip, if_neg hy] at h2
      refine SW_seq ?_
      refine xg ?_
      refine xn 4 [(0, [0])] [(26, .bool (decide ((((k + 1) : Nat) : Int) > 0)))] ?_
      refine xkt 26 z ?_
      refine xn 7 [(4, [0]), (5, [0])] [(29, .int .i64 (((k + 1) : Nat) : Int)), (27, .slice (some ⟨gB2, 0, none⟩) (k + 1) c2)] ?_
      refine xve 30 IntKind.i64 (IntKind.wrap IntKind.i64 ((((k + 1) : Nat) : Int) - 1)) ((k : Int)) v1 ?_
      refine xoi 31 5 (gB2) (k + 1) (c2) (k) IntKind.i64 ((k : Int)) ⟨rfl⟩ (by omega) ?_
      refine xole 32 1 (gB2) (k) IntKind.u8 (O) (r) 5 (y) v2 (by first | omega | (simp <;> omega)) ?_
      refine xz [] [(34, .bool (y == 48))] ?_
      refine xsf z2 ?_
      refine SW_exit ?_
      refine ⟨k + 1, O, r, h1, by rw [hrev, h2], h3, h4, ?_⟩
      exact xw zs0
  obtain ⟨n, O, r, h1, h2, h3, h4, hw⟩ := hs
  refine SW_weak hw ?_
  clear hw hc2
  rw [← h2] at hR
  simp only [← h2] at hRB
  clear h2
  refine SW_cut (fun s => Weak s ⟨[(3, .pointer (some ⟨gO, 0, none⟩))], [⟨gO, [.slice (some ⟨gB2, 0, none⟩) n c2], 23⟩, ⟨gB2, cl .u8 O.reverse r, 5⟩, ⟨D, [], .ob (.deferred (some []))⟩], []⟩) ?_ (fun s hw => ?_)
  ·refine xd (fun hB => ?_)
   refine xdk [(0, [0]), (1, []), (2, []), (3, []), (4, [])] [(6, .int .i64 (IntKind.wrap IntKind.i64 ((n : Int) - 1))), (5, .int .i64 0)] hB ?_
   refine xdz ?_
   refine SW_block ?_
   refine SW_loopn (fun m s => ∃ (i : Nat) (J : Int) (P : List Int), i + m = n ∧ 2 * i ≤ n ∧ J = (n : Int) - 1 - i ∧ P = swp O i ∧ Weak s ⟨[(3, .pointer (some ⟨gO, 0, none⟩)), (5, .int .i64 (i : Int)), (6, .int .i64 J)], [⟨gO, [.slice (some ⟨gB2, 0, none⟩) n c2], 23⟩, ⟨gB2, cl .u8 P r, 5⟩, ⟨D, [], .ob (.deferred (some []))⟩], []⟩) n ⟨0, (n : Int) - 1, O, by omega, by omega, by omega, rfl, ?_⟩ (fun m s hI => ?_)
   ·rw [wrap_i64 (by omega)]
    exact xw zs0
   ·obtain ⟨i, J, P, g1, g2, g3, g4, hw⟩ := hI
    refine SW_weak hw ?_
    clear hw
    have hl : P.length = n := by rw [g4, swp_len, h1]
    by_cases hi : 2 * i + 1 < n
    ·obtain ⟨j, rfl⟩ : ∃ j : Nat, J = (j : Int) := ⟨n - 1 - i, by omega⟩
     have hj : j = O.length - 1 - i := by omega
     have hij : i < j := by omega
     have hjn : j < n := by omega
     have z : decide ((i : Int) < (j : Int)) = true := decide_eq_true (by omega)
     have v1 : Ve (IntKind.i64.wrap ((i : Int) + 1)) ((i + 1 : Nat) : Int) := ⟨by rw [wrap_i64 (by omega)]; omega⟩
     have v2 : Ve (IntKind.i64.wrap ((j : Int) - 1)) ((j - 1 : Nat) : Int) := ⟨by rw [wrap_i64 (by omega)]; omega⟩
     have hs : (P.set i (rd P (j : Int))).set j (rd P (i : Int)) = swp O (i + 1) := by rw [swp, ← hj, ← g4]
     have e1 : ((j - 1 : Nat) : Int) = (n : Int) - 1 - (i + 1 : Nat) := by omega
     clear g4 hj g3
     refine SW_seq ?_
     refine xr [] [(45, .bool (decide ((i : Int) < (j : Int))))] ?_
     refine xst z ?_
     refine SW_skip ?_
     refine SW_seq ?_
     refine SW_block ?_
     refine xdl (fun hB => ?_)
     refine xdk [(0, [0]), (1, []), (3, []), (4, [0]), (5, []), (8, [0]), (9, [])] [(59, .int .i64 (i : Int)), (58, .slice (some ⟨gB2, 0, none⟩) n c2), (55, .int .i64 (j : Int)), (54, .slice (some ⟨gB2, 0, none⟩) n c2), (53, .int .i64 (j : Int)), (51, .int .i64 (i : Int)), (50, .slice (some ⟨gB2, 0, none⟩) n c2)] hB ?_
     refine xdoi 6 hB 56 5 (gB2) (n) (c2) (j) IntKind.i64 ((j : Int)) ⟨rfl⟩ (by omega) ?_
     refine xdol 7 hB 57 1 (gB2) (j) IntKind.u8 (P) (r) 5 (by first | omega | (simp <;> omega)) ?_
     refine xdoi 10 hB 60 5 (gB2) (n) (c2) (i) IntKind.i64 ((i : Int)) ⟨rfl⟩ (by omega) ?_
     refine xdol 11 hB 61 1 (gB2) (i) IntKind.u8 (P) (r) 5 (by first | omega | (simp <;> omega)) ?_
     refine xdoi 12 hB 62 5 (gB2) (n) (c2) (i) IntKind.i64 ((i : Int)) ⟨rfl⟩ (by omega) ?_
     refine xd2 2 13 (dxr 2 52 [0] (.slice (some ⟨gB2, 0, none⟩) n c2) ?_) (dxs 13 1 gB2 i .u8 P r 5 (rd P (j : Int)) (by omega) ?_)
     ·refine dx1 13 (dxs 13 1 gB2 i .u8 P r 5 (rd P (j : Int)) (by omega) ?_)
      refine dx1 14 (dxi 14 63 5 gB2 n c2 j .i64 hjn ?_)
      refine dx1 15 (dxs 15 1 gB2 j .u8 (P.set i (rd P (j : Int))) r 5 (rd P (i : Int)) (by simp; omega) ?_)
      rw [hs]
      refine xdz ?_
      refine SW_region ?_
      refine xn 1 [] [(46, .int .i64 (i : Int))] ?_
      refine xve 47 IntKind.i64 (IntKind.wrap IntKind.i64 ((i : Int) + 1)) ((((i + 1) : Nat) : Int)) v1 ?_
      refine xn 3 [] [(48, .int .i64 (j : Int))] ?_
      refine xve 49 IntKind.i64 (IntKind.wrap IntKind.i64 ((j : Int) - 1)) ((((j - 1) : Nat) : Int)) v2 ?_
      refine xz [] [(6, .int .i64 (((j - 1) : Nat) : Int)), (5, .int .i64 (((i + 1) : Nat) : Int))] ?_
      refine ⟨m - 1, by omega, i + 1, _, _, by omega, by omega, e1, rfl, ?_⟩
      exact xw zs0
     ·refine dx1 2 (dxr 2 52 [0] (.slice (some ⟨gB2, 0, none⟩) n c2) ?_)
      refine dx1 14 (dxi 14 63 5 gB2 n c2 j .i64 hjn ?_)
      refine dx1 15 (dxs 15 1 gB2 j .u8 (P.set i (rd P (j : Int))) r 5 (rd P (i : Int)) (by simp; omega) ?_)
      rw [hs]
      refine xdz ?_
      refine SW_region ?_
      refine xn 1 [] [(46, .int .i64 (i : Int))] ?_
      refine xve 47 IntKind.i64 (IntKind.wrap IntKind.i64 ((i : Int) + 1)) ((((i + 1) : Nat) : Int)) v1 ?_
      refine xn 3 [] [(48, .int .i64 (j : Int))] ?_
      refine xve 49 IntKind.i64 (IntKind.wrap IntKind.i64 ((j : Int) - 1)) ((((j - 1) : Nat) : Int)) v2 ?_
      refine xz [] [(6, .int .i64 (((j - 1) : Nat) : Int)), (5, .int .i64 (((i + 1) : Nat) : Int))] ?_
      refine ⟨m - 1, by omega, i + 1, _, _, by omega, by omega, e1, rfl, ?_⟩
      exact xw zs0
    ·have z : decide ((i : Int) < J) = false := decide_eq_false (by omega)
     rw [swp_rev O i (by omega) (by omega)] at g4
     subst g4
     refine SW_seq ?_
     refine xr [] [(45, .bool (decide ((i : Int) < J)))] ?_
     refine xsf z ?_
     refine SW_exit ?_
     exact xw zs0
  refine SW_weak hw ?_
  clear hw
  by_cases hn : n = 0
  ·subst hn
   obtain rfl := List.eq_nil_of_length_eq_zero h1
   rw [show (if ([] : List Int).reverse = [] then ([48] : List Int) else ([] : List Int).reverse) = [48] from rfl] at hR
   rw [hR]
   refine SW_seq ?_
   refine xr [(0, [0])] [(66, .bool true)] ?_
   refine xs1 ?_
   refine xg ?_
   refine xbl 67 [.int .u8 48] 5 1 (fun g0 => ?_)
   refine xmk 3 68 g0 1 1 [.int .u8 48] 5 ?_
   refine xz [] [(2, .slice (some ⟨g0, 0, none⟩) 1 1)] ?_
   refine SW_ret ?_
   exact leave_range 2 D ⟨(g0, [], 1), rfl⟩ [false, false, false, true] [] _ rfl (by rw [hRB]; rfl) zs0
  ·have z : ((n : Int) == 0) = false := by simp; omega
   have hne : ¬ O.reverse = [] := by
    intro h
    rw [List.reverse_eq_nil_iff] at h
    rw [h] at h1
    exact hn h1.symm
   rw [if_neg hne] at hR
   have hRB2 : digB x gB2 r = ⟨gB2, cl .u8 O.reverse r, 5⟩ := by rw [hRB, if_neg hne]
   have hlr : (digT0 x).length = n := by rw [hR, List.length_reverse, h1]
   rw [hlr]
   refine SW_seq ?_
   refine xr [(0, [0])] [(66, .bool ((n : Int) == 0))] ?_
   refine xsf z ?_
   refine SW_skip ?_
   refine xr [(0, [0])] [(2, .slice (some ⟨gB2, 0, none⟩) n c2)] ?_
   refine SW_ret ?_
   exact leave_range 2 D ⟨(gB2, r, c2), h3⟩ [false, true] [] _ rfl (by rw [hRB2]; rfl) zs0
end Go.Proofs.Ytlggnljibebfeaa.M
end
section
namespace Go.Proofs.Ytlggnljibebfeaa.M
open Go.RowKit Go.Proofs.Ytlggnljibebfeaa.G Go.Proofs.YtlggnljibebfeaaV.PrintWords Go.Proofs.YtlggnljibebfeaaV.PrintLast Go.Proofs.Ytlggnljibebfeaa.X
set_option linter.unusedVariables false
set_option linter.unusedSimpArgs false
def rdg : Nat → Nat → List Int
  | 0, _ => []
  | f + 1, x => if x = 0 then [] else ((48 + x % 10 : Nat) : Int) :: rdg f (x / 10)
theorem rdg_more : ∀ (f g x : Nat), x ≤ f → x ≤ g → rdg f x = rdg g x
  | 0, 0, _, _, _ => rfl
  | 0, g + 1, x, h, _ => by
    obtain rfl : x = 0 := by omega
    simp [rdg]
  | f + 1, 0, x, _, h => by
    obtain rfl : x = 0 := by omega
    simp [rdg]
  | f + 1, g + 1, x, h1, h2 => by
    by_cases hx : x = 0
    · simp [rdg, hx]
    · simp only [rdg, if_neg hx]
      rw [rdg_more f g (x / 10) (by omega) (by omega)]
def rdig (x : Nat) : List Int := rdg x x
theorem rdig_zero : rdig 0 = [] := rfl
theorem rdig_step {x : Nat} (hx : x ≠ 0) : rdig x = ((48 + x % 10 : Nat) : Int) :: rdig (x / 10) := by
  obtain ⟨f, rfl⟩ : ∃ f, x = f + 1 := ⟨x - 1, by omega⟩
  unfold rdig
  rw [rdg, if_neg hx, rdg_more f ((f + 1) / 10) _ (by omega) (Nat.le_refl _)]
theorem rdig_more (x : Nat) : ∀ n, x / 10 ^ n ≠ 0 → rdig x = digN x (n + 1) ++ rdig (x / 10 ^ (n + 1)) := by
  intro n
  induction n with
  | zero =>
    intro h
    rw [rdig_step (by simpa using h)]
    simp [digN]
  | succ n ih =>
    intro h
    have h0 : x / 10 ^ n ≠ 0 := by
      intro e
      apply h
      rw [Nat.pow_succ, ← Nat.div_div_eq_div_mul, e]
    rw [ih h0, rdig_step h, Nat.div_div_eq_div_mul, ← Nat.pow_succ]
    show _ = (digN x (n + 1) ++ [_]) ++ _
    rw [List.append_assoc]
    rfl
theorem rdig_less (x : Nat) : ∀ n, x / 10 ^ n = 0 → ∃ k, digN x n = rdig x ++ List.replicate k 48 := by
  intro n
  induction n with
  | zero =>
    intro h
    obtain rfl : x = 0 := by simpa using h
    exact ⟨0, rfl⟩
  | succ n ih =>
    intro h
    by_cases h0 : x / 10 ^ n = 0
    · obtain ⟨k, hk⟩ := ih h0
      refine ⟨k + 1, ?_⟩
      rw [digN, hk, h0, List.append_assoc, List.replicate_succ']
      rfl
    · refine ⟨0, ?_⟩
      rw [rdig_more x n h0, h, rdig_zero]
      simp
theorem digN_mod (x m n : Nat) (h : n ≤ m) : digN (x % 10 ^ m) n = digN x n := by
  induction n with
  | zero => rfl
  | succ n ih =>
    rw [digN, digN, ih (by omega)]
    obtain ⟨k, rfl⟩ : ∃ k, m = n + 1 + k := ⟨m - (n + 1), by omega⟩
    have : x % 10 ^ (n + 1 + k) / 10 ^ n % 10 = x / 10 ^ n % 10 := by
      rw [show n + 1 + k = n + (1 + k) by omega, Nat.pow_add, Nat.mod_mul_right_div_self, Nat.mod_mod_of_dvd]
      exact ⟨10 ^ k, by rw [Nat.pow_add]⟩
    rw [this]
theorem lowD_rdig : ∀ f x, x ≤ f → ∃ k, lowD x x = rdig x ++ List.replicate k 48 := by
  intro f
  induction f with
  | zero =>
    intro x hx
    obtain rfl : x = 0 := by omega
    exact ⟨0, rfl⟩
  | succ f ih =>
    intro x hx
    by_cases h0 : x = 0
    · subst h0
      exact ⟨0, rfl⟩
    rw [lowD_step h0]
    have e : (10000000000000000000 : Nat) = 10 ^ 19 := by decide
    rw [e, digN_mod x 19 19 (Nat.le_refl _)]
    by_cases h1 : x / 10 ^ 19 = 0
    · obtain ⟨k, hk⟩ := rdig_less x 19 h1
      refine ⟨k, ?_⟩
      rw [hk, h1]
      show _ ++ [] = _
      rw [List.append_nil]
    · have h2 : x / 10 ^ 18 ≠ 0 := by
        intro z
        apply h1
        rw [show (10 : Nat) ^ 19 = 10 ^ 18 * 10 from rfl, ← Nat.div_div_eq_div_mul, z]
      have hlt : x / 10 ^ 19 < x := Nat.div_lt_self (by omega) (by decide)
      obtain ⟨k, hk⟩ := ih (x / 10 ^ 19) (by omega)
      refine ⟨k, ?_⟩
      rw [hk, rdig_more x 18 h2, List.append_assoc]
theorem strip_zeros (k : Nat) (l : List Int) : strip (List.replicate k 48 ++ l) = strip l := by
  induction k with
  | zero => rfl
  | succ k ih => rw [List.replicate_succ, List.cons_append, strip, if_pos rfl, ih]
theorem rdig_last : ∀ f x, x ≤ f → x ≠ 0 → ∃ y t, (rdig x).reverse = y :: t ∧ y ≠ 48 := by
  intro f
  induction f with
  | zero =>
    intro x hx h0
    exact absurd hx (by omega)
  | succ f ih =>
    intro x hx h0
    by_cases h1 : x / 10 = 0
    · refine ⟨((48 + x % 10 : Nat) : Int), [], ?_, ?_⟩
      · rw [rdig_step h0, h1]
        rfl
      · omega
    · obtain ⟨y, t, e1, e2⟩ := ih (x / 10) (by omega) h1
      refine ⟨y, t ++ [((48 + x % 10 : Nat) : Int)], ?_, e2⟩
      rw [rdig_step h0, List.reverse_cons, e1]
      rfl
theorem digT_eq (x : Nat) : digT x = (rdig x).reverse := by
  obtain ⟨k, hk⟩ := lowD_rdig x x (Nat.le_refl _)
  unfold digT
  rw [hk, List.reverse_append, List.reverse_replicate, strip_zeros]
  by_cases h0 : x = 0
  · subst h0
    rfl
  · obtain ⟨y, t, e1, e2⟩ := rdig_last x x (Nat.le_refl _) h0
    rw [e1, strip, if_neg e2]
theorem rdig_nil {x : Nat} : rdig x = [] ↔ x = 0 := by
  constructor
  · intro h
    by_cases h0 : x = 0
    · exact h0
    · rw [rdig_step h0] at h
      cases h
  · rintro rfl
    rfl
theorem digT_nil {x : Nat} : digT x = [] ↔ x = 0 := by rw [digT_eq, List.reverse_eq_nil_iff, rdig_nil]
theorem digT0_zero : digT0 0 = [48] := rfl
theorem digT0_pos {x : Nat} (h : x ≠ 0) : digT0 x = (rdig x).reverse := by rw [digT0, if_neg (fun z => h (digT_nil.1 z)), digT_eq]
theorem rdig_dig : ∀ f x, x ≤ f → ∀ y ∈ rdig x, 48 ≤ y ∧ y ≤ 57 := by
  intro f
  induction f with
  | zero =>
    intro x hx y hy
    obtain rfl : x = 0 := by omega
    cases hy
  | succ f ih =>
    intro x hx y hy
    by_cases h0 : x = 0
    · subst h0
      cases hy
    · rw [rdig_step h0] at hy
      rcases List.mem_cons.1 hy with h | h
      · rw [h]
        omega
      · exact ih (x / 10) (by omega) y h
theorem lowD_len : ∀ (k f x : Nat), x < 10000000000000000000 ^ k → (lowD f x).length ≤ 19 * k
  | _, 0, _, _ => by simp [lowD]
  | 0, f + 1, x, h => by
    obtain rfl : x = 0 := by simpa using h
    simp [lowD]
  | k + 1, f + 1, x, h => by
    by_cases h0 : x = 0
    · simp [lowD, h0]
    · rw [lowD, if_neg h0, List.length_append, digN_len]
      have : x / 10000000000000000000 < 10000000000000000000 ^ k := by
        rw [Nat.div_lt_iff_lt_mul (by decide)]
        rwa [Nat.pow_succ] at h
      have := lowD_len k f _ this
      omega
theorem lowD_le {x m : Nat} (hx : x < 2 ^ m) (h : m ≤ 76800) : (lowD x x).length ≤ 24320 := by
  obtain ⟨k, hk⟩ : ∃ k : Nat, k = 1280 := ⟨_, rfl⟩
  have h1 : x < 10000000000000000000 ^ k := by
    refine Nat.lt_of_lt_of_le hx (Nat.le_trans (Nat.pow_le_pow_right (by decide) (show m ≤ 63 * k by omega)) ?_)
    rw [Nat.pow_mul]
    exact Nat.pow_le_pow_left (by decide) k
  have := lowD_len k x x h1
  omega
theorem rdig_len {x m : Nat} (hx : x < 2 ^ m) (h : m ≤ 76800) : (rdig x).length ≤ 24320 := by
  obtain ⟨k, hk⟩ := lowD_rdig x x (Nat.le_refl _)
  have := lowD_le hx h
  rw [hk, List.length_append] at this
  omega
theorem digT0_len {x m : Nat} (hx : x < 2 ^ m) (h : m ≤ 76800) : (digT0 x).length ≤ 24320 := by
  by_cases h0 : x = 0
  · subst h0
    decide
  · rw [digT0_pos h0, List.length_reverse]
    exact rdig_len hx h
end Go.Proofs.Ytlggnljibebfeaa.M
end
section
namespace Go.Proofs.Ytlggnljibebfeaa.M
open Go.RowKit Go.Proofs.Ytlggnljibebfeaa.G Go.Proofs.YtlggnljibebfeaaV.PrintWords Go.Proofs.YtlggnljibebfeaaV.PrintLast Go.Proofs.Ytlggnljibebfeaa.X
set_option linter.unusedVariables false
set_option linter.unusedSimpArgs false
def decV (l : List Int) : Nat := l.foldl (fun v y => v * 10 + (y.toNat - 48)) 0
theorem decV_from (l : List Int) : ∀ v, l.foldl (fun v y => v * 10 + (y.toNat - 48)) v = v * 10 ^ l.length + decV l := by
 induction l with
 | nil => intro v; simp [decV]
 | cons a l ih =>
  intro v
  unfold decV
  rw [List.foldl_cons, List.foldl_cons, ih, ih (0 * 10 + _), List.length_cons, Nat.pow_succ, Nat.add_mul, Nat.zero_mul, Nat.zero_add, Nat.mul_assoc, Nat.mul_comm 10, Nat.add_assoc]
theorem decV_append (a b : List Int) : decV (a ++ b) = decV a * 10 ^ b.length + decV b := by
 rw [decV, List.foldl_append, decV_from]
 rfl
theorem decV_snoc (a : List Int) (y : Int) : decV (a ++ [y]) = decV a * 10 + (y.toNat - 48) := by
 rw [decV, List.foldl_append]
 rfl
def Dgs (l : List Int) : Prop := ∀ y ∈ l, 48 ≤ y ∧ y ≤ 57
theorem decV_lt {l : List Int} (h : Dgs l) : decV l < 10 ^ l.length := by
 induction l with
 | nil => decide
 | cons a l ih =>
  have h1 := ih (fun z hz => h z (List.mem_cons_of_mem _ hz))
  have h2 := h a (List.mem_cons_self ..)
  have e : decV (a :: l) = (a.toNat - 48) * 10 ^ l.length + decV l := by
   rw [decV, List.foldl_cons, decV_from, Nat.zero_mul, Nat.zero_add]
  rw [e, List.length_cons, Nat.pow_succ]
  have h3 := Nat.mul_le_mul_right (10 ^ l.length) (show a.toNat - 48 ≤ 9 by omega)
  omega
theorem decV_rdig : ∀ f x, x ≤ f → decV (rdig x).reverse = x := by
 intro f
 induction f with
 | zero =>
  intro x hx
  obtain rfl : x = 0 := by omega
  rfl
 | succ f ih =>
  intro x hx
  by_cases h0 : x = 0
  ·subst h0
   rfl
  ·rw [rdig_step h0, List.reverse_cons, decV_snoc, ih (x / 10) (by omega)]
   omega
theorem decV_digT0 (x : Nat) : decV (digT0 x) = x := by
 by_cases h : x = 0
 ·subst h
  rfl
 ·rw [digT0_pos h, decV_rdig x x (Nat.le_refl _)]
theorem digT0_dgs (x : Nat) : Dgs (digT0 x) := by
 by_cases h : x = 0
 ·subst h
  intro y hy
  rw [digT0_zero] at hy
  rw [List.mem_singleton.1 hy]
  decide
 ·rw [digT0_pos h]
  intro y hy
  exact rdig_dig x x (Nat.le_refl _) y (List.mem_reverse.1 hy)
theorem tens_sm {v n : Nat} (h : v < 10 ^ n) (hn : n ≤ 24400) : Sm v := by
 refine Sm.of (k := 4 * n) (Nat.lt_of_lt_of_le h ?_) (by omega)
 rw [Nat.pow_mul]
 exact Nat.pow_le_pow_left (by decide) n
theorem fromDigits_step (l : List Int) (ih : ∀ l' : List Int, l'.length < l.length → Dgs l' → ∀ A c, CtR Try.prog 53 [.slice A l'.length c] [Row .u8 A c l'] .u64 (ofN B64 (decV l'))) (hN : l.length ≤ 24320) (hd : Dgs l) (A : Option Addr) (c : Nat) : CtR Try.prog 53 [.slice A l.length c] [Row .u8 A c l] .u64 (ofN B64 (decV l)) := by
 refine ct_of Try.func53 rfl (by kernel_rfl) (fun B w0 => ?_)
 by_cases h40 : 40 < l.length
 ·have z : decide ((l.length : Int) > 40) = true := decide_eq_true (by omega)
  obtain ⟨k, hk⟩ : ∃ k, l.length / 2 = k := ⟨_, rfl⟩
  obtain ⟨m, hm⟩ : ∃ m, l.length - k = m := ⟨_, rfl⟩
  have v1 : Ve (IntKind.i64.wrap ((l.length : Int).tdiv 2)) (k : Int) := ⟨by rw [Int.tdiv_eq_ediv_of_nonneg (by omega), wrap_i64 (by omega)]; omega⟩
  have v2 : Ve (IntKind.i64.wrap ((l.length : Int) - (k : Int))) (m : Int) := ⟨by rw [wrap_i64 (by omega)]; omega⟩
  have e1 : (l.take m).length = m := by rw [List.length_take]; omega
  have e2 : (l.drop m).length = k := by rw [List.length_drop]; omega
  have c1 := ih (l.take m) (by omega) (fun y hy => hd y (List.mem_of_mem_take hy)) A c
  obtain ⟨A2, hA2⟩ : ∃ A2, (if c = m then A else A.map (·.add m)) = A2 := ⟨_, rfl⟩
  have c2 := ih (l.drop m) (by omega) (fun y hy => hd y (List.mem_of_mem_drop hy)) A2 (c - m)
  have ev : decV l = decV (l.take m) * 10 ^ k + decV (l.drop m) := by
   conv => lhs; rw [← List.take_append_drop m l]
   rw [decV_append, e2]
  have s1 := tens_sm (decV_lt (fun y hy => hd y (List.mem_of_mem_take hy)) : decV (l.take m) < _) (by rw [e1]; omega)
  have s2 := tens_sm (decV_lt (fun y hy => hd y (List.mem_of_mem_drop hy)) : decV (l.drop m) < _) (by rw [e2]; omega)
  have s3 := tens_sm (decV_lt hd) (by omega)
  have s4 : Sm (10 ^ k) := tens_sm (Nat.pow_lt_pow_right (by decide) (Nat.lt_succ_self k)) (by omega)
  have s5 : Sm (decV (l.take m) * 10 ^ k) := s3.mono (by omega)
  rw [e1] at c1
  rw [e2] at c2
  have hkl : l.length - m = k := by omega
  refine SW_know zi0 (fun w h => h.2) (fun hc => ?_)
  refine SW_fact (G := Row .u8 A c (l.take m)) zi0 (fun w h => row_take m c (by omega) h) ?_
  refine SW_fact (G := Row .u8 A2 (c - m) (l.drop m)) (ziS zi0) (fun w h => row_drop hA2 (by omega) h) ?_
  rw [ev]
  refine xr [] [(2, .slice none 0 0)] ?_
  refine SW_seq ?_
  refine xr [] [(9, .bool (decide ((((List.length l) : Nat) : Int) > 40)))] ?_
  refine xst z ?_
  refine xg ?_
  refine xn 2 [] [(11, .int .i64 (((List.length l) : Nat) : Int))] ?_
  refine xve 12 IntKind.i64 (IntKind.wrap IntKind.i64 (Int.tdiv (((List.length l) : Nat) : Int) 2)) ((k : Int)) v1 ?_
  refine xz [] [(3, .int .i64 (k : Int))] ?_
  refine xd (fun hB => ?_)
  refine xdk [(0, []), (1, []), (2, []), (3, []), (7, []), (10, []), (11, []), (12, []), (13, [])] [(26, .int .i64 (k : Int)), (25, .int .i64 (((List.length l) : Nat) : Int)), (23, .slice A (List.length l) c), (20, .int .i64 (k : Int)), (16, .int .i64 (k : Int)), (15, .int .i64 (((List.length l) : Nat) : Int)), (13, .slice A (List.length l) c)] hB ?_
  refine xdve 4 hB 17 IntKind.i64 (IntKind.wrap IntKind.i64 ((((List.length l) : Nat) : Int) - (k : Int))) ((m : Int)) v2 ?_
  refine xdve 14 hB 27 IntKind.i64 (IntKind.wrap IntKind.i64 ((((List.length l) : Nat) : Int) - (k : Int))) ((m : Int)) v2 ?_
  refine xdsh 5 hB 18 5 A l.length c m .i64 (by omega) ?_
  refine xdsl 15 hB 28 5 A A2 l.length c m .i64 hA2 (by omega) ?_
  rw [hkl]
  refine xdr 6 19 c1 (zsS (ziS zi0) zs0) (fun A3 k3 => ?_)
  refine xdr 8 21 (ct_impl_ten ((k : Int)) (k) ⟨rfl⟩ (by omega)) zs0 (fun A4 k4 => ?_)
  refine xdr 9 22 (ct_impl_nat_mul (decV (List.take m l)) (10 ^ k) (A3) (A4) (k3) (k4) s1 s4) (zsS (ziS zi0) (zsS zi0 zs0)) (fun A5 k5 => ?_)
  refine xdr 16 29 c2 (zsS (ziS (ziS (ziS zi0))) zs0) (fun A6 k6 => ?_)
  refine xdr 17 30 (ct_impl_nat_add (decV (List.take m l) * 10 ^ k) (decV (List.drop m l)) (A5) (A6) (k5) (k6) s5 s2) (zsS (ziS zi0) (zsS zi0 zs0)) (fun A7 k7 => ?_)
  refine xdk [(18, [])] [(2, .slice A7 (List.length (ofN B64 (decV (List.take m l) * 10 ^ k + decV (List.drop m l)))) k7)] hB ?_
  refine xdz ?_
  refine SW_ret ?_
  refine xe (A7, k7) (.slice A7 (List.length (ofN B64 (decV (List.take m l) * 10 ^ k + decV (List.drop m l)))) k7) [] ?_ (zsS zi0 zs0)
  rfl
 ·have z : decide ((l.length : Int) > 40) = false := decide_eq_false (by omega)
  refine xr [] [(2, .slice none 0 0)] ?_
  refine SW_seq ?_
  refine xr [] [(9, .bool (decide ((((List.length l) : Nat) : Int) > 40)))] ?_
  refine xsf z ?_
  refine SW_skip ?_
  refine xr [] [(4, .slice none 0 0)] ?_
  refine SW_seq ?_
  refine xr [] [(33, .int .i64 0), (32, .int .i64 (((List.length l) : Nat) : Int)), (31, .slice A (List.length l) c)] ?_
  refine SW_block ?_
  refine SW_tru (Row_nil .u64 0) ?_
  refine SW_loopn (fun m s => ∃ (i : Nat) (A2 : Option Addr) (c2 : Nat), m + i = l.length ∧ Weak s ⟨[(33, .int .i64 (i : Int)), (32, .int .i64 (l.length : Int)), (31, .slice A l.length c), (4, .slice A2 (ofN B64 (decV (l.take i))).length c2)], [], [Row .u8 A c l, Row .u64 A2 c2 (ofN B64 (decV (l.take i)))]⟩) l.length ⟨0, none, 0, rfl, ?_⟩ (fun m s hI => ?_)
  ·rw [List.take_zero, show decV [] = 0 from rfl, ofN_nil B64_2]
   exact xw (zsS (ziS zi0) (zsS zi0 zs0))
  ·obtain ⟨i, A2, c2, h1, hw⟩ := hI
   refine SW_weak hw ?_
   clear hw
   by_cases hi : i < l.length
   ·have z : decide ((i : Int) < (l.length : Int)) = true := decide_eq_true (by omega)
    obtain ⟨m, rfl⟩ : ∃ m', m = m' + 1 := ⟨m - 1, by omega⟩
    refine SW_know zi0 (fun w h => row_at h (by omega)) (fun ⟨ad, e⟩ => ?_)
    subst e
    have vi : Ve (IntKind.i64.wrap ((i : Int) + 1)) ((i + 1 : Nat) : Int) := ⟨by rw [wrap_i64 (by omega)]; omega⟩
    have ht : l.take (i + 1) = l.take i ++ [rd l (i : Int)] := by
     rw [List.take_add_one, rd_some hi]
     rfl
    have hy : 48 ≤ rd l (i : Int) ∧ rd l (i : Int) ≤ 57 := by
     have := List.mem_of_getElem? (rd_some hi)
     exact hd _ this
    have hn : decV (l.take (i + 1)) = decV (l.take i) * 10 + ((rd l (i : Int)).toNat - 48) := by rw [ht, decV_snoc]
    have s1 := tens_sm (decV_lt (l := l.take i) (fun y hy => hd y (List.mem_of_mem_take hy))) (by rw [List.length_take]; omega)
    have s2 := tens_sm (decV_lt (l := l.take (i + 1)) (fun y hy => hd y (List.mem_of_mem_take hy))) (by rw [List.length_take]; omega)
    obtain ⟨V, hV⟩ : ∃ V, decV (l.take i) = V := ⟨_, rfl⟩
    obtain ⟨y, hye⟩ : ∃ y : Int, rd l (i : Int) = y := ⟨_, rfl⟩
    rw [hV, hye] at hn
    rw [hV] at s1
    rw [hn] at s2
    rw [hye] at hy
    have v0 : Ve (rd l (i : Int)) y := ⟨hye⟩
    obtain ⟨d, hde⟩ : ∃ d, y.toNat - 48 = d := ⟨_, rfl⟩
    have v1 : Ve (IntKind.u8.wrap (y - 48)) (d : Int) := ⟨by simp [IntKind.wrap, IntKind.bits, IntKind.signed]; omega⟩
    have v2 : Ve (IntKind.u64.wrap (d : Int)) (d : Int) := ⟨by rw [wrap_u64_id (by omega)]⟩
    rw [hde] at hn s2
    have hd9 : d < 18446744073709551616 := by omega
    have s3 : Sm (V * 10) := s2.mono (by omega)
    have s4 : Sm 10 := Sm.of (k := 4) (by decide) (by decide)
    have s5 : Sm d := s2.mono (by omega)
    rw [hV]
    clear hV hye hde
    refine xr [] [(34, .bool (decide ((i : Int) < (((List.length l) : Nat) : Int))))] ?_
    refine SW_seq ?_
    refine xst z ?_
    refine SW_skip ?_
    refine SW_seq ?_
    refine SW_block ?_
    refine xg ?_
    refine xfi 35 5 (ad) (List.length l) (c) (i) IntKind.i64 ((i : Int)) ⟨rfl⟩ (by omega) ?_
    refine xfle 36 zi0 (i) (y) v0 (by omega) ?_
    refine xz [] [(6, .int .u8 y)] ?_
    refine SW_region ?_
    refine xn 1 [] [(37, .slice A2 (List.length (ofN B64 V)) c2)] ?_
    refine xcr 38 (ct_impl_word (10) (10) ⟨rfl⟩ (by omega)) zs0 (fun A3 k3 => ?_)
    refine xcr 39 (ct_impl_nat_mul (V) (10) (A2) (A3) (c2) (k3) s1 s4) (zsS (ziS (ziS zi0)) (zsS zi0 zs0)) (fun A4 k4 => ?_)
    refine xn 4 [] [(40, .int .u8 y)] ?_
    refine xve 41 IntKind.u8 (IntKind.wrap IntKind.u8 (y - 48)) ((d : Int)) v1 ?_
    refine xve 42 IntKind.u64 (IntKind.wrap IntKind.u64 (d : Int)) ((d : Int)) v2 ?_
    refine xcr 43 (ct_impl_word ((d : Int)) (d) ⟨rfl⟩ hd9) zs0 (fun A5 k5 => ?_)
    refine xcr 44 (ct_impl_nat_add (V * 10) (d) (A4) (A5) (k4) (k5) s3 s5) (zsS (ziS zi0) (zsS zi0 zs0)) (fun A6 k6 => ?_)
    refine xz [] [(4, .slice A6 (List.length (ofN B64 (V * 10 + d))) k6)] ?_
    refine SW_region ?_
    refine xve 45 IntKind.i64 (IntKind.wrap IntKind.i64 ((i : Int) + 1)) ((((i + 1) : Nat) : Int)) vi ?_
    refine xz [] [(33, .int .i64 (((i + 1) : Nat) : Int))] ?_
    rw [← hn]
    refine ⟨m, by omega, i + 1, A6, k6, by omega, ?_⟩
    exact xw (zsS (ziS (ziS (ziS (ziS zi0)))) (zsS zi0 zs0))
   ·have z : decide ((i : Int) < (l.length : Int)) = false := decide_eq_false (by omega)
    rw [List.take_of_length_le (by omega)]
    refine xr [] [(34, .bool (decide ((i : Int) < (((List.length l) : Nat) : Int))))] ?_
    refine SW_seq ?_
    refine xsf z ?_
    refine SW_exit ?_
    refine xr [] [(2, .slice A2 (List.length (ofN B64 (decV l))) c2)] ?_
    refine SW_ret ?_
    refine xe (A2, c2) (.slice A2 (List.length (ofN B64 (decV l))) c2) [] ?_ (zsS (ziS zi0) zs0)
    rfl
theorem ct_impl_fromDigits : ∀ (N : Nat) (l : List Int), l.length ≤ N → l.length ≤ 24320 → Dgs l → ∀ A c, CtR Try.prog 53 [.slice A l.length c] [Row .u8 A c l] .u64 (ofN B64 (decV l)) := by
 intro N
 induction N with
 | zero => exact fun l hl hN hd A c => fromDigits_step l (fun l' h => absurd h (by omega)) hN hd A c
 | succ N ih => exact fun l hl hN hd A c => fromDigits_step l (fun l' h hd' => ih l' (by omega) (by omega) hd') hN hd A c
end Go.Proofs.Ytlggnljibebfeaa.M
end
section
namespace Go.Proofs.Ytlggnljibebfeaa.M
open Go.RowKit Go.Proofs.Ytlggnljibebfeaa.G Go.Proofs.YtlggnljibebfeaaV.PrintWords Go.Proofs.YtlggnljibebfeaaV.PrintLast Go.Proofs.Ytlggnljibebfeaa.X
set_option linter.unusedVariables false
set_option linter.unusedSimpArgs false
def nx (bt : List Int) (i : Nat) : Nat := if i < bt.length then (rd bt (i : Int)).toNat else 0
def ni (bt : List Int) (i : Nat) : Nat := if i < bt.length then i + 1 else i
theorem ni_le {bt : List Int} {i : Nat} (h : i ≤ bt.length) : ni bt i ≤ bt.length := by unfold ni; split <;> omega
theorem nx_lt {bt : List Int} (dx : Dig 256 bt) (i : Nat) : nx bt i < 256 := by
 unfold nx
 split
 ·have := dx.rd (by decide) (i : Int)
  omega
 ·decide
theorem next_det (g : Nat) (A : Option Addr) (c : Nat) (bt : List Int) (i : Nat) (hi : i ≤ bt.length) (hx : bt.length ≤ 1048576) (dx : Dig 256 bt) :
  CtM Try.prog 90 [.pointer (some ⟨g, 0, none⟩)] [⟨g, [.slice A bt.length c, .int .i64 (i : Int)], 82⟩] [Row .u8 A c bt] (γ := Unit) (fun _ => .int .i64 (nx bt i : Int)) (fun _ => [⟨g, [.slice A bt.length c, .int .i64 (ni bt i : Int)], 82⟩]) (fun _ => []) := by
 refine cm_of Try.func90 rfl (by kernel_rfl) (fun B w0 => ?_)
 by_cases h : i < bt.length
 ·have z : decide ((i : Int) ≥ (bt.length : Int)) = false := decide_eq_false (by omega)
  refine SW_know zi0 (fun w h => row_at h (by omega)) (fun ⟨ad, e⟩ => ?_)
  subst e
  have v1 : Ve (IntKind.i64.wrap ((i : Int) + 1)) ((i + 1 : Nat) : Int) := ⟨by rw [wrap_i64 (by omega)]; rfl⟩
  have hd := dx.rd (by decide) (i : Int)
  have v2 : Ve (IntKind.i64.wrap (rd bt (i : Int))) (rd bt (i : Int)).toNat := ⟨by rw [wrap_i64 (by omega)]; omega⟩
  rw [nx, ni, if_pos h, if_pos h]
  refine xr [] [(2, .int .i64 0)] ?_
  refine SW_seq ?_
  refine xd (fun hB => ?_)
  refine xdk [(0, []), (1, []), (2, []), (3, [0]), (4, []), (5, []), (6, []), (7, [0]), (8, []), (9, [])] [(13, .bool (decide ((i : Int) ≥ (((List.length bt) : Nat) : Int))))] hB ?_
  refine xdz ?_
  refine xsf z ?_
  refine SW_skip ?_
  refine xd (fun hB => ?_)
  refine xdk [(0, []), (1, []), (2, []), (3, [0]), (4, []), (5, []), (6, []), (7, [0])] [(21, .int .i64 (i : Int)), (17, .slice (some ad) (List.length bt) c)] hB ?_
  refine xdfi 8 hB 22 5 (ad) (List.length bt) (c) (i) IntKind.i64 ((i : Int)) ⟨rfl⟩ (by omega) ?_
  refine xdfl 9 hB 23 zi0 (i) (by omega) ?_
  refine xdk [(10, [])] [(3, .int .u8 (rd bt (i : Int)))] hB ?_
  refine xdz ?_
  refine xg ?_
  refine xn 4 [(3, [0])] [(27, .int .i64 (i : Int)), (24, .pointer (some ⟨g, 0, none⟩))] ?_
  refine xve 28 IntKind.i64 (IntKind.wrap IntKind.i64 ((i : Int) + 1)) ((((i + 1) : Nat) : Int)) v1 ?_
  refine xy [(7, [0])] [] [(0, [.slice (some ad) (List.length bt) c, .int .i64 (((i + 1) : Nat) : Int)])] ?_
  refine xg ?_
  refine xn 1 [] [(31, .int .u8 (rd bt (i : Int)))] ?_
  refine xve 32 IntKind.i64 (IntKind.wrap IntKind.i64 (rd bt (i : Int))) ((((Int.toNat (rd bt (i : Int))) : Nat) : Int)) v2 ?_
  refine xz [] [(2, .int .i64 (((Int.toNat (rd bt (i : Int))) : Nat) : Int))] ?_
  refine SW_ret ?_
  refine xmeg (.int .i64 (((Int.toNat (rd bt (i : Int))) : Nat) : Int)) [] ?_
  exact ⟨(), [true], rfl, rfl, zs0⟩
 ·have z : decide ((i : Int) ≥ (bt.length : Int)) = true := decide_eq_true (by omega)
  rw [nx, ni, if_neg h, if_neg h]
  refine xr [] [(2, .int .i64 0)] ?_
  refine SW_seq ?_
  refine xd (fun hB => ?_)
  refine xdk [(0, []), (1, []), (2, []), (3, [0]), (4, []), (5, []), (6, []), (7, [0]), (8, []), (9, [])] [(13, .bool (decide ((i : Int) ≥ (((List.length bt) : Nat) : Int))))] hB ?_
  refine xdz ?_
  refine xst z ?_
  refine xr [] [(2, .int .i64 0)] ?_
  refine SW_ret ?_
  refine xmeg (.int .i64 0) [] ?_
  exact ⟨(), [true], rfl, rfl, zs0⟩
def wst (bt : List Int) (s : Nat × Nat) : Nat → Nat × Nat
 | 0 => s
 | j + 1 => ((bits .or .u64 (shl .u64 ((wst bt s j).1 : Int) 8) (IntKind.u64.wrap (nx bt (wst bt s j).2 : Int))).toNat, ni bt (wst bt s j).2)
theorem wrapU_ex (z : Int) : ∃ y : Nat, y < 18446744073709551616 ∧ IntKind.u64.wrap z = (y : Int) := by
 refine ⟨(IntKind.u64.wrap z).toNat, ?_, ?_⟩ <;> simp [IntKind.wrap, IntKind.bits, IntKind.signed] <;> omega
theorem or_u64 (a b : Int) : ∃ y : Nat, y < 18446744073709551616 ∧ bits .or .u64 a b = (y : Int) := wrapU_ex _
theorem wst_lt (bt : List Int) (s : Nat × Nat) (hs : s.1 < 18446744073709551616) : ∀ j, (wst bt s j).1 < 18446744073709551616
 | 0 => hs
 | j + 1 => by
  obtain ⟨y, hy, e⟩ := or_u64 (shl .u64 ((wst bt s j).1 : Int) 8) (IntKind.u64.wrap (nx bt (wst bt s j).2 : Int))
  show (bits .or .u64 _ _).toNat < _
  rw [e]
  omega
theorem wst_le {bt : List Int} {s : Nat × Nat} (hs : s.2 ≤ bt.length) : ∀ j, (wst bt s j).2 ≤ bt.length
 | 0 => hs
 | j + 1 => ni_le (wst_le hs j)
theorem wide_det (g : Nat) (A : Option Addr) (c : Nat) (bt : List Int) (i : Nat) (hi : i ≤ bt.length) (hx : bt.length ≤ 1048576) (dx : Dig 256 bt) :
  CtM Try.prog 96 [.pointer (some ⟨g, 0, none⟩)] [⟨g, [.slice A bt.length c, .int .i64 (i : Int)], 82⟩] [Row .u8 A c bt] (γ := Unit) (fun _ => .int .u64 ((wst bt (0, i) 8).1 : Int)) (fun _ => [⟨g, [.slice A bt.length c, .int .i64 ((wst bt (0, i) 8).2 : Int)], 82⟩]) (fun _ => []) := by
 refine cm_of Try.func96 rfl (by kernel_rfl) (fun B w0 => ?_)
 refine xr [] [(2, .int .u64 0)] ?_
 refine xr [] [(3, .int .u64 0)] ?_
 refine SW_seq ?_
 refine xr [] [(4, .int .i64 0)] ?_
 refine SW_block ?_
 refine SW_loopn (fun m s => ∃ (j i' x : Nat), m + j = 8 ∧ wst bt (0, i) j = (x, i') ∧ Weak s ⟨[(0, .pointer (some ⟨g, 0, none⟩)), (3, .int .u64 (x : Int)), (4, .int .i64 (j : Int))], [⟨g, [.slice A bt.length c, .int .i64 (i' : Int)], 82⟩], [Row .u8 A c bt]⟩) 8 ⟨0, i, 0, rfl, rfl, ?_⟩ (fun m s hI => ?_)
 ·exact xw (zsS zi0 zs0)
 ·obtain ⟨j, i', x, h1, h2, hw⟩ := hI
  refine SW_weak hw ?_
  clear hw
  by_cases hj : j < 8
  ·have z : decide ((j : Int) < 8) = true := decide_eq_true (by omega)
   obtain ⟨m, rfl⟩ : ∃ m', m = m' + 1 := ⟨m - 1, by omega⟩
   have v1 : Ve (IntKind.i64.wrap ((j : Int) + 1)) ((j + 1 : Nat) : Int) := ⟨by rw [wrap_i64 (by omega)]; rfl⟩
   have hi' : i' ≤ bt.length := by
    have := wst_le (bt := bt) (s := (0, i)) hi j
    rw [h2] at this
    exact this
   have cn := next_det g A c bt i' hi' hx dx
   obtain ⟨y, hy, ey⟩ := or_u64 (shl .u64 (x : Int) 8) (IntKind.u64.wrap (nx bt i' : Int))
   have h3 : wst bt (0, i) (j + 1) = (y, ni bt i') := by rw [wst, h2, ey]; rfl
   have v2 : Ve (bits .or .u64 (shl .u64 (x : Int) 8) (IntKind.u64.wrap (nx bt i' : Int))) (y : Int) := ⟨ey⟩
   clear ey
   refine SW_seq ?_
   refine xr [] [(6, .bool (decide ((j : Int) < 8)))] ?_
   refine xst z ?_
   refine SW_skip ?_
   refine SW_seq ?_
   refine SW_block ?_
   refine SW_region ?_
   refine xn 3 [] [(11, .pointer (some ⟨g, 0, none⟩)), (10, .int .u64 (IntKind.wrap IntKind.u64 ((x : Int) * 2 ^ min (Int.toNat 8) (IntKind.bits IntKind.u64))))] ?_
   refine xcm 12 [true] cn (zsS zi0 zs0) (fun z0 => ?_)
   refine xn 5 [] [(13, .int .u64 (IntKind.wrap IntKind.u64 (((nx bt i') : Nat) : Int)))] ?_
   refine xve 14 IntKind.u64 (bits BinOp.or IntKind.u64 (shl IntKind.u64 (x : Int) 8) (IntKind.wrap IntKind.u64 (((nx bt i') : Nat) : Int))) ((y : Int)) v2 ?_
   refine xz [] [(3, .int .u64 (y : Int))] ?_
   refine SW_region ?_
   refine xn 1 [] [(7, .int .i64 (j : Int))] ?_
   refine xve 8 IntKind.i64 (IntKind.wrap IntKind.i64 ((j : Int) + 1)) ((((j + 1) : Nat) : Int)) v1 ?_
   refine xz [] [(4, .int .i64 (((j + 1) : Nat) : Int))] ?_
   refine ⟨m, by omega, j + 1, ni bt i', y, by omega, h3, ?_⟩
   exact xw (zsS zi0 zs0)
  ·have z : decide ((j : Int) < 8) = false := decide_eq_false (by omega)
   obtain rfl : j = 8 := by omega
   rw [h2]
   refine SW_seq ?_
   refine xr [] [(6, .bool false)] ?_
   refine xs0 ?_
   refine SW_exit ?_
   refine xr [] [(2, .int .u64 (x : Int))] ?_
   refine SW_ret ?_
   refine xmeg (.int .u64 (x : Int)) [] ?_
   exact ⟨(), [true], rfl, rfl, zs0⟩
def lmb (bt : List Int) (i : Nat) : Nat × Nat :=
 if nx bt i % 6 = 0 then (0, ni bt i)
 else if nx bt i % 6 = 1 then (18446744073709551615, ni bt i)
 else if nx bt i % 6 = 2 then (nx bt i, ni bt i)
 else if nx bt i % 6 = 3 then (2 ^ (nx bt (ni bt i) % 64), ni bt (ni bt i))
 else wst bt (0, ni bt i) 8
theorem lmb_lt {bt : List Int} (dx : Dig 256 bt) (i : Nat) : (lmb bt i).1 < 18446744073709551616 := by
 unfold lmb
 have := nx_lt dx i
 repeat' split
 ·show 0 < _; omega
 ·show 18446744073709551615 < _; omega
 ·show nx bt i < _; omega
 ·show 2 ^ _ < 2 ^ 64
  exact Nat.pow_lt_pow_right (by decide) (Nat.mod_lt _ (by decide))
 ·exact wst_lt bt _ (by show 0 < _; omega) 8
theorem lmb_le {bt : List Int} {i : Nat} (h : i ≤ bt.length) : (lmb bt i).2 ≤ bt.length := by
 unfold lmb
 repeat' split
 ·exact ni_le h
 ·exact ni_le h
 ·exact ni_le h
 ·exact ni_le (ni_le h)
 ·exact wst_le (s := (0, ni bt i)) (ni_le h) 8
def lmbs (bt : List Int) : Nat → List Int × Nat → List Int × Nat
 | 0, s => s
 | n + 1, s => lmbs bt n (s.1 ++ [((lmb bt s.2).1 : Int)], (lmb bt s.2).2)
theorem lmbs_len (bt : List Int) : ∀ n s, (lmbs bt n s).1.length = s.1.length + n
 | 0, _ => rfl
 | n + 1, s => by
  rw [lmbs, lmbs_len bt n]
  simp
  omega
def lmbT (bt : List Int) : Nat → List Int × Nat → List Int × Nat
 | 0, s => s
 | f + 1, s => if s.1.length < 1200 + nx bt s.2 % 2 then lmbT bt f (s.1 ++ [(s.1.length : Int)], ni bt s.2) else (s.1, ni bt s.2)
def lmbN (k : Nat) : Nat := if 240 ≤ k then 8 + k % 16 * 3 else k % 7
def drawL (bt : List Int) (i : Nat) : List Int × Nat :=
 if nx bt i = 255 then lmbT bt 1300 (lmbs bt (lmbN (nx bt i)) ([], ni bt i)) else lmbs bt (lmbN (nx bt i)) ([], ni bt i)
structure LmOk (bt : List Int) (n : Nat) (s : List Int × Nat) : Prop where
 d : Dig B64 s.1
 l : s.1.length ≤ n
 i : s.2 ≤ bt.length
theorem dig_snoc {B : Nat} {l : List Int} (h : Dig B l) {x : Nat} (hx : x < B) : Dig B (l ++ [(x : Int)]) := by
 intro y hy
 rcases List.mem_append.1 hy with h1 | h1
 ·exact h y h1
 ·rw [List.mem_singleton.1 h1]
  omega
theorem lmbs_ok {bt : List Int} (dx : Dig 256 bt) : ∀ n m s, LmOk bt m s → LmOk bt (m + n) (lmbs bt n s)
 | 0, _, _, h => h
 | n + 1, m, s, h => by
  have := lmbs_ok dx n (m + 1) (s.1 ++ [((lmb bt s.2).1 : Int)], (lmb bt s.2).2) ⟨dig_snoc h.d (lmb_lt dx _), by have := h.l; simp; omega, lmb_le h.i⟩
  rw [show m + (n + 1) = m + 1 + n by omega]
  exact this
theorem lmbT_ok {bt : List Int} : ∀ f s, LmOk bt 1201 s → LmOk bt 1201 (lmbT bt f s)
 | 0, _, h => h
 | f + 1, s, h => by
  rw [lmbT]
  split
  ·next hc =>
   have hl : s.1.length < 1201 := by have := Nat.mod_lt (nx bt s.2) (show 0 < 2 by decide); omega
   exact lmbT_ok f _ ⟨dig_snoc h.d (by unfold B64; omega), by simp; omega, ni_le h.i⟩
  ·exact ⟨h.d, h.l, ni_le h.i⟩
theorem drawL_ok {bt : List Int} (dx : Dig 256 bt) {i : Nat} (hi : i ≤ bt.length) : LmOk bt 1201 (drawL bt i) := by
 have hn : lmbN (nx bt i) ≤ 53 := by
  unfold lmbN
  have := Nat.mod_lt (nx bt i) (show 0 < 16 by decide)
  have := Nat.mod_lt (nx bt i) (show 0 < 7 by decide)
  split <;> omega
 have h := lmbs_ok dx (lmbN (nx bt i)) 0 ([], ni bt i) ⟨fun y hy => (by cases hy), Nat.le_refl _, ni_le hi⟩
 have h2 : LmOk bt 1201 (lmbs bt (lmbN (nx bt i)) ([], ni bt i)) := ⟨h.d, by have := h.l; omega, h.i⟩
 unfold drawL
 split
 ·exact lmbT_ok _ _ h2
 ·exact h2
end Go.Proofs.Ytlggnljibebfeaa.M
end
section
namespace Go.Proofs.Ytlggnljibebfeaa.M
open Go.RowKit Go.Proofs.Ytlggnljibebfeaa.G Go.Proofs.YtlggnljibebfeaaV.PrintWords Go.Proofs.YtlggnljibebfeaaV.PrintLast Go.Proofs.Ytlggnljibebfeaa.X
set_option linter.unusedVariables false
set_option linter.unusedSimpArgs false
theorem limbs_det (g : Nat) (A : Option Addr) (c : Nat) (bt : List Int) (i : Nat) (hi : i ≤ bt.length) (hx : bt.length ≤ 1048576) (dx : Dig 256 bt) :
  CtM Try.prog 51 [.pointer (some ⟨g, 0, none⟩)] [⟨g, [.slice A bt.length c, .int .i64 (i : Int)], 82⟩] [Row .u8 A c bt] (γ := Option Addr × Nat) (fun p => .slice p.1 (drawL bt i).1.length p.2) (fun _ => [⟨g, [.slice A bt.length c, .int .i64 ((drawL bt i).2 : Int)], 82⟩]) (fun p => [Row .u64 p.1 p.2 (drawL bt i).1]) := by
 have cn0 := next_det g A c bt i hi hx dx
 have hk := nx_lt dx i
 have hi1 := ni_le hi
 obtain ⟨⟨S, si⟩, hs⟩ : ∃ s, lmbs bt (lmbN (nx bt i)) ([], ni bt i) = s := ⟨_, rfl⟩
 have hD : drawL bt i = if nx bt i = 255 then lmbT bt 1300 (S, si) else (S, si) := by rw [drawL, hs]
 have hok := lmbs_ok dx (lmbN (nx bt i)) 0 ([], ni bt i) ⟨fun y hy => (by cases hy), Nat.le_refl _, hi1⟩
 rw [hs] at hok
 have hn : lmbN (nx bt i) ≤ 53 := by
  unfold lmbN
  have := Nat.mod_lt (nx bt i) (show 0 < 16 by decide)
  have := Nat.mod_lt (nx bt i) (show 0 < 7 by decide)
  split <;> omega
 obtain ⟨k, hk0⟩ : ∃ k, nx bt i = k := ⟨_, rfl⟩
 rw [hk0] at hk cn0 hs hD hn hok
 refine cm_of Try.func51 rfl (by kernel_rfl) (fun B w0 => ?_)
 refine xr [] [(2, .slice none 0 0)] ?_
 refine xg ?_
 refine xn 1 [] [(7, .pointer (some ⟨g, 0, none⟩))] ?_
 refine xcm 8 [true] cn0 (zsS zi0 zs0) (fun z0 => ?_)
 refine xz [] [(3, .int .i64 (k : Int))] ?_
 refine xr [] [(4, .int .i64 (Int.tmod (k : Int) 7))] ?_
 refine SW_cut (fun s' => Weak s' ⟨[(0, .pointer (some ⟨g, 0, none⟩)), (3, .int .i64 (k : Int)), (4, .int .i64 (lmbN k : Int))], [⟨g, [.slice A bt.length c, .int .i64 (ni bt i : Int)], 82⟩], [Row .u8 A c bt]⟩) ?_ (fun s' hw => ?_)
 ·by_cases hk2 : 240 ≤ k
  ·have z : decide ((k : Int) ≥ 240) = true := decide_eq_true (by omega)
   have v1 : Ve (IntKind.i64.wrap ((k : Int).tmod 16 * 3)) ((k % 16 * 3 : Nat) : Int) := ⟨by rw [Int.tmod_eq_emod_of_nonneg (by omega), wrap_i64 (by omega)]; omega⟩
   have v2 : Ve (IntKind.i64.wrap (8 + ((k % 16 * 3 : Nat) : Int))) (lmbN k : Int) := ⟨by rw [lmbN, if_pos hk2, wrap_i64 (by omega)]; omega⟩
   refine xr [] [(12, .bool (decide ((k : Int) ≥ 240)))] ?_
   refine xst z ?_
   refine SW_region ?_
   refine xn 2 [] [(14, .int .i64 (Int.tmod (k : Int) 16))] ?_
   refine xve 15 IntKind.i64 (IntKind.wrap IntKind.i64 (Int.tmod (k : Int) 16 * 3)) ((((k % 16 * 3) : Nat) : Int)) v1 ?_
   refine xve 16 IntKind.i64 (IntKind.wrap IntKind.i64 (8 + (((k % 16 * 3) : Nat) : Int))) ((((lmbN k) : Nat) : Int)) v2 ?_
   refine xz [] [(4, .int .i64 (((lmbN k) : Nat) : Int))] ?_
   exact xw (zsS zi0 zs0)
  ·have z : decide ((k : Int) ≥ 240) = false := decide_eq_false (by omega)
   have v1 : Ve ((k : Int).tmod 7) (lmbN k : Int) := ⟨by rw [lmbN, if_neg hk2, Int.tmod_eq_emod_of_nonneg (by omega)]; omega⟩
   refine xr [] [(12, .bool (decide ((k : Int) ≥ 240)))] ?_
   refine xsf z ?_
   refine SW_skip ?_
   rw [v1.out]
   exact xw (zsS zi0 zs0)
 ·refine SW_weak hw ?_
  clear hw
  refine xr [] [(5, .slice none 0 0)] ?_
  refine SW_cut (fun s' => ∃ (sl : Value) (bx : List Box), Own 36 .u64 sl bx S ∧ Weak s' ⟨[(0, .pointer (some ⟨g, 0, none⟩)), (3, .int .i64 (k : Int)), (5, sl)], ⟨g, [.slice A bt.length c, .int .i64 (si : Int)], 82⟩ :: bx, [Row .u8 A c bt]⟩) ?_ (fun s' hs' => ?_)
  ·refine SW_block ?_
   refine SW_loopn (fun m s' => ∃ (O : List Int) (j : Nat) (sl : Value) (bx : List Box), lmbs bt m (O, j) = (S, si) ∧ O.length + m ≤ 53 ∧ j ≤ bt.length ∧ Own 36 .u64 sl bx O ∧ Weak s' ⟨[(0, .pointer (some ⟨g, 0, none⟩)), (3, .int .i64 (k : Int)), (4, .int .i64 (m : Int)), (5, sl)], ⟨g, [.slice A bt.length c, .int .i64 (j : Int)], 82⟩ :: bx, [Row .u8 A c bt]⟩) (lmbN k) ⟨[], ni bt i, _, _, hs, by simpa using hn, hi1, Own.nil 36 .u64, ?_⟩ (fun m s' hI => ?_)
   ·exact xw (zsS zi0 zs0)
   ·obtain ⟨O, j, sl, bx, h1, h2, h3, hO, hw⟩ := hI
    refine SW_weak hw ?_
    clear hw
    match m, h1, h2 with
    | 0, h1, h2 =>
     have z : decide (((0 : Nat) : Int) > 0) = false := rfl
     obtain ⟨rfl, rfl⟩ : O = S ∧ j = si := by
      have h1' : (O, j) = (S, si) := h1
      exact ⟨congrArg Prod.fst h1', congrArg Prod.snd h1'⟩
     rcases hO with ⟨rfl, rfl, rfl⟩ | ⟨g2, r, cc, hcc, rfl, rfl⟩
     ·refine SW_seq ?_
      refine xr [] [(18, .bool false)] ?_
      refine xs0 ?_
      refine SW_exit ?_
      refine ⟨_, _, Own.nil 36 .u64, ?_⟩
      exact xw (zsS zi0 zs0)
     ·refine SW_seq ?_
      refine xr [] [(18, .bool false)] ?_
      refine xs0 ?_
      refine SW_exit ?_
      refine ⟨_, _, .inr ⟨g2, r, cc, hcc, rfl, rfl⟩, ?_⟩
      exact xw (zsS zi0 zs0)
    | m + 1, h1, h2 =>
     have z : decide (((m + 1 : Nat) : Int) > 0) = true := decide_eq_true (by omega)
     have vm : Ve (IntKind.i64.wrap (((m + 1 : Nat) : Int) - 1)) (m : Int) := ⟨by rw [wrap_i64 (by omega)]; omega⟩
     have cn := next_det g A c bt j h3 hx dx
     have hi2 := ni_le h3
     have hb := nx_lt dx j
     have cn2 := next_det g A c bt (ni bt j) hi2 hx dx
     have cw := wide_det g A c bt (ni bt j) hi2 hx dx
     have hb2 := nx_lt dx (ni bt j)
     have hle := lmb_le h3
     obtain ⟨b, hbe⟩ : ∃ b, nx bt j = b := ⟨_, rfl⟩
     have v6 : Ve ((b : Int).tmod 6) ((b % 6 : Nat) : Int) := ⟨by rw [Int.tmod_eq_emod_of_nonneg (by omega)]; rfl⟩
     rw [hbe] at cn hb
     rw [lmbs] at h1
     clear hs hok cn0 hD hk0
     by_cases c0 : b % 6 = 0
     ·have e : lmb bt j = (0, ni bt j) := by rw [lmb, hbe, if_pos c0]
      rw [e] at h1 hle
      have z0 : (((b % 6 : Nat) : Int) == 0) = true := by rw [c0]; rfl
      clear e
      rcases hO with ⟨rfl, rfl, rfl⟩ | ⟨g2, r, cc, hcc, rfl, rfl⟩
      ·refine SW_seq ?_
       refine xr [] [(18, .bool (decide ((((m + 1) : Nat) : Int) > 0)))] ?_
       refine xst z ?_
       refine SW_skip ?_
       refine SW_seq ?_
       refine SW_block ?_
       refine xg ?_
       refine xn 1 [] [(21, .pointer (some ⟨g, 0, none⟩))] ?_
       refine xcm 22 [true] cn (zsS zi0 zs0) (fun z1 => ?_)
       refine xz [] [(6, .int .i64 (b : Int))] ?_
       refine xg ?_
       refine xn 1 [] [(23, .int .i64 (b : Int))] ?_
       refine xve 24 IntKind.i64 (Int.tmod (b : Int) 6) ((((b % 6) : Nat) : Int)) v6 ?_
       refine xz [] [] ?_
       refine SW_block ?_
       refine xr [] [(30, .bool ((((b % 6) : Nat) : Int) == 0))] ?_
       refine xst z0 ?_
       refine SW_region ?_
       refine xn 1 [] [(32, .slice none 0 0)] ?_
       refine xbl 33 [.int .u64 0] 36 1 (fun g0 => ?_)
       refine xa0 (hp := by simp) (hl := by simp) 34 1 36 8 (g0) (1) IntKind.u64 36 [0] (fun g1 r0 c1 hc0 => ?_)
       refine xz [] [(5, .slice (some ⟨g1, 0, none⟩) 1 c1)] ?_
       refine SW_region ?_
       refine xn 1 [] [(19, .int .i64 (((m + 1) : Nat) : Int))] ?_
       refine xve 20 IntKind.i64 (IntKind.wrap IntKind.i64 ((((m + 1) : Nat) : Int) - 1)) ((m : Int)) vm ?_
       refine xz [] [(4, .int .i64 (m : Int))] ?_
       refine ⟨m, by omega, [0], _, _, _, h1, by simp at h2 ⊢; omega, hle, .inr ⟨g1, r0, _, hc0, rfl, rfl⟩, ?_⟩
       exact xw (zsS zi0 zs0)
      ·refine SW_seq ?_
       refine xr [] [(18, .bool (decide ((((m + 1) : Nat) : Int) > 0)))] ?_
       refine xst z ?_
       refine SW_skip ?_
       refine SW_seq ?_
       refine SW_block ?_
       refine xg ?_
       refine xn 1 [] [(21, .pointer (some ⟨g, 0, none⟩))] ?_
       refine xcm 22 [true] cn (zsS zi0 zs0) (fun z1 => ?_)
       refine xz [] [(6, .int .i64 (b : Int))] ?_
       refine xg ?_
       refine xn 1 [] [(23, .int .i64 (b : Int))] ?_
       refine xve 24 IntKind.i64 (Int.tmod (b : Int) 6) ((((b % 6) : Nat) : Int)) v6 ?_
       refine xz [] [] ?_
       refine SW_block ?_
       refine xr [] [(30, .bool ((((b % 6) : Nat) : Int) == 0))] ?_
       refine xst z0 ?_
       refine SW_region ?_
       refine xn 1 [] [(32, .slice (some ⟨g2, 0, none⟩) (List.length O) cc)] ?_
       refine xbl 33 [.int .u64 0] 36 1 (fun g3 => ?_)
       refine xap 34 1 2 1 36 8 (g2) (g3) (cc) (1) IntKind.u64 36 (O) (r) [0] (by omega) (by omega) (fun g4 r0 c1 hc0 => ?_)
       refine xz [] [(5, .slice (some ⟨g4, 0, none⟩) (List.length (O ++ [0])) c1)] ?_
       refine SW_region ?_
       refine xn 1 [] [(19, .int .i64 (((m + 1) : Nat) : Int))] ?_
       refine xve 20 IntKind.i64 (IntKind.wrap IntKind.i64 ((((m + 1) : Nat) : Int) - 1)) ((m : Int)) vm ?_
       refine xz [] [(4, .int .i64 (m : Int))] ?_
       refine ⟨m, by omega, _, _, _, _, h1, by simp at h2 ⊢; omega, hle, .inr ⟨g4, r0, _, hc0, rfl, rfl⟩, ?_⟩
       exact xw (zsS zi0 zs0)
     ·skip
      by_cases c1 : b % 6 = 1
      ·have e : lmb bt j = (18446744073709551615, ni bt j) := by rw [lmb, hbe, if_neg c0, if_pos c1]
       rw [e] at h1 hle
       have z0 : (((b % 6 : Nat) : Int) == 0) = false := by rw [beq_eq_false_iff_ne]; omega
       have z1 : (((b % 6 : Nat) : Int) == 1) = true := by rw [c1]; rfl
       clear e
       rcases hO with ⟨rfl, rfl, rfl⟩ | ⟨g2, r, cc, hcc, rfl, rfl⟩
       ·refine SW_seq ?_
        refine xr [] [(18, .bool (decide ((((m + 1) : Nat) : Int) > 0)))] ?_
        refine xst z ?_
        refine SW_skip ?_
        refine SW_seq ?_
        refine SW_block ?_
        refine xg ?_
        refine xn 1 [] [(21, .pointer (some ⟨g, 0, none⟩))] ?_
        refine xcm 22 [true] cn (zsS zi0 zs0) (fun z2 => ?_)
        refine xz [] [(6, .int .i64 (b : Int))] ?_
        refine xg ?_
        refine xn 1 [] [(23, .int .i64 (b : Int))] ?_
        refine xve 24 IntKind.i64 (Int.tmod (b : Int) 6) ((((b % 6) : Nat) : Int)) v6 ?_
        refine xz [] [] ?_
        refine SW_block ?_
        refine xr [] [(30, .bool ((((b % 6) : Nat) : Int) == 0))] ?_
        refine xsf z0 ?_
        refine xr [] [(35, .bool ((((b % 6) : Nat) : Int) == 1))] ?_
        refine xst z1 ?_
        refine SW_region ?_
        refine xn 1 [] [(37, .slice none 0 0)] ?_
        refine xbl 38 [.int .u64 18446744073709551615] 36 1 (fun g0 => ?_)
        refine xa0 (hp := by simp) (hl := by simp) 39 1 36 8 (g0) (1) IntKind.u64 36 [18446744073709551615] (fun g1 r0 c2 hc0 => ?_)
        refine xz [] [(5, .slice (some ⟨g1, 0, none⟩) 1 c2)] ?_
        refine SW_region ?_
        refine xn 1 [] [(19, .int .i64 (((m + 1) : Nat) : Int))] ?_
        refine xve 20 IntKind.i64 (IntKind.wrap IntKind.i64 ((((m + 1) : Nat) : Int) - 1)) ((m : Int)) vm ?_
        refine xz [] [(4, .int .i64 (m : Int))] ?_
        refine ⟨m, by omega, _, _, _, _, h1, by simp at h2 ⊢; omega, hle, .inr ⟨g1, r0, _, hc0, rfl, rfl⟩, ?_⟩
        exact xw (zsS zi0 zs0)
       ·refine SW_seq ?_
        refine xr [] [(18, .bool (decide ((((m + 1) : Nat) : Int) > 0)))] ?_
        refine xst z ?_
        refine SW_skip ?_
        refine SW_seq ?_
        refine SW_block ?_
        refine xg ?_
        refine xn 1 [] [(21, .pointer (some ⟨g, 0, none⟩))] ?_
        refine xcm 22 [true] cn (zsS zi0 zs0) (fun z2 => ?_)
        refine xz [] [(6, .int .i64 (b : Int))] ?_
        refine xg ?_
        refine xn 1 [] [(23, .int .i64 (b : Int))] ?_
        refine xve 24 IntKind.i64 (Int.tmod (b : Int) 6) ((((b % 6) : Nat) : Int)) v6 ?_
        refine xz [] [] ?_
        refine SW_block ?_
        refine xr [] [(30, .bool ((((b % 6) : Nat) : Int) == 0))] ?_
        refine xsf z0 ?_
        refine xr [] [(35, .bool ((((b % 6) : Nat) : Int) == 1))] ?_
        refine xst z1 ?_
        refine SW_region ?_
        refine xn 1 [] [(37, .slice (some ⟨g2, 0, none⟩) (List.length O) cc)] ?_
        refine xbl 38 [.int .u64 18446744073709551615] 36 1 (fun g3 => ?_)
        refine xap 39 1 2 1 36 8 (g2) (g3) (cc) (1) IntKind.u64 36 (O) (r) [18446744073709551615] (by omega) (by omega) (fun g4 r0 c2 hc0 => ?_)
        refine xz [] [(5, .slice (some ⟨g4, 0, none⟩) (List.length (O ++ [18446744073709551615])) c2)] ?_
        refine SW_region ?_
        refine xn 1 [] [(19, .int .i64 (((m + 1) : Nat) : Int))] ?_
        refine xve 20 IntKind.i64 (IntKind.wrap IntKind.i64 ((((m + 1) : Nat) : Int) - 1)) ((m : Int)) vm ?_
        refine xz [] [(4, .int .i64 (m : Int))] ?_
        refine ⟨m, by omega, _, _, _, _, h1, by simp at h2 ⊢; omega, hle, .inr ⟨g4, r0, _, hc0, rfl, rfl⟩, ?_⟩
        exact xw (zsS zi0 zs0)
      ·skip
       by_cases c2 : b % 6 = 2
       ·have e : lmb bt j = (b, ni bt j) := by rw [lmb, hbe, if_neg c0, if_neg c1, if_pos c2]
        rw [e] at h1 hle
        have z0 : (((b % 6 : Nat) : Int) == 0) = false := by rw [beq_eq_false_iff_ne]; omega
        have z1 : (((b % 6 : Nat) : Int) == 1) = false := by rw [beq_eq_false_iff_ne]; omega
        have z2 : (((b % 6 : Nat) : Int) == 2) = true := by rw [c2]; rfl
        have v7 : Ve (IntKind.u64.wrap (b : Int)) (b : Int) := ⟨by rw [wrap_u64_id (by omega)]⟩
        clear e
        rcases hO with ⟨rfl, rfl, rfl⟩ | ⟨g2, r, cc, hcc, rfl, rfl⟩
        ·refine SW_seq ?_
         refine xr [] [(18, .bool (decide ((((m + 1) : Nat) : Int) > 0)))] ?_
         refine xst z ?_
         refine SW_skip ?_
         refine SW_seq ?_
         refine SW_block ?_
         refine xg ?_
         refine xn 1 [] [(21, .pointer (some ⟨g, 0, none⟩))] ?_
         refine xcm 22 [true] cn (zsS zi0 zs0) (fun z3 => ?_)
         refine xz [] [(6, .int .i64 (b : Int))] ?_
         refine xg ?_
         refine xn 1 [] [(23, .int .i64 (b : Int))] ?_
         refine xve 24 IntKind.i64 (Int.tmod (b : Int) 6) ((((b % 6) : Nat) : Int)) v6 ?_
         refine xz [] [] ?_
         refine SW_block ?_
         refine xr [] [(30, .bool ((((b % 6) : Nat) : Int) == 0))] ?_
         refine xsf z0 ?_
         refine xr [] [(35, .bool ((((b % 6) : Nat) : Int) == 1))] ?_
         refine xsf z1 ?_
         refine xr [] [(40, .bool ((((b % 6) : Nat) : Int) == 2))] ?_
         refine xst z2 ?_
         refine SW_region ?_
         refine xn 2 [] [(43, .int .i64 (b : Int)), (42, .slice none 0 0)] ?_
         refine xve 44 IntKind.u64 (IntKind.wrap IntKind.u64 (b : Int)) ((b : Int)) v7 ?_
         refine xbl 45 [.int .u64 (b : Int)] 36 1 (fun g0 => ?_)
         refine xa0 (hp := by simp) (hl := by simp) 46 1 36 8 (g0) (1) IntKind.u64 36 [(b : Int)] (fun g1 r0 c3 hc0 => ?_)
         refine xz [] [(5, .slice (some ⟨g1, 0, none⟩) (List.length [(b : Int)]) c3)] ?_
         refine SW_region ?_
         refine xn 1 [] [(19, .int .i64 (((m + 1) : Nat) : Int))] ?_
         refine xve 20 IntKind.i64 (IntKind.wrap IntKind.i64 ((((m + 1) : Nat) : Int) - 1)) ((m : Int)) vm ?_
         refine xz [] [(4, .int .i64 (m : Int))] ?_
         refine ⟨m, by omega, _, _, _, _, h1, by simp at h2 ⊢; omega, hle, .inr ⟨g1, r0, _, hc0, rfl, rfl⟩, ?_⟩
         exact xw (zsS zi0 zs0)
        ·refine SW_seq ?_
         refine xr [] [(18, .bool (decide ((((m + 1) : Nat) : Int) > 0)))] ?_
         refine xst z ?_
         refine SW_skip ?_
         refine SW_seq ?_
         refine SW_block ?_
         refine xg ?_
         refine xn 1 [] [(21, .pointer (some ⟨g, 0, none⟩))] ?_
         refine xcm 22 [true] cn (zsS zi0 zs0) (fun z3 => ?_)
         refine xz [] [(6, .int .i64 (b : Int))] ?_
         refine xg ?_
         refine xn 1 [] [(23, .int .i64 (b : Int))] ?_
         refine xve 24 IntKind.i64 (Int.tmod (b : Int) 6) ((((b % 6) : Nat) : Int)) v6 ?_
         refine xz [] [] ?_
         refine SW_block ?_
         refine xr [] [(30, .bool ((((b % 6) : Nat) : Int) == 0))] ?_
         refine xsf z0 ?_
         refine xr [] [(35, .bool ((((b % 6) : Nat) : Int) == 1))] ?_
         refine xsf z1 ?_
         refine xr [] [(40, .bool ((((b % 6) : Nat) : Int) == 2))] ?_
         refine xst z2 ?_
         refine SW_region ?_
         refine xn 2 [] [(43, .int .i64 (b : Int)), (42, .slice (some ⟨g2, 0, none⟩) (List.length O) cc)] ?_
         refine xve 44 IntKind.u64 (IntKind.wrap IntKind.u64 (b : Int)) ((b : Int)) v7 ?_
         refine xbl 45 [.int .u64 (b : Int)] 36 1 (fun g3 => ?_)
         refine xap 46 1 2 1 36 8 (g2) (g3) (cc) (1) IntKind.u64 36 (O) (r) [(b : Int)] (by omega) (by omega) (fun g4 r0 c3 hc0 => ?_)
         refine xz [] [(5, .slice (some ⟨g4, 0, none⟩) (List.length (O ++ [(b : Int)])) c3)] ?_
         refine SW_region ?_
         refine xn 1 [] [(19, .int .i64 (((m + 1) : Nat) : Int))] ?_
         refine xve 20 IntKind.i64 (IntKind.wrap IntKind.i64 ((((m + 1) : Nat) : Int) - 1)) ((m : Int)) vm ?_
         refine xz [] [(4, .int .i64 (m : Int))] ?_
         refine ⟨m, by omega, _, _, _, _, h1, by simp at h2 ⊢; omega, hle, .inr ⟨g4, r0, _, hc0, rfl, rfl⟩, ?_⟩
         exact xw (zsS zi0 zs0)
       ·skip
        by_cases c3 : b % 6 = 3
        ·have e : lmb bt j = (2 ^ (nx bt (ni bt j) % 64), ni bt (ni bt j)) := by rw [lmb, hbe, if_neg c0, if_neg c1, if_neg c2, if_pos c3]
         rw [e] at h1 hle
         have z0 : (((b % 6 : Nat) : Int) == 0) = false := by rw [beq_eq_false_iff_ne]; omega
         have z1 : (((b % 6 : Nat) : Int) == 1) = false := by rw [beq_eq_false_iff_ne]; omega
         have z2 : (((b % 6 : Nat) : Int) == 2) = false := by rw [beq_eq_false_iff_ne]; omega
         have z3 : (((b % 6 : Nat) : Int) == 3) = true := by rw [c3]; rfl
         obtain ⟨b2, hb2e⟩ : ∃ b2, nx bt (ni bt j) = b2 := ⟨_, rfl⟩
         rw [hb2e] at cn2 hb2 h1
         have v7 : Ve ((b2 : Int).tmod 64) ((b2 % 64 : Nat) : Int) := ⟨by rw [Int.tmod_eq_emod_of_nonneg (by omega)]; rfl⟩
         have v8 : Ve (IntKind.u64.wrap ((b2 % 64 : Nat) : Int)) ((b2 % 64 : Nat) : Int) := ⟨by rw [wrap_u64_id (by omega)]⟩
         have v9 : Ve (shl .u64 1 ((b2 % 64 : Nat) : Int)) ((2 ^ (b2 % 64) : Nat) : Int) := ⟨by have := shl_nat 1 (b2 % 64) (by omega); rw [show ((1 : Nat) : Int) = 1 from rfl] at this; rw [this, Nat.one_mul, Nat.mod_eq_of_lt (by have := Nat.pow_lt_pow_right (show 1 < 2 by decide) (Nat.mod_lt b2 (show 0 < 64 by decide)); omega)]⟩
         clear e
         rcases hO with ⟨rfl, rfl, rfl⟩ | ⟨g2, r, cc, hcc, rfl, rfl⟩
         ·refine SW_seq ?_
          refine xr [] [(18, .bool (decide ((((m + 1) : Nat) : Int) > 0)))] ?_
          refine xst z ?_
          refine SW_skip ?_
          refine SW_seq ?_
          refine SW_block ?_
          refine xg ?_
          refine xn 1 [] [(21, .pointer (some ⟨g, 0, none⟩))] ?_
          refine xcm 22 [true] cn (zsS zi0 zs0) (fun z4 => ?_)
          refine xz [] [(6, .int .i64 (b : Int))] ?_
          refine xg ?_
          refine xn 1 [] [(23, .int .i64 (b : Int))] ?_
          refine xve 24 IntKind.i64 (Int.tmod (b : Int) 6) ((((b % 6) : Nat) : Int)) v6 ?_
          refine xz [] [] ?_
          refine SW_block ?_
          refine xr [] [(30, .bool ((((b % 6) : Nat) : Int) == 0))] ?_
          refine xsf z0 ?_
          refine xr [] [(35, .bool ((((b % 6) : Nat) : Int) == 1))] ?_
          refine xsf z1 ?_
          refine xr [] [(40, .bool ((((b % 6) : Nat) : Int) == 2))] ?_
          refine xsf z2 ?_
          refine xr [] [(47, .bool ((((b % 6) : Nat) : Int) == 3))] ?_
          refine xst z3 ?_
          refine SW_region ?_
          refine xn 2 [] [(50, .pointer (some ⟨g, 0, none⟩)), (49, .slice none 0 0)] ?_
          refine xcm 51 [true] cn2 (zsS zi0 zs0) (fun z5 => ?_)
          refine xve 52 IntKind.i64 (Int.tmod (b2 : Int) 64) ((((b2 % 64) : Nat) : Int)) v7 ?_
          refine xve 53 IntKind.u64 (IntKind.wrap IntKind.u64 (((b2 % 64) : Nat) : Int)) ((((b2 % 64) : Nat) : Int)) v8 ?_
          refine xve 54 IntKind.u64 (shl IntKind.u64 1 (((b2 % 64) : Nat) : Int)) ((((2 ^ (b2 % 64)) : Nat) : Int)) v9 ?_
          refine xbl 55 [.int .u64 (((2 ^ (b2 % 64)) : Nat) : Int)] 36 1 (fun g0 => ?_)
          refine xa0 (hp := by simp) (hl := by simp) 56 1 36 8 (g0) (1) IntKind.u64 36 [(((2 ^ (b2 % 64)) : Nat) : Int)] (fun g1 r0 c4 hc0 => ?_)
          refine xz [] [(5, .slice (some ⟨g1, 0, none⟩) (List.length [(((2 ^ (b2 % 64)) : Nat) : Int)]) c4)] ?_
          refine SW_region ?_
          refine xn 1 [] [(19, .int .i64 (((m + 1) : Nat) : Int))] ?_
          refine xve 20 IntKind.i64 (IntKind.wrap IntKind.i64 ((((m + 1) : Nat) : Int) - 1)) ((m : Int)) vm ?_
          refine xz [] [(4, .int .i64 (m : Int))] ?_
          refine ⟨m, by omega, _, _, _, _, h1, by simp at h2 ⊢; omega, hle, .inr ⟨g1, r0, _, hc0, rfl, rfl⟩, ?_⟩
          exact xw (zsS zi0 zs0)
         ·refine SW_seq ?_
          refine xr [] [(18, .bool (decide ((((m + 1) : Nat) : Int) > 0)))] ?_
          refine xst z ?_
          refine SW_skip ?_
          refine SW_seq ?_
          refine SW_block ?_
          refine xg ?_
          refine xn 1 [] [(21, .pointer (some ⟨g, 0, none⟩))] ?_
          refine xcm 22 [true] cn (zsS zi0 zs0) (fun z4 => ?_)
          refine xz [] [(6, .int .i64 (b : Int))] ?_
          refine xg ?_
          refine xn 1 [] [(23, .int .i64 (b : Int))] ?_
          refine xve 24 IntKind.i64 (Int.tmod (b : Int) 6) ((((b % 6) : Nat) : Int)) v6 ?_
          refine xz [] [] ?_
          refine SW_block ?_
          refine xr [] [(30, .bool ((((b % 6) : Nat) : Int) == 0))] ?_
          refine xsf z0 ?_
          refine xr [] [(35, .bool ((((b % 6) : Nat) : Int) == 1))] ?_
          refine xsf z1 ?_
          refine xr [] [(40, .bool ((((b % 6) : Nat) : Int) == 2))] ?_
          refine xsf z2 ?_
          refine xr [] [(47, .bool ((((b % 6) : Nat) : Int) == 3))] ?_
          refine xst z3 ?_
          refine SW_region ?_
          refine xn 2 [] [(50, .pointer (some ⟨g, 0, none⟩)), (49, .slice (some ⟨g2, 0, none⟩) (List.length O) cc)] ?_
          refine xcm 51 [true] cn2 (zsS zi0 zs0) (fun z5 => ?_)
          refine xve 52 IntKind.i64 (Int.tmod (b2 : Int) 64) ((((b2 % 64) : Nat) : Int)) v7 ?_
          refine xve 53 IntKind.u64 (IntKind.wrap IntKind.u64 (((b2 % 64) : Nat) : Int)) ((((b2 % 64) : Nat) : Int)) v8 ?_
          refine xve 54 IntKind.u64 (shl IntKind.u64 1 (((b2 % 64) : Nat) : Int)) ((((2 ^ (b2 % 64)) : Nat) : Int)) v9 ?_
          refine xbl 55 [.int .u64 (((2 ^ (b2 % 64)) : Nat) : Int)] 36 1 (fun g3 => ?_)
          refine xap 56 1 2 1 36 8 (g2) (g3) (cc) (1) IntKind.u64 36 (O) (r) [(((2 ^ (b2 % 64)) : Nat) : Int)] (by omega) (by omega) (fun g4 r0 c4 hc0 => ?_)
          refine xz [] [(5, .slice (some ⟨g4, 0, none⟩) (List.length (O ++ [(((2 ^ (b2 % 64)) : Nat) : Int)])) c4)] ?_
          refine SW_region ?_
          refine xn 1 [] [(19, .int .i64 (((m + 1) : Nat) : Int))] ?_
          refine xve 20 IntKind.i64 (IntKind.wrap IntKind.i64 ((((m + 1) : Nat) : Int) - 1)) ((m : Int)) vm ?_
          refine xz [] [(4, .int .i64 (m : Int))] ?_
          refine ⟨m, by omega, _, _, _, _, h1, by simp at h2 ⊢; omega, hle, .inr ⟨g4, r0, _, hc0, rfl, rfl⟩, ?_⟩
          exact xw (zsS zi0 zs0)
        ·skip
         have e : lmb bt j = wst bt (0, ni bt j) 8 := by rw [lmb, hbe, if_neg c0, if_neg c1, if_neg c2, if_neg c3]
         rw [e] at h1 hle
         have z0 : (((b % 6 : Nat) : Int) == 0) = false := by rw [beq_eq_false_iff_ne]; omega
         have z1 : (((b % 6 : Nat) : Int) == 1) = false := by rw [beq_eq_false_iff_ne]; omega
         have z2 : (((b % 6 : Nat) : Int) == 2) = false := by rw [beq_eq_false_iff_ne]; omega
         have z3 : (((b % 6 : Nat) : Int) == 3) = false := by rw [beq_eq_false_iff_ne]; omega
         obtain ⟨⟨w, i3⟩, hw3⟩ : ∃ w, wst bt (0, ni bt j) 8 = w := ⟨_, rfl⟩
         rw [hw3] at cw h1 hle
         clear e
         rcases hO with ⟨rfl, rfl, rfl⟩ | ⟨g2, r, cc, hcc, rfl, rfl⟩
         ·refine SW_seq ?_
          refine xr [] [(18, .bool (decide ((((m + 1) : Nat) : Int) > 0)))] ?_
          refine xst z ?_
          refine SW_skip ?_
          refine SW_seq ?_
          refine SW_block ?_
          refine xg ?_
          refine xn 1 [] [(21, .pointer (some ⟨g, 0, none⟩))] ?_
          refine xcm 22 [true] cn (zsS zi0 zs0) (fun z4 => ?_)
          refine xz [] [(6, .int .i64 (b : Int))] ?_
          refine xg ?_
          refine xn 1 [] [(23, .int .i64 (b : Int))] ?_
          refine xve 24 IntKind.i64 (Int.tmod (b : Int) 6) ((((b % 6) : Nat) : Int)) v6 ?_
          refine xz [] [] ?_
          refine SW_block ?_
          refine xr [] [(30, .bool ((((b % 6) : Nat) : Int) == 0))] ?_
          refine xsf z0 ?_
          refine xr [] [(35, .bool ((((b % 6) : Nat) : Int) == 1))] ?_
          refine xsf z1 ?_
          refine xr [] [(40, .bool ((((b % 6) : Nat) : Int) == 2))] ?_
          refine xsf z2 ?_
          refine xr [] [(47, .bool ((((b % 6) : Nat) : Int) == 3))] ?_
          refine xsf z3 ?_
          refine SW_region ?_
          refine xn 2 [] [(26, .pointer (some ⟨g, 0, none⟩)), (25, .slice none 0 0)] ?_
          refine xcm 27 [true] cw (zsS zi0 zs0) (fun z5 => ?_)
          refine xbl 28 [.int .u64 (w : Int)] 36 1 (fun g0 => ?_)
          refine xa0 (hp := by simp) (hl := by simp) 29 1 36 8 (g0) (1) IntKind.u64 36 [(w : Int)] (fun g1 r0 c4 hc0 => ?_)
          refine xz [] [(5, .slice (some ⟨g1, 0, none⟩) (List.length [(w : Int)]) c4)] ?_
          refine SW_region ?_
          refine xn 1 [] [(19, .int .i64 (((m + 1) : Nat) : Int))] ?_
          refine xve 20 IntKind.i64 (IntKind.wrap IntKind.i64 ((((m + 1) : Nat) : Int) - 1)) ((m : Int)) vm ?_
          refine xz [] [(4, .int .i64 (m : Int))] ?_
          refine ⟨m, by omega, _, _, _, _, h1, by simp at h2 ⊢; omega, hle, .inr ⟨g1, r0, _, hc0, rfl, rfl⟩, ?_⟩
          exact xw (zsS zi0 zs0)
         ·refine SW_seq ?_
          refine xr [] [(18, .bool (decide ((((m + 1) : Nat) : Int) > 0)))] ?_
          refine xst z ?_
          refine SW_skip ?_
          refine SW_seq ?_
          refine SW_block ?_
          refine xg ?_
          refine xn 1 [] [(21, .pointer (some ⟨g, 0, none⟩))] ?_
          refine xcm 22 [true] cn (zsS zi0 zs0) (fun z4 => ?_)
          refine xz [] [(6, .int .i64 (b : Int))] ?_
          refine xg ?_
          refine xn 1 [] [(23, .int .i64 (b : Int))] ?_
          refine xve 24 IntKind.i64 (Int.tmod (b : Int) 6) ((((b % 6) : Nat) : Int)) v6 ?_
          refine xz [] [] ?_
          refine SW_block ?_
          refine xr [] [(30, .bool ((((b % 6) : Nat) : Int) == 0))] ?_
          refine xsf z0 ?_
          refine xr [] [(35, .bool ((((b % 6) : Nat) : Int) == 1))] ?_
          refine xsf z1 ?_
          refine xr [] [(40, .bool ((((b % 6) : Nat) : Int) == 2))] ?_
          refine xsf z2 ?_
          refine xr [] [(47, .bool ((((b % 6) : Nat) : Int) == 3))] ?_
          refine xsf z3 ?_
          refine SW_region ?_
          refine xn 2 [] [(26, .pointer (some ⟨g, 0, none⟩)), (25, .slice (some ⟨g2, 0, none⟩) (List.length O) cc)] ?_
          refine xcm 27 [true] cw (zsS zi0 zs0) (fun z5 => ?_)
          refine xbl 28 [.int .u64 (w : Int)] 36 1 (fun g3 => ?_)
          refine xap 29 1 2 1 36 8 (g2) (g3) (cc) (1) IntKind.u64 36 (O) (r) [(w : Int)] (by omega) (by omega) (fun g4 r0 c4 hc0 => ?_)
          refine xz [] [(5, .slice (some ⟨g4, 0, none⟩) (List.length (O ++ [(w : Int)])) c4)] ?_
          refine SW_region ?_
          refine xn 1 [] [(19, .int .i64 (((m + 1) : Nat) : Int))] ?_
          refine xve 20 IntKind.i64 (IntKind.wrap IntKind.i64 ((((m + 1) : Nat) : Int) - 1)) ((m : Int)) vm ?_
          refine xz [] [(4, .int .i64 (m : Int))] ?_
          refine ⟨m, by omega, _, _, _, _, h1, by simp at h2 ⊢; omega, hle, .inr ⟨g4, r0, _, hc0, rfl, rfl⟩, ?_⟩
          exact xw (zsS zi0 zs0)
  ·obtain ⟨sl, bx, hO, hw⟩ := hs'
   refine SW_weak hw ?_
   clear hw
   have hok1 : LmOk bt 1201 (S, si) := ⟨hok.d, by have := hok.l; omega, hok.i⟩
   refine SW_cut (fun s' => ∃ (sl : Value) (bx : List Box), Own 36 .u64 sl bx (drawL bt i).1 ∧ Weak s' ⟨[(0, .pointer (some ⟨g, 0, none⟩)), (5, sl)], ⟨g, [.slice A bt.length c, .int .i64 ((drawL bt i).2 : Int)], 82⟩ :: bx, [Row .u8 A c bt]⟩) ?_ (fun s' hs' => ?_)
   ·rw [hD]
    clear hD cn0 hok
    by_cases hk5 : k = 255
    ·subst hk5
     rw [if_pos rfl]
     have hS : S.length = 53 := by
      have := lmbs_len bt (lmbN 255) ([], ni bt i)
      rw [hs] at this
      rw [this]
      rfl
     rcases hO with ⟨rfl, rfl, rfl⟩ | ⟨g2, r, cc, hcc, rfl, rfl⟩
     ·exact absurd hS (by decide)
     refine xr [] [(58, .bool true)] ?_
     refine xs1 ?_
     refine SW_block ?_
     refine SW_loopn (fun f s' => ∃ (O : List Int) (j g2 : Nat) (r : List Value) (cc : Nat), lmbT bt f (O, j) = lmbT bt 1300 (S, si) ∧ f + O.length = 1353 ∧ O.length ≤ 1201 ∧ j ≤ bt.length ∧ O.length + r.length = cc ∧ Weak s' ⟨[(0, .pointer (some ⟨g, 0, none⟩)), (5, .slice (some ⟨g2, 0, none⟩) O.length cc)], [⟨g, [.slice A bt.length c, .int .i64 (j : Int)], 82⟩, ⟨g2, cl .u64 O r, 36⟩], [Row .u8 A c bt]⟩) 1300 ⟨S, si, g2, r, cc, rfl, by omega, by omega, hok1.i, hcc, ?_⟩ (fun f s' hI => ?_)
     ·exact xw (zsS zi0 zs0)
     ·obtain ⟨O, j, g2, r, cc, h1, h2, h3, h4, h5, hw⟩ := hI
      refine SW_weak hw ?_
      clear hw
      obtain ⟨f, rfl⟩ : ∃ f', f = f' + 1 := ⟨f - 1, by omega⟩
      rw [lmbT] at h1
      have cn := next_det g A c bt j h4 hx dx
      have hb := nx_lt dx j
      have hi2 := ni_le h4
      obtain ⟨b, hbe⟩ : ∃ b, nx bt j = b := ⟨_, rfl⟩
      dsimp only at h1
      rw [hbe] at cn hb h1
      have v1 : Ve (IntKind.i64.wrap (1200 + (b : Int).tmod 2)) ((1200 + b % 2 : Nat) : Int) := ⟨by rw [Int.tmod_eq_emod_of_nonneg (by omega), wrap_i64 (by omega)]; omega⟩
      have v2 : Ve (IntKind.u64.wrap (O.length : Int)) (O.length : Int) := ⟨by rw [wrap_u64_id (by omega)]⟩
      by_cases hlt : O.length < 1200 + b % 2
      ·have z : decide ((O.length : Int) < ((1200 + b % 2 : Nat) : Int)) = true := decide_eq_true (by omega)
       rw [if_pos hlt] at h1
       have hb2 := Nat.mod_lt b (show 0 < 2 by decide)
       refine SW_seq ?_
       refine xg ?_
       refine xn 3 [] [(61, .pointer (some ⟨g, 0, none⟩)), (60, .int .i64 (((List.length O) : Nat) : Int))] ?_
       refine xcm 62 [true] cn (zsS zi0 zs0) (fun z1 => ?_)
       refine xn 5 [] [(63, .int .i64 (Int.tmod (b : Int) 2))] ?_
       refine xve 64 IntKind.i64 (IntKind.wrap IntKind.i64 (1200 + Int.tmod (b : Int) 2)) ((((1200 + b % 2) : Nat) : Int)) v1 ?_
       refine xz [] [(65, .bool (decide ((((List.length O) : Nat) : Int) < (((1200 + b % 2) : Nat) : Int))))] ?_
       refine xst z ?_
       refine SW_skip ?_
       refine SW_block ?_
       refine SW_region ?_
       refine xn 3 [] [(68, .int .i64 (((List.length O) : Nat) : Int)), (66, .slice (some ⟨g2, 0, none⟩) (List.length O) cc)] ?_
       refine xve 69 IntKind.u64 (IntKind.wrap IntKind.u64 (((List.length O) : Nat) : Int)) ((((List.length O) : Nat) : Int)) v2 ?_
       refine xbl 70 [.int .u64 (((List.length O) : Nat) : Int)] 36 1 (fun g3 => ?_)
       refine xap 71 1 2 1 36 8 (g2) (g3) (cc) (1) IntKind.u64 36 (O) (r) [(((List.length O) : Nat) : Int)] (by omega) (by omega) (fun g4 r0 c0 hc0 => ?_)
       refine xz [] [(5, .slice (some ⟨g4, 0, none⟩) (List.length (O ++ [(((List.length O) : Nat) : Int)])) c0)] ?_
       refine ⟨f, by omega, _, _, g4, r0, c0, h1, by simp; omega, by simp; omega, hi2, hc0, ?_⟩
       exact xw (zsS zi0 zs0)
      ·have z : decide ((O.length : Int) < ((1200 + b % 2 : Nat) : Int)) = false := decide_eq_false (by omega)
       rw [if_neg hlt] at h1
       rw [← h1]
       refine SW_seq ?_
       refine xg ?_
       refine xn 3 [] [(61, .pointer (some ⟨g, 0, none⟩)), (60, .int .i64 (((List.length O) : Nat) : Int))] ?_
       refine xcm 62 [true] cn (zsS zi0 zs0) (fun z1 => ?_)
       refine xn 5 [] [(63, .int .i64 (Int.tmod (b : Int) 2))] ?_
       refine xve 64 IntKind.i64 (IntKind.wrap IntKind.i64 (1200 + Int.tmod (b : Int) 2)) ((((1200 + b % 2) : Nat) : Int)) v1 ?_
       refine xz [] [(65, .bool (decide ((((List.length O) : Nat) : Int) < (((1200 + b % 2) : Nat) : Int))))] ?_
       refine xsf z ?_
       refine SW_exit ?_
       refine ⟨_, _, .inr ⟨g2, r, cc, h5, rfl, rfl⟩, ?_⟩
       exact xw (zsS zi0 zs0)
    ·rw [if_neg hk5]
     have z : ((k : Int) == 255) = false := by rw [beq_eq_false_iff_ne]; omega
     rcases hO with ⟨rfl, rfl, rfl⟩ | ⟨g2, r, cc, hcc, rfl, rfl⟩
     ·refine xr [] [(58, .bool ((k : Int) == 255))] ?_
      refine xsf z ?_
      refine SW_skip ?_
      refine ⟨_, _, Own.nil 36 .u64, ?_⟩
      exact xw (zsS zi0 zs0)
     ·refine xr [] [(58, .bool ((k : Int) == 255))] ?_
      refine xsf z ?_
      refine SW_skip ?_
      refine ⟨_, _, .inr ⟨g2, r, cc, hcc, rfl, rfl⟩, ?_⟩
      exact xw (zsS zi0 zs0)
   ·obtain ⟨sl, bx, hO, hw⟩ := hs'
    refine SW_weak hw ?_
    clear hw hD hok hok1
    have hl := (drawL_ok dx hi).l
    generalize drawL bt i = q at hO hl ⊢
    obtain ⟨O, j⟩ := q
    dsimp only at hO hl ⊢
    rcases hO with ⟨rfl, rfl, rfl⟩ | ⟨g2, r, cc, hcc, rfl, rfl⟩
    ·refine SW_tru (Row_nil .u64 0) ?_
     refine xr [] [(2, .slice none 0 0)] ?_
     refine SW_ret ?_
     refine xmeg (.slice none 0 0) [] ?_
     exact ⟨(none, 0), [true], rfl, rfl, zsS zi0 zs0⟩
    ·refine SW_fz 1 cc g2 .u64 O r 36 (by omega) (by omega) ?_
     refine xr [] [(2, .slice (some ⟨g2, 0, none⟩) (List.length O) cc)] ?_
     refine SW_ret ?_
     refine xmeg (.slice (some ⟨g2, 0, none⟩) (List.length O) cc) [] ?_
     exact ⟨(some ⟨g2, 0, none⟩, cc), [true], rfl, rfl, zsS zi0 zs0⟩
end Go.Proofs.Ytlggnljibebfeaa.M
end
section
namespace Go.Proofs.Ytlggnljibebfeaa.M
open Go.RowKit Go.Proofs.Ytlggnljibebfeaa.G Go.Proofs.YtlggnljibebfeaaV.PrintWords Go.Proofs.YtlggnljibebfeaaV.PrintLast Go.Proofs.Ytlggnljibebfeaa.X
set_option linter.unusedVariables false
set_option linter.unusedSimpArgs false
theorem ct_spec_l1Small_rows (a : List Int) (A : Option Addr) (c d : Nat) (da : Dig B32 a) (hla : a.length ≤ 1000000) (hd : 0 < d) (hdB : d < 4294967296) : ∀ r, Dig B32 r → Norm r → val B32 r = val B32 a / d → CtRV Try.prog 93 [.slice A a.length c, .int .u64 (d : Int)] [Row .u64 A c a] .u64 r (.int .u64 ((val B32 a % d : Nat) : Int)) := by
 intro r dr nr vr
 refine ct_of Try.func93 rfl (by kernel_rfl) (fun B w0 => ?_)
 have v0 : Ve (IntKind.i64.wrap ((a.length : Int) - 1)) ((a.length : Int) - 1) := ⟨wrap_i64 (by omega)⟩
 refine xr [] [(5, .int .u64 0), (4, .slice none 0 0)] ?_
 refine xg ?_
 refine xn 2 [] [(11, .int .i64 (((List.length a) : Nat) : Int))] ?_
 refine xma 12 36 (List.length a) IntKind.u64 8 ((((List.length a) : Nat) : Int)) ⟨rfl⟩ (by omega) (fun g0 => ?_)
 refine xz [] [(6, .slice (some ⟨g0, 0, none⟩) (List.length a) (List.length a))] ?_
 refine xr [] [(7, .int .u64 0)] ?_
 refine SW_seq ?_
 refine xg ?_
 refine xn 2 [] [(14, .int .i64 (((List.length a) : Nat) : Int))] ?_
 refine xve 15 IntKind.i64 (IntKind.wrap IntKind.i64 ((((List.length a) : Nat) : Int) - 1)) ((((List.length a) : Nat) : Int) - 1) v0 ?_
 refine xz [] [(8, .int .i64 ((((List.length a) : Nat) : Int) - 1))] ?_
 refine SW_then (fun s' => ∃ O : List Int, O.length = a.length ∧ Dig B32 O ∧ val B32 O * d + val B32 a % d = val B32 a ∧ Weak s' ⟨[(6, .slice (some ⟨g0, 0, none⟩) O.length a.length), (7, .int .u64 ((val B32 a % d : Nat) : Int))], [⟨g0, cl .u64 O [], 36⟩], [Row .u64 A c a]⟩) ?_ ?_
 ·refine SW_block ?_
  refine SW_loopn (fun m s => ∃ (O : List Int) (rest : Nat), m ≤ a.length ∧ O.length = a.length ∧ Dig B32 O ∧ rest < d ∧ val B32 (O.drop m) * d + rest = val B32 (a.drop m) ∧ Weak s ⟨[(0, .slice A a.length c), (1, .int .u64 (d : Int)), (6, .slice (some ⟨g0, 0, none⟩) a.length a.length), (7, .int .u64 (rest : Int)), (8, .int .i64 ((m : Int) - 1))], [⟨g0, cl .u64 O [], 36⟩], [Row .u64 A c a]⟩) a.length ⟨List.replicate a.length 0, 0, Nat.le_refl _, by simp, Dig.zeros B32_pos _, hd, by simp [val], ?_⟩ (fun m s hI => ?_)
  ·exact xw (zsS zi0 zs0)
  ·obtain ⟨O, rest, h1, h2, h3, h4, h5, hw⟩ := hI
   refine SW_weak hw ?_
   clear hw
   match m, h1, h5 with
   | 0, h1, h5 =>
    have z : decide (((0 : Nat) : Int) - 1 ≥ 0) = false := rfl
    rw [List.drop_zero, List.drop_zero] at h5
    obtain ⟨e1, e2⟩ := quot_of (show rest + val B32 O * d = val B32 a by omega) h4
    subst e2
    refine SW_seq ?_
    refine xr [] [(17, .bool false)] ?_
    refine xs0 ?_
    refine SW_exit ?_
    refine ⟨O, h2, h3, h5, ?_⟩
    rw [h2]
    exact xw (zsS zi0 zs0)
   | m + 1, h1, h5 =>
    have e0 : ((m + 1 : Nat) : Int) - 1 = (m : Int) := by omega
    rw [e0]
    have z : decide ((m : Int) ≥ 0) = true := decide_eq_true (by omega)
    refine SW_know zi0 (fun w h => row_at h (by omega)) (fun ⟨ad, e⟩ => ?_)
    subst e
    obtain ⟨x, hx, hxB⟩ := nat_rd32 da m
    have v1 : Ve (rd a (m : Int)) (x : Int) := ⟨hx⟩
    have v2 : Ve (IntKind.i64.wrap ((m : Int) - 1)) ((m : Int) - 1) := ⟨wrap_i64 (by omega)⟩
    have hq : (rest * 4294967296 + x) / d < 4294967296 := div_lt_base h4 hxB
    have v3 : Ve (shl .u64 (rest : Int) 32) ((rest * 4294967296 : Nat) : Int) := ⟨by have := shl_nat rest 32 (by omega); rw [show ((32 : Nat) : Int) = 32 from rfl] at this; rw [this]; omega⟩
    have v4 : Ve (bits .or .u64 ((rest * 4294967296 : Nat) : Int) (x : Int)) ((rest * 4294967296 + x : Nat) : Int) := ⟨or_nat 32 (rest * 4294967296) x (by omega) (by omega) (Nat.dvd_mul_left _ _) hxB⟩
    have hda := val_drop_rd B32 (l := a) (p := m) (by omega)
    rw [hx, Int.toNat_natCast] at hda
    have hdo := val_drop_rd B32 (l := O.set m (((rest * 4294967296 + x) / d : Nat) : Int)) (p := m) (by rw [List.length_set]; omega)
    rw [rd_set_self O m _ (by omega), List.drop_set_of_lt (Nat.lt_succ_self m), Int.toNat_natCast] at hdo
    have hdm := Nat.div_add_mod (rest * 4294967296 + x) d
    have hmod := Nat.mod_lt (rest * 4294967296 + x) hd
    have hs2 : val B32 ((O.set m (((rest * 4294967296 + x) / d : Nat) : Int)).drop m) * d + (rest * 4294967296 + x) % d = val B32 (a.drop m) := by
     rw [hdo, hda, ← h5]
     exact dw_num hdm
    have hbig : rest * 4294967296 + x < 18446744073709551616 := by omega
    have v5 : Ve (IntKind.u64.wrap (((rest * 4294967296 + x : Nat) : Int).tdiv (d : Int))) (((rest * 4294967296 + x) / d : Nat) : Int) := ⟨((Nn.div ⟨rfl⟩ ⟨rfl⟩).u (by omega)).out⟩
    have v6 : Ve (((rest * 4294967296 + x : Nat) : Int).tmod (d : Int)) (((rest * 4294967296 + x) % d : Nat) : Int) := ⟨(Nn.mod ⟨rfl⟩ ⟨rfl⟩).out⟩
    refine SW_seq ?_
    refine xr [] [(17, .bool (decide ((m : Int) ≥ 0)))] ?_
    refine xst z ?_
    refine SW_skip ?_
    refine SW_seq ?_
    refine SW_block ?_
    refine xg ?_
    refine xn 1 [] [(20, .int .u64 (rest : Int))] ?_
    refine xve 21 IntKind.u64 (shl IntKind.u64 (rest : Int) 32) ((((rest * 4294967296) : Nat) : Int)) v3 ?_
    refine xn 4 [] [(23, .int .i64 (m : Int)), (22, .slice (some ad) (List.length a) c)] ?_
    refine xfi 24 36 (ad) (List.length a) (c) (m) IntKind.i64 ((m : Int)) ⟨rfl⟩ (by omega) ?_
    refine xfle 25 zi0 (m) ((x : Int)) v1 (by omega) ?_
    refine xve 26 IntKind.u64 (bits BinOp.or IntKind.u64 (((rest * 4294967296) : Nat) : Int) (x : Int)) ((((rest * 4294967296 + x) : Nat) : Int)) v4 ?_
    refine xz [] [(9, .int .u64 (((rest * 4294967296 + x) : Nat) : Int))] ?_
    refine xg ?_
    refine xn 4 [] [(30, .int .u64 (d : Int)), (29, .int .u64 (((rest * 4294967296 + x) : Nat) : Int)), (28, .int .i64 (m : Int)), (27, .slice (some ⟨g0, 0, none⟩) (List.length a) (List.length a))] ?_
    refine xqo 31 ((rest * 4294967296 + x)) ((d)) (by omega) (by omega) ?_
    refine xoi 32 36 (g0) (List.length a) (List.length a) (m) IntKind.i64 ((m : Int)) ⟨rfl⟩ (by omega) ?_
    refine xos 0 (g0) (m) IntKind.u64 (O) ([]) 36 (((((rest * 4294967296 + x) / d) : Nat) : Int)) (by first | omega | (simp <;> omega)) ?_
    refine xz [] [] ?_
    refine SW_region ?_
    refine xn 2 [] [(34, .int .u64 (d : Int)), (33, .int .u64 (((rest * 4294967296 + x) : Nat) : Int))] ?_
    refine xqr 35 ((rest * 4294967296 + x)) ((d)) (by omega) (by omega) ?_
    refine xz [] [(7, .int .u64 ((((rest * 4294967296 + x) % d) : Nat) : Int))] ?_
    refine SW_region ?_
    refine xn 1 [] [(18, .int .i64 (m : Int))] ?_
    refine xve 19 IntKind.i64 (IntKind.wrap IntKind.i64 ((m : Int) - 1)) ((m : Int) - 1) v2 ?_
    refine xz [] [(8, .int .i64 ((m : Int) - 1))] ?_
    refine ⟨m, by omega, _, _, by omega, by rw [List.length_set]; exact h2, h3.set _ (cast_dig hq), hmod, hs2, ?_⟩
    exact xw (zsS zi0 zs0)
 ·rintro s' ⟨O, h2, h3, h5, hw⟩
  refine SW_weak hw ?_
  clear hw
  have er : trimL O = r := norm_inj B32_pos h3.trim dr (norm_trim _) nr (by rw [val_trim, vr]; exact (quot_of (R := val B32 a % d) (by omega) (Nat.mod_lt _ hd)).1)
  have ct := ct_spec_l1Trim O (some ⟨g0, 0, none⟩) O.length (by omega)
  rw [er] at ct
  rw [← h2]
  generalize val B32 a % d = w
  refine xg ?_
  refine xn 1 [] [(36, .slice (some ⟨g0, 0, none⟩) (List.length O) (List.length O))] ?_
  refine NW_fz 0 O.length g0 .u64 O [] 36 (by omega) (by omega) ?_
  refine xcr 37 ct (zsS zi0 zs0) (fun A0 k0 => ?_)
  refine xz [] [(5, .int .u64 (w : Int)), (4, .slice A0 (List.length r) k0)] ?_
  refine SW_ret ?_
  refine xe (A0, k0) (.tuple #[.slice A0 (List.length r) k0, .int .u64 (w : Int)]) [] ?_ (zsS zi0 zs0)
  rfl
theorem ct_spec_l1Small (x : Nat) (A : Option Addr) (c d : Nat) (hx : Sm x) (hd : 0 < d) (hdB : d < 4294967296) : CtRV Try.prog 93 [.slice A (ofN B32 x).length c, .int .u64 (d : Int)] [Row .u64 A c (ofN B32 x)] .u64 (ofN B32 (x / d)) (.int .u64 ((x % d : Nat) : Int)) := by
 obtain ⟨d1, n1, v1⟩ := ofN_spec B32_2 x
 obtain ⟨d2, n2, v2⟩ := ofN_spec B32_2 (x / d)
 have hl := hx.len
 have := ct_spec_l1Small_rows _ A c d d1 (by omega) hd hdB _ d2 n2 (by rw [v2, v1])
 rw [v1] at this
 exact this
theorem chunk {m q d j : Nat} (h : 1000000000 * q + d = m) (hd : d < 1000000000) (hj : j < 9) : m / 10 ^ j % 10 = d / 10 ^ j % 10 ∧ (m / 10 ^ j = 0 ↔ q = 0 ∧ d / 10 ^ j = 0) := by
 have : j = 0 ∨ j = 1 ∨ j = 2 ∨ j = 3 ∨ j = 4 ∨ j = 5 ∨ j = 6 ∨ j = 7 ∨ j = 8 := by omega
 rcases this with rfl | rfl | rfl | rfl | rfl | rfl | rfl | rfl | rfl <;> simp only [Nat.reducePow] <;> omega
theorem ct_spec_l1Text (x : Nat) (hx : Sm x) (hlen : (rdig x).length ≤ 24320) (A : Option Addr) (c : Nat) : CtR Try.prog 46 [.slice A (ofN B32 x).length c] [Row .u64 A c (ofN B32 x)] .u8 (digT0 x) := by
 refine ct_of Try.func46 rfl (by kernel_rfl) (fun B w0 => ?_)
 by_cases h0 : x = 0
 ·subst h0
  rw [ofN_nil B32_2, digT0_zero]
  refine xr [] [(2, .slice none 0 0)] ?_
  refine SW_seq ?_
  refine xr [] [(11, .bool true)] ?_
  refine xs1 ?_
  refine xg ?_
  refine xbl 12 [.int .u8 48] 5 1 (fun g0 => ?_)
  refine xmk 0 13 g0 1 1 [.int .u8 48] 5 ?_
  refine NW_fzM 0 1 g0 .u8 [48] 5 (1, 2) (by decide) (by decide) ?_
  refine xz [] [(2, .slice (some ⟨g0, 0, none⟩) 1 1)] ?_
  refine SW_ret ?_
  refine xe (some ⟨g0, 0, none⟩, 1) (.slice (some ⟨g0, 0, none⟩) 1 1) [] ?_ (zsS zi0 zs0)
  rfl
 ·have hz : ((ofN B32 x).length == 0) = false := by
   rw [beq_eq_false_iff_ne]
   exact fun h => h0 ((ofN_zero B32_2 x).1 h)
  have z : (((ofN B32 x).length : Int) == 0) = false := by
   rw [beq_eq_false_iff_ne]
   intro h
   exact h0 ((ofN_zero B32_2 x).1 (by omega))
  rw [digT0_pos h0]
  refine xr [] [(2, .slice none 0 0)] ?_
  refine SW_seq ?_
  refine xr [] [(11, .bool ((((List.length (ofN B32 x)) : Nat) : Int) == 0))] ?_
  refine xsf z ?_
  refine SW_skip ?_
  refine xr [] [(3, .slice none 0 0)] ?_
  refine SW_cut (fun s' => ∃ (sl : Value) (bs : List Box), Own 5 .u8 sl bs (rdig x) ∧ Weak s' ⟨[(3, sl)], bs, []⟩) ?_ (fun s' hs => ?_)
  ·refine SW_block ?_
   refine SW_loopn (fun m s' => ∃ (A : Option Addr) (c : Nat) (sl : Value) (bs : List Box) (O : List Int), O ++ rdig m = rdig x ∧ m ≤ x ∧ Own 5 .u8 sl bs O ∧ Weak s' ⟨[(0, .slice A (ofN B32 m).length c), (3, sl)], bs, [Row .u64 A c (ofN B32 m)]⟩) x ⟨A, c, _, _, [], rfl, Nat.le_refl _, Own.nil 5 .u8, ?_⟩ (fun m s' hI => ?_)
   ·exact xw (zsS zi0 zs0)
   ·obtain ⟨A, c, sl, bs, O, k1, k2, hO, hw⟩ := hI
    refine SW_weak hw ?_
    clear hw
    by_cases hm : m = 0
    ·subst hm
     rw [ofN_nil B32_2]
     rw [rdig_zero, List.append_nil] at k1
     subst k1
     refine SW_seq ?_
     refine xr [] [(16, .bool false)] ?_
     refine xs0 ?_
     refine SW_exit ?_
     refine ⟨sl, bs, hO, ?_⟩
     exact xw zs0
    ·have z3 : decide (((ofN B32 m).length : Int) > 0) = true := decide_eq_true (by
      have := mt (ofN_zero B32_2 m).1 hm
      omega)
     have cs := ct_spec_l1Small m A c 1000000000 (hx.mono k2) (by decide) (by decide)
     have hlt : m / 1000000000 < m := Nat.div_lt_self (by omega) (by decide)
     have hdm := Nat.div_add_mod m 1000000000
     have hr : m % 1000000000 < 1000000000 := Nat.mod_lt _ (by decide)
     obtain ⟨q, hq⟩ : ∃ q, m / 1000000000 = q := ⟨_, rfl⟩
     obtain ⟨d, hd⟩ : ∃ d, m % 1000000000 = d := ⟨_, rfl⟩
     have cs' : CtRV Try.prog 93 [.slice A (ofN B32 m).length c, .int .u64 1000000000] [Row .u64 A c (ofN B32 m)] .u64 (ofN B32 q) (.int .u64 (d : Int)) := by rw [← hq, ← hd]; exact cs
     rw [hq] at hlt hdm
     rw [hd] at hdm hr
     clear cs hq hd z hz
     refine SW_seq ?_
     refine xr [] [(16, .bool (decide ((((List.length (ofN B32 m)) : Nat) : Int) > 0)))] ?_
     refine xst z3 ?_
     refine SW_skip ?_
     refine SW_block ?_
     refine xg ?_
     refine xn 1 [] [(18, .slice A (List.length (ofN B32 m)) c)] ?_
     refine xct 19 cs' (zsS zi0 zs0) (fun A3 k3 => ?_)
     refine xz [] [(5, .int .u64 (d : Int)), (4, .slice A3 (List.length (ofN B32 q)) k3)] ?_
     refine SW_seq ?_
     refine xr [] [(6, .int .i64 0)] ?_
     refine SW_then (fun s' => ∃ (sl : Value) (bs : List Box) (O : List Int) (A1 : Option Addr) (c1 : Nat), O ++ rdig q = rdig x ∧ Own 5 .u8 sl bs O ∧ Weak s' ⟨[(3, sl), (4, .slice A1 (ofN B32 q).length c1)], bs, [Row .u64 A1 c1 (ofN B32 q)]⟩) ?_ ?_
     ·refine SW_block ?_
      refine SW_loopn (fun m1 s' => ∃ (j r : Nat) (sl : Value) (bs : List Box) (O : List Int) (A1 : Option Addr) (c1 : Nat), j + m1 = 9 ∧ r = d / 10 ^ j ∧ O ++ rdig (m / 10 ^ j) = rdig x ∧ Own 5 .u8 sl bs O ∧ Weak s' ⟨[(6, .int .i64 (j : Int)), (5, .int .u64 (r : Int)), (3, sl), (4, .slice A1 (ofN B32 q).length c1)], bs, [Row .u64 A1 c1 (ofN B32 q)]⟩) 9 ⟨0, d, sl, bs, O, A3, k3, rfl, by simp, by simpa using k1, hO, ?_⟩ (fun m1 s' hI => ?_)
      ·exact xw (zsS zi0 zs0)
      ·obtain ⟨j, r, sl, bs, O, A1, c1, g1, g2, g3, hO, hw⟩ := hI
       refine SW_weak hw ?_
       clear hw k1
       by_cases hj : j = 9
       ·have z : decide ((j : Int) < 9) = false := decide_eq_false (by omega)
        subst hj
        have e9 : m / 10 ^ 9 = q := by simp only [Nat.reducePow]; omega
        rw [e9] at g3
        refine SW_seq ?_
        refine xr [] [(32, .bool false)] ?_
        refine xs0 ?_
        refine SW_exit ?_
        refine ⟨sl, bs, O, A1, c1, g3, hO, ?_⟩
        exact xw (zsS zi0 zs0)
       ·have z : decide ((j : Int) < 9) = true := decide_eq_true (by omega)
        obtain ⟨y1, y2⟩ := chunk hdm hr (show j < 9 by omega)
        rw [← g2] at y1 y2
        have hrd : r ≤ d := by rw [g2]; exact Nat.div_le_self _ _
        by_cases hq : q = 0 ∧ r = 0
        ·obtain ⟨rfl, rfl⟩ := hq
         rw [y2.2 ⟨rfl, rfl⟩] at g3
         rw [ofN_nil B32_2]
         refine SW_seq ?_
         refine xg ?_
         refine xn 3 [] [(24, .bool (decide ((j : Int) < 9)))] ?_
         refine xkt 24 z ?_
         refine xz [] [(32, .bool false)] ?_
         refine xs0 ?_
         refine SW_exit ?_
         refine ⟨sl, bs, O, A1, c1, g3, hO, ?_⟩
         exact xw (zsS zi0 zs0)
        ·have hne : m / 10 ^ j ≠ 0 := fun h => hq (y2.1 h)
         rw [rdig_step hne, y1, Nat.div_div_eq_div_mul, ← Nat.pow_succ] at g3
         have g2' : r / 10 = d / 10 ^ (j + 1) := by rw [g2, Nat.div_div_eq_div_mul, Nat.pow_succ]
         have g3' : (O ++ [((48 + r % 10 : Nat) : Int)]) ++ rdig (m / 10 ^ (j + 1)) = rdig x := by rw [← g3, List.append_assoc]; rfl
         have hol : O.length ≤ 24320 := by
          have := congrArg List.length g3
          rw [List.length_append] at this
          omega
         have v1 : Ve (IntKind.u8.wrap (IntKind.u64.wrap (48 + ((r : Int)).tmod 10))) ((48 + r % 10 : Nat) : Int) := ⟨by
          rw [Int.tmod_eq_emod_of_nonneg (by omega)]
          simp [IntKind.wrap, IntKind.bits, IntKind.signed]
          omega⟩
         have v2 : Ve (IntKind.u64.wrap (((r : Int)).tdiv 10)) ((r / 10 : Nat) : Int) := ⟨by
          rw [Int.tdiv_eq_ediv_of_nonneg (by omega)]
          simp [IntKind.wrap, IntKind.bits, IntKind.signed]
          omega⟩
         have v3 : Ve (IntKind.i64.wrap ((j : Int) + 1)) ((j + 1 : Nat) : Int) := veI (by omega) (by omega)
         obtain ⟨y, hy⟩ : ∃ y, 48 + r % 10 = y := ⟨_, rfl⟩
         obtain ⟨r2, hr2⟩ : ∃ r2, r / 10 = r2 := ⟨_, rfl⟩
         rw [hy] at v1 g3'
         rw [hr2] at v2 g2'
         clear y1 y2 g2 g3 hy hr2
         by_cases hq0 : q = 0
         ·subst hq0
          have z5 : decide ((r : Int) > 0) = true := decide_eq_true (by omega)
          rw [ofN_nil B32_2]
          refine SW_seq ?_
          refine xg ?_
          refine xn 3 [] [(24, .bool (decide ((j : Int) < 9)))] ?_
          refine xkt 24 z ?_
          refine xz [] [(32, .bool (decide ((r : Int) > 0)))] ?_
          refine xst z5 ?_
          refine SW_skip ?_
          refine SW_seq ?_
          refine SW_block ?_
          refine xg ?_
          refine xn 4 [] [(38, .int .u64 (IntKind.wrap IntKind.u64 (48 + Int.tmod (r : Int) 10))), (35, sl)] ?_
          refine xve 39 IntKind.u8 (IntKind.wrap IntKind.u8 (IntKind.wrap IntKind.u64 (48 + Int.tmod (r : Int) 10))) ((y : Int)) v1 ?_
          refine xbl 40 [.int .u8 (y : Int)] 5 1 (fun g2 => ?_)
          refine xow 41 1 (g2) (1) [(y : Int)] hO (by first | omega | (simp <;> omega)) (fun sl0 bs0 hO0 => ?_)
          refine xz [] [(3, sl0)] ?_
          refine SW_region ?_
          refine xn 1 [] [(42, .int .u64 (r : Int))] ?_
          refine xve 43 IntKind.u64 (IntKind.wrap IntKind.u64 (Int.tdiv (r : Int) 10)) ((r2 : Int)) v2 ?_
          refine xz [] [(5, .int .u64 (r2 : Int))] ?_
          refine SW_region ?_
          refine xn 1 [] [(33, .int .i64 (j : Int))] ?_
          refine xve 34 IntKind.i64 (IntKind.wrap IntKind.i64 ((j : Int) + 1)) ((((j + 1) : Nat) : Int)) v3 ?_
          refine xz [] [(6, .int .i64 (((j + 1) : Nat) : Int))] ?_
          refine ⟨m1 - 1, by omega, j + 1, r2, _, _, _, A1, c1, by omega, g2', g3', by assumption, ?_⟩
          exact xw (zsS zi0 zs0)
         ·have z4 : decide (((ofN B32 q).length : Int) > 0) = true := decide_eq_true (by
           have := mt (ofN_zero B32_2 q).1 hq0
           omega)
          refine SW_seq ?_
          refine xg ?_
          refine xn 3 [] [(24, .bool (decide ((j : Int) < 9)))] ?_
          refine xkt 24 z ?_
          refine xn 7 [] [(28, .bool (decide ((((List.length (ofN B32 q)) : Nat) : Int) > 0)))] ?_
          refine xkt 28 z4 ?_
          refine xz [] [(32, .bool true)] ?_
          refine xs1 ?_
          refine SW_skip ?_
          refine SW_seq ?_
          refine SW_block ?_
          refine xg ?_
          refine xn 4 [] [(38, .int .u64 (IntKind.wrap IntKind.u64 (48 + Int.tmod (r : Int) 10))), (35, sl)] ?_
          refine xve 39 IntKind.u8 (IntKind.wrap IntKind.u8 (IntKind.wrap IntKind.u64 (48 + Int.tmod (r : Int) 10))) ((y : Int)) v1 ?_
          refine xbl 40 [.int .u8 (y : Int)] 5 1 (fun g2 => ?_)
          refine xow 41 1 (g2) (1) [(y : Int)] hO (by first | omega | (simp <;> omega)) (fun sl0 bs0 hO0 => ?_)
          refine xz [] [(3, sl0)] ?_
          refine SW_region ?_
          refine xn 1 [] [(42, .int .u64 (r : Int))] ?_
          refine xve 43 IntKind.u64 (IntKind.wrap IntKind.u64 (Int.tdiv (r : Int) 10)) ((r2 : Int)) v2 ?_
          refine xz [] [(5, .int .u64 (r2 : Int))] ?_
          refine SW_region ?_
          refine xn 1 [] [(33, .int .i64 (j : Int))] ?_
          refine xve 34 IntKind.i64 (IntKind.wrap IntKind.i64 ((j : Int) + 1)) ((((j + 1) : Nat) : Int)) v3 ?_
          refine xz [] [(6, .int .i64 (((j + 1) : Nat) : Int))] ?_
          refine ⟨m1 - 1, by omega, j + 1, r2, _, _, _, A1, c1, by omega, g2', g3', by assumption, ?_⟩
          exact xw (zsS zi0 zs0)
     ·rintro s' ⟨sl, bs, O, A1, c1, e1, hO, hw⟩
      refine SW_weak hw ?_
      clear hw
      refine xrl [] [(0, .slice A1 (List.length (ofN B32 q)) c1)] ?_
      refine ⟨q, hlt, A1, c1, sl, bs, O, e1, by omega, hO, ?_⟩
      exact xw (zsS zi0 zs0)
  ·obtain ⟨sl, bs, hO, hw⟩ := hs
   refine SW_weak hw ?_
   clear hw hz z
   obtain ⟨L, hL⟩ : ∃ L, rdig x = L := ⟨_, rfl⟩
   rw [hL] at hO hlen ⊢
   refine SW_own hO (by omega) (fun A2 c2 e => ?_)
   subst e
   clear hO
   have v0 : Ve (IntKind.i64.wrap ((L.length : Int) - 1)) ((L.length : Int) - 1) := ⟨wrap_i64 (by omega)⟩
   refine xr [] [(7, .slice none 0 0)] ?_
   refine SW_seq ?_
   refine xg ?_
   refine xn 2 [] [(46, .int .i64 (((List.length L) : Nat) : Int))] ?_
   refine xve 47 IntKind.i64 (IntKind.wrap IntKind.i64 ((((List.length L) : Nat) : Int) - 1)) ((((List.length L) : Nat) : Int) - 1) v0 ?_
   refine xz [] [(8, .int .i64 ((((List.length L) : Nat) : Int) - 1))] ?_
   refine SW_then (fun s' => ∃ (sl : Value) (bs : List Box), Own 5 .u8 sl bs L.reverse ∧ Weak s' ⟨[(7, sl)], bs, []⟩) ?_ ?_
   ·refine SW_block ?_
    refine SW_loopn (fun m s' => ∃ (sl : Value) (bs : List Box) (O : List Int), m ≤ L.length ∧ O = (L.drop m).reverse ∧ Own 5 .u8 sl bs O ∧ Weak s' ⟨[(3, .slice A2 L.length c2), (7, sl), (8, .int .i64 ((m : Int) - 1))], bs, [Row .u8 A2 c2 L]⟩) L.length ⟨_, _, [], Nat.le_refl _, by simp, Own.nil 5 .u8, ?_⟩ (fun m s' hI => ?_)
    ·exact xw (zsS zi0 zs0)
    ·obtain ⟨sl, bs, O, k1, k2, hO, hw⟩ := hI
     refine SW_weak hw ?_
     clear hw
     match m, k1, k2 with
     | 0, k1, k2 =>
      have z : decide (((0 : Nat) : Int) - 1 ≥ 0) = false := rfl
      rw [List.drop_zero] at k2
      subst k2
      refine SW_seq ?_
      refine xr [] [(49, .bool false)] ?_
      refine xs0 ?_
      refine SW_exit ?_
      refine ⟨sl, bs, hO, ?_⟩
      exact xw zs0
     | m + 1, k1, k2 =>
      have e0 : ((m + 1 : Nat) : Int) - 1 = (m : Int) := by omega
      rw [e0]
      have z : decide ((m : Int) ≥ 0) = true := decide_eq_true (by omega)
      refine SW_know zi0 (fun w h => row_at h (by omega)) (fun ⟨ad, e⟩ => ?_)
      subst e
      have v2 : Ve (IntKind.i64.wrap ((m : Int) - 1)) ((m : Int) - 1) := ⟨wrap_i64 (by omega)⟩
      have hO2 : O.length ≤ 24320 := by rw [k2, List.length_reverse, List.length_drop]; omega
      have e3 : O ++ [rd L (m : Int)] = (L.drop m).reverse := by
       have e1 := rd_some (xs := L) (i := m) (by omega)
       rw [List.getElem?_eq_getElem (by omega)] at e1
       rw [List.drop_eq_getElem_cons (show m < L.length by omega), List.reverse_cons, ← k2, Option.some.inj e1]
      clear k2
      refine SW_seq ?_
      refine xr [] [(49, .bool (decide ((m : Int) ≥ 0)))] ?_
      refine xst z ?_
      refine SW_skip ?_
      refine SW_seq ?_
      refine SW_block ?_
      refine SW_region ?_
      refine xn 3 [] [(54, .int .i64 (m : Int)), (53, .slice (some ad) (List.length L) c2), (52, sl)] ?_
      refine xfi 55 5 (ad) (List.length L) (c2) (m) IntKind.i64 ((m : Int)) ⟨rfl⟩ (by omega) ?_
      refine xfl 56 zi0 (m) (by omega) ?_
      refine xbl 57 [.int .u8 (rd L (m : Int))] 5 1 (fun g0 => ?_)
      refine xow 58 1 (g0) (1) [rd L (m : Int)] hO (by first | omega | (simp <;> omega)) (fun sl0 bs0 hO3 => ?_)
      refine xz [] [(7, sl0)] ?_
      refine SW_region ?_
      refine xn 1 [] [(50, .int .i64 (m : Int))] ?_
      refine xve 51 IntKind.i64 (IntKind.wrap IntKind.i64 ((m : Int) - 1)) ((m : Int) - 1) v2 ?_
      refine xz [] [(8, .int .i64 ((m : Int) - 1))] ?_
      refine ⟨m, by omega, _, _, _, by omega, e3, by assumption, ?_⟩
      exact xw (zsS zi0 zs0)
   ·rintro s' ⟨sl, bs, hO, hw⟩
    refine SW_weak hw ?_
    clear hw
    refine SW_own hO (by simp; omega) (fun A2 c2 e => ?_)
    subst e
    refine xr [] [(2, .slice A2 (List.length (List.reverse L)) c2)] ?_
    refine SW_ret ?_
    refine xe (A2, c2) (.slice A2 (List.length (List.reverse L)) c2) [] ?_ (zsS zi0 zs0)
    rfl
end Go.Proofs.Ytlggnljibebfeaa.M
end
section
namespace Go.Proofs.Ytlggnljibebfeaa.M
open Go.RowKit Go.Proofs.Ytlggnljibebfeaa.G Go.Proofs.YtlggnljibebfeaaV.PrintWords Go.Proofs.YtlggnljibebfeaaV.PrintLast Go.Proofs.Ytlggnljibebfeaa.X
set_option linter.unusedVariables false
set_option linter.unusedSimpArgs false
structure Fr (a : List Int) (x : Nat) : Prop where
 d : Dig B64 a
 l : a.length ≤ 1200
 v : val B64 a = x
theorem Fr.bits {a : List Int} {x : Nat} (h : Fr a x) : ∃ m, IsBits x m ∧ m ≤ 76800 := by
 have := fits_bits h.d h.l
 rw [h.v] at this
 exact this
theorem Fr.sm {a : List Int} {x : Nat} (h : Fr a x) : Sm x := by
 obtain ⟨m, h1, h2⟩ := h.bits
 exact Sm.of h1.1 (by omega)
theorem Fr.of {x m : Nat} (hm : x < 2 ^ m) (h : m ≤ 76800) : Fr (ofN B64 x) x := by
 obtain ⟨d, n, v⟩ := ofN_spec B64_2 x
 exact ⟨d, len1200 hm h, v⟩
theorem Fr.of1 {l : Nat} (hl : l < 18446744073709551616) : Fr [(l : Int)] l := by
 refine ⟨fun n hn => ?_, by simp, by simp [val, B64]⟩
 simp at hn
 unfold B64
 omega
theorem Fr.sIn {a : List Int} {x : Nat} (h : Fr a x) (A : Option Addr) (c : Nat) : CtR Try.prog 47 [.slice A a.length c] [Row .u64 A c a] .u64 (ofN B32 x) := by
 obtain ⟨d1, n1, v1⟩ := ofN_spec B32_2 x
 exact ct_spec_l1In_rows a A c h.d (by have := h.l; omega) _ d1 n1 (by rw [v1, h.v])
theorem Fr.iIn {a : List Int} {x : Nat} (h : Fr a x) (A : Option Addr) (c : Nat) : CtR Try.prog 49 [.slice A a.length c] [Row .u64 A c a] .u64 (ofN B64 x) := by
 have := ct_impl_trimmed a A c (by have := h.l; omega)
 rw [trim_ofN h.d, h.v] at this
 exact this
theorem ct_impl_short' (g n c : Nat) (A : Option Addr) (b : Bool) (hb : decide (n ≤ 1200) = b) : CtM Try.prog 48 [.slice (some ⟨g, 0, none⟩) 1 1] [⟨g, [.slice A n c], 22⟩] [] (γ := Unit) (fun _ => .bool b) (fun _ => [⟨g, [.slice A n c], 22⟩]) (fun _ => []) := by
 subst hb
 refine cm_of Try.func48 rfl (by kernel_rfl) (fun B w0 => ?_)
 by_cases h1 : n ≤ 1200
 ·have z1 : decide ((n : Int) > 1200) = false := decide_eq_false (by omega)
  rw [decide_eq_true h1]
  refine xr [] [(2, .bool false)] ?_
  refine SW_seq ?_
  refine xr [] [(7, .int .i64 0), (6, .int .i64 1), (5, .slice (some ⟨g, 0, none⟩) 1 1)] ?_
  refine SW_block ?_
  refine SW_unroll ?_
  refine LW_step ?_
  refine xr [] [(8, .bool true)] ?_
  refine SW_seq ?_
  refine xs1 ?_
  refine SW_skip ?_
  refine SW_seq ?_
  refine SW_block ?_
  refine xr [(1, [0])] [(4, .slice A n c)] ?_
  refine xr [] [(13, .bool (decide ((n : Int) > 1200)))] ?_
  refine xsf z1 ?_
  refine SW_skip ?_
  refine xrl [] [(7, .int .i64 1)] ?_
  refine LW_step ?_
  refine xr [] [(8, .bool false)] ?_
  refine SW_seq ?_
  refine xs0 ?_
  refine SW_exit ?_
  refine xr [] [(2, .bool true)] ?_
  refine SW_ret ?_
  refine xmeg (.bool true) [] ?_
  exact ⟨(), [true], rfl, rfl, zs0⟩
 ·have z1 : decide ((n : Int) > 1200) = true := decide_eq_true (by omega)
  rw [decide_eq_false h1]
  refine xr [] [(2, .bool false)] ?_
  refine SW_seq ?_
  refine xr [] [(7, .int .i64 0), (6, .int .i64 1), (5, .slice (some ⟨g, 0, none⟩) 1 1)] ?_
  refine SW_block ?_
  refine SW_unroll ?_
  refine LW_step ?_
  refine xr [] [(8, .bool true)] ?_
  refine SW_seq ?_
  refine xs1 ?_
  refine SW_skip ?_
  refine SW_seq ?_
  refine SW_block ?_
  refine xr [(1, [0])] [(4, .slice A n c)] ?_
  refine xr [] [(13, .bool (decide ((n : Int) > 1200)))] ?_
  refine xst z1 ?_
  refine xr [] [(2, .bool false)] ?_
  refine SW_ret ?_
  refine xmeg (.bool false) [] ?_
  exact ⟨(), [true], rfl, rfl, zs0⟩
section
variable {a b : List Int} {x y : Nat}
theorem ct_spec_NatMul_rows (a b : List Int) (x y : Nat) (fa : Fr a x) (fb : Fr b y) (sxy : Sm (x * y)) (A A' : Option Addr) (c c' : Nat) : CtR Try.prog 23 [.slice A a.length c, .slice A' b.length c'] [Row .u64 A c a, Row .u64 A' c' b] .u64 (ofN B64 (x * y)) := by
 have la := decide_eq_true fa.l
 have lb := decide_eq_true fb.l
 have s1 := fa.sm
 have s2 := fb.sm
 have ca := fa.sIn A c
 have cb := fb.sIn A' c'
 refine ct_of Try.func23 rfl (by kernel_rfl) (fun B w0 => ?_)
 refine xr [] [(4, .slice none 0 0)] ?_
 refine SW_seq ?_
 refine xg ?_
 refine xn 1 [] [(5, .slice A (List.length a) c)] ?_
 refine xcv 6 (ct_spec_l1Fits (List.length a) (c) (A) (true) la) zs0 ?_
 refine xn 5 [] [(9, .slice A' (List.length b) c'), (8, .bool false)] ?_
 refine xcv 10 (ct_spec_l1Fits (List.length b) (c') (A') (true) lb) zs0 ?_
 refine xz [] [(12, .bool false)] ?_
 refine xs0 ?_
 refine SW_skip ?_
 refine xg ?_
 refine xn 1 [] [(13, .slice A (List.length a) c)] ?_
 refine xcr 14 ca (zsS zi0 zs0) (fun A0 k0 => ?_)
 refine xn 3 [] [(15, .slice A' (List.length b) c')] ?_
 refine xcr 16 cb (zsS (ziS (ziS zi0)) zs0) (fun A1 k1 => ?_)
 refine xcr 17 (ct_spec_l1Mul (x) (y) (A0) (A1) (k0) (k1) s1 s2) (zsS (ziS zi0) (zsS zi0 zs0)) (fun A2 k2 => ?_)
 refine xcr 18 (ct_spec_l1Out (x * y) (A2) (k2) sxy) (zsS zi0 zs0) (fun A3 k3 => ?_)
 refine xz [] [(4, .slice A3 (List.length (ofN B64 (x * y))) k3)] ?_
 refine SW_ret ?_
 refine xe (A3, k3) (.slice A3 (List.length (ofN B64 (x * y))) k3) [] ?_ (zsS zi0 zs0)
 rfl
theorem ct_spec_NatShift_rows (a : List Int) (x : Nat) (fa : Fr a x) (k : Int) (n : Nat) (hk : Nn k n) (hn : n ≤ 80000) (A : Option Addr) (c : Nat) : CtR Try.prog 21 [.slice A a.length c, .int .i64 k] [Row .u64 A c a] .u64 (ofN B64 (x * 2 ^ n)) := by
 obtain ⟨rfl⟩ := hk
 have la := decide_eq_true fa.l
 have s1 := fa.sm
 obtain ⟨m, hm, hm1⟩ := fa.bits
 have s2 : Sm (x * 2 ^ n) := Sm.of (k := m + n) (by rw [Nat.pow_add]; exact Nat.mul_lt_mul_of_pos_right hm.1 (Nat.pow_pos (by decide))) (by omega)
 have ca := fa.sIn A c
 have z1 : decide ((n : Int) > 80000) = false := decide_eq_false (by omega)
 have z2 : decide ((n : Int) < -80000) = false := decide_eq_false (by omega)
 have z3 : decide ((n : Int) ≥ 0) = true := decide_eq_true (by omega)
 refine ct_of Try.func21 rfl (by kernel_rfl) (fun B w0 => ?_)
 refine xr [] [(4, .slice none 0 0)] ?_
 refine SW_seq ?_
 refine xg ?_
 refine xn 1 [] [(5, .slice A (List.length a) c)] ?_
 refine xcv 6 (ct_spec_l1Fits (List.length a) (c) (A) (true) la) zs0 ?_
 refine xn 8 [] [(12, .bool (decide ((n : Int) > 80000)))] ?_
 refine xkf 12 z1 ?_
 refine xz [] [(15, .bool (decide ((n : Int) < -80000)))] ?_
 refine xsf z2 ?_
 refine SW_skip ?_
 refine SW_seq ?_
 refine xr [] [(17, .bool (decide ((n : Int) ≥ 0)))] ?_
 refine xst z3 ?_
 refine xg ?_
 refine xn 1 [] [(18, .slice A (List.length a) c)] ?_
 refine xcr 19 ca (zsS zi0 zs0) (fun A0 k0 => ?_)
 refine xn 3 [] [(20, .int .i64 (n : Int))] ?_
 refine xcr 21 (ct_spec_l1Left (x) (A0) (k0) ((n : Int)) (n) ⟨rfl⟩ (by omega) s1) (zsS zi0 zs0) (fun A1 k1 => ?_)
 refine xcr 22 (ct_spec_l1Out (x * 2 ^ n) (A1) (k1) s2) (zsS zi0 zs0) (fun A2 k2 => ?_)
 refine xz [] [(4, .slice A2 (List.length (ofN B64 (x * 2 ^ n))) k2)] ?_
 refine SW_ret ?_
 refine xe (A2, k2) (.slice A2 (List.length (ofN B64 (x * 2 ^ n))) k2) [] ?_ (zsS zi0 zs0)
 rfl
end
end Go.Proofs.Ytlggnljibebfeaa.M
end
section
namespace Go.Proofs.Ytlggnljibebfeaa.M
open Go.RowKit Go.Proofs.Ytlggnljibebfeaa.G Go.Proofs.YtlggnljibebfeaaV.PrintWords Go.Proofs.YtlggnljibebfeaaV.PrintLast Go.Proofs.Ytlggnljibebfeaa.X
set_option linter.unusedVariables false
set_option linter.unusedSimpArgs false
theorem ctR_of_dig {P : Program} {f : FuncId} {args : List Value} {pre : List Fact} {x : Nat} (hx : (digT0 x).length ≤ 9223372036854775807) (h : CtM P f args [] pre (γ := OW (digT0 x).length) (fun p => .slice (some ⟨p.1.1, 0, none⟩) (digT0 x).length p.1.2.2) (fun p => [digB x p.1.1 p.1.2.1]) (fun _ => [])) : CtR P f args pre .u8 (digT0 x) := fun B w hB hp =>
 (h B w (fun b hb => ⟨hB b hb, by simp⟩) (fun b hb => by cases hb) List.nodup_nil (fun F hF => (hp F hF).mono (fun k hk => ⟨hk, fun b hb => by cases hb⟩))).mono (fun en w' ⟨⟨⟨g, r, c⟩, hc⟩, h1, h3⟩ => by
  dsimp only at hc h1 h3
  have h4 : Holds ⟨P, 0, B, ⟨w, [], []⟩, none⟩ ⟨[], [digB x g r], []⟩ w' := ⟨h3.below, h3.box, h3.new, h3.nodup, (fun F hF => by cases hF), h3.old⟩
  refine ⟨(some ⟨g, 0, none⟩, c), h1, fun F hF => ?_, h3.below.out⟩
  rw [List.mem_singleton.1 hF]
  by_cases hd : digT x = []
  ·have e0 : digT0 x = [48] := by rw [digT0, if_pos hd]
   rw [e0] at hc ⊢
   have e1 : digB x g r = mkB g ([(48 : Int)].map (Value.int .u8)) 5 (1, 2) := by rw [digB, if_pos hd]; rfl
   rw [e1] at h4
   exact foot_from ((h4.fzM (h := 0) (g := g) (c := c) (xs := [48]) (k := .u8) rfl (by decide) (by simp at hc ⊢; omega) []).fact _ (List.mem_cons_self ..))
  ·have e0 : digT0 x = digT x := by rw [digT0, if_neg hd]
   rw [e0] at hc hx ⊢
   have e1 : digB x g r = ⟨g, cl .u8 (digT x) r, 5⟩ := by rw [digB, if_neg hd]
   rw [e1] at h4
   exact foot_from ((h4.fz (h := 0) (g := g) (c := c) rfl hx (by omega) []).fact _ (List.mem_cons_self ..)))
theorem ct_impl_NatToText_own (a : List Int) (x : Nat) (fa : Fr a x) (A : Option Addr) (c : Nat) : CtM Try.prog 11 [.slice A a.length c] [] [Row .u64 A c a] (γ := OW (digT0 x).length) (fun p => .slice (some ⟨p.1.1, 0, none⟩) (digT0 x).length p.1.2.2) (fun p => [digB x p.1.1 p.1.2.1]) (fun _ => []) := by
 have la := decide_eq_true fa.l
 have ct := fa.iIn A c
 obtain ⟨m, hm, hm2⟩ := fa.bits
 have cd := fun A c => ct_impl_nat_digits x fa.sm (by have := lowD_le hm.1 hm2; omega) A c
 have cs := fun g => ct_impl_short' g a.length c A true la
 refine cm_of Try.func11 rfl (by kernel_rfl) (fun B w0 => ?_)
 refine xr [] [(2, .slice none 0 0)] ?_
 refine SW_seq ?_
 refine xg ?_
 refine xn 1 [] [(3, .slice A (List.length a) c)] ?_
 refine xbl 4 [.slice A (List.length a) c] 22 1 (fun g0 => ?_)
 refine xcm 5 [true] (cs (g0)) zs0 (fun z0 => ?_)
 refine xz [] [(6, .bool false)] ?_
 refine xs0 ?_
 refine SW_skip ?_
 refine xg ?_
 refine xn 1 [] [(7, .slice A (List.length a) c)] ?_
 refine xcr 8 ct (zsS zi0 zs0) (fun A0 k0 => ?_)
 (refine xcm 9 [false] (cd (A0) (k0)) (zsS zi0 zs0) (fun zz => ?_); obtain ⟨⟨z1, ⟨z2, z3⟩⟩, p4⟩ := zz)
 refine xz [] [(2, .slice (some ⟨z1, 0, none⟩) (List.length (digT0 x)) z3)] ?_
 refine SW_ret ?_
 refine xmeg (.slice (some ⟨z1, 0, none⟩) (List.length (digT0 x)) z3) [] ?_
 exact ⟨⟨(z1, z2, z3), p4⟩, [false, true], rfl, rfl, zs0⟩
theorem ct_impl_NatToText_out (n : Nat) (hn : 1200 < n) (A : Option Addr) (c : Nat) : CtV Try.prog 11 [.slice A n c] [] (.slice none 0 0) := by
 have cs := fun g => ct_impl_short' g n c A false (decide_eq_false (by omega))
 refine ct_of Try.func11 rfl (by kernel_rfl) (fun B w0 => ?_)
 refine xr [] [(2, .slice none 0 0)] ?_
 refine SW_seq ?_
 refine xg ?_
 refine xn 1 [] [(3, .slice A n c)] ?_
 refine xbl 4 [.slice A n c] 22 1 (fun g0 => ?_)
 refine xcm 5 [true] (cs (g0)) zs0 (fun z0 => ?_)
 refine xz [] [(6, .bool true)] ?_
 refine xs1 ?_
 refine xr [] [(2, .slice none 0 0)] ?_
 refine SW_ret ?_
 refine xe () (.slice none 0 0) [] ?_ trivial
 rfl
theorem ct_spec_NatToText_rows (a : List Int) (x : Nat) (fa : Fr a x) (A : Option Addr) (c : Nat) : CtR Try.prog 9 [.slice A a.length c] [Row .u64 A c a] .u8 (digT0 x) := by
 have la := decide_eq_true fa.l
 have ct := fa.sIn A c
 obtain ⟨m, hm, hm2⟩ := fa.bits
 have cd := fun A c => ct_spec_l1Text x fa.sm (rdig_len hm.1 hm2) A c
 have cs := ct_spec_l1Fits a.length c A true la
 refine ct_of Try.func9 rfl (by kernel_rfl) (fun B w0 => ?_)
 refine xr [] [(2, .slice none 0 0)] ?_
 refine SW_seq ?_
 refine xg ?_
 refine xn 1 [] [(3, .slice A (List.length a) c)] ?_
 refine xcv 4 cs zs0 ?_
 refine xz [] [(5, .bool false)] ?_
 refine xs0 ?_
 refine SW_skip ?_
 refine xg ?_
 refine xn 1 [] [(6, .slice A (List.length a) c)] ?_
 refine xcr 7 ct (zsS zi0 zs0) (fun A0 k0 => ?_)
 refine xcr 8 (cd _ _) (zsS zi0 zs0) (fun A1 k1 => ?_)
 refine xz [] [(2, .slice A1 (List.length (digT0 x)) k1)] ?_
 refine SW_ret ?_
 refine xe (A1, k1) (.slice A1 (List.length (digT0 x)) k1) [] ?_ (zsS zi0 zs0)
 rfl
end Go.Proofs.Ytlggnljibebfeaa.M
end
section
namespace Go.Proofs.Ytlggnljibebfeaa.M
open Go.RowKit Go.Proofs.Ytlggnljibebfeaa.G Go.Proofs.YtlggnljibebfeaaV.PrintWords Go.Proofs.YtlggnljibebfeaaV.PrintLast Go.Proofs.Ytlggnljibebfeaa.X
set_option linter.unusedVariables false
set_option linter.unusedSimpArgs false
theorem xstr {X : Cx} {env : List (Nat × Value)} {bs : List Box} {fs : List Fact} {K : Exit → St → Prop} {ops : Array Oper} {j : Nat} (d e : Nat) {A : Option Addr} {c : Nat} {l : List Int} (hF : In (Row .u8 A c l) fs) {o : Oper} {t t2 : TypeId} {x : Operand} (hk : NW X ops (Nat.succ j) ⟨(d, .string (strOfNums l)) :: env, bs, fs⟩ K)
  (ho : ops[j]? = some o := by rfl) (hop : o.op = .convert t t2 x := by rfl) (hg : guardD ops env o = some true := by kernel_rfl) (hf : fitO X.n env o = true := by kernel_rfl) (hd : o.dst = some d := by rfl)
  (hx : evD env x = .slice A l.length c := by kernel_rfl) (ht : X.P.underlying t = some (.slice e) := by kernel_rfl) (he : X.P.underlying e = some (.int .u8) := by kernel_rfl) (ht2 : X.P.underlying t2 = some .string := by kernel_rfl) : NW X ops j ⟨env, bs, fs⟩ K :=
 nv _ d _ ho hg hf hd (fun w _ hw => by
  have h := (hw _ hF.mem).1
  unfold execOp
  simp only [hop, hx, Sem.run_bind, Kd.C_string ht he ht2 h]
  rfl) rfl hk
theorem ct_laws_sameBytes (l : List Int) (A A' : Option Addr) (c c' : Nat) : CtV Try.prog 19 [.slice A l.length c, .slice A' l.length c'] [Row .u8 A c l, Row .u8 A' c' l] (.bool true) := by
 refine ct_of Try.func19 rfl (by kernel_rfl) (fun B w0 => ?_)
 refine xr [] [(4, .bool false)] ?_
 refine xg ?_
 refine xn 1 [] [(5, .slice A (List.length l) c)] ?_
 refine xstr 6 5 zi0 ?_
 refine xn 3 [] [(7, .slice A' (List.length l) c')] ?_
 refine xstr 8 5 (ziS zi0) ?_
 refine xz [] [(4, .bool (ByteArray.toList (strOfNums l) == ByteArray.toList (strOfNums l)))] ?_
 refine SW_ret ?_
 refine xe () (.bool (ByteArray.toList (strOfNums l) == ByteArray.toList (strOfNums l))) [] ?_ trivial
 rw [beq_self_eq_true]
theorem ct_laws_sameLimbs (a : List Int) (A A' : Option Addr) (c c' : Nat) (hl : a.length ≤ 1000000000) : CtV Try.prog 20 [.slice A a.length c, .slice A' a.length c'] [Row .u64 A c a, Row .u64 A' c' a] (.bool true) := by
 refine ct_of Try.func20 rfl (by kernel_rfl) (fun B w0 => ?_)
 have z0 : ((a.length : Int) != (a.length : Int)) = false := by simp
 refine xr [] [(4, .bool false)] ?_
 refine SW_seq ?_
 refine xr [] [(10, .bool ((((List.length a) : Nat) : Int) != (((List.length a) : Nat) : Int)))] ?_
 refine xsf z0 ?_
 refine SW_skip ?_
 refine SW_seq ?_
 refine xr [] [(13, .int .i64 0), (12, .int .i64 (((List.length a) : Nat) : Int))] ?_
 refine SW_block ?_
 refine SW_loopn (fun m s => ∃ i : Nat, m + i = a.length ∧ Weak s ⟨[(0, .slice A a.length c), (1, .slice A' a.length c'), (12, .int .i64 (a.length : Int)), (13, .int .i64 (i : Int))], [], [Row .u64 A c a, Row .u64 A' c' a]⟩) a.length ⟨0, rfl, ?_⟩ (fun m s hI => ?_)
 ·exact xw (zsS zi0 (zsS (ziS zi0) zs0))
 ·obtain ⟨i, h1, hw⟩ := hI
  refine SW_weak hw ?_
  clear hw
  by_cases hi : i < a.length
  ·have z : decide ((i : Int) < (a.length : Int)) = true := decide_eq_true (by omega)
   obtain ⟨m, rfl⟩ : ∃ m', m = m' + 1 := ⟨m - 1, by omega⟩
   refine SW_know zi0 (fun w h => row_at h (by omega)) (fun ⟨ad, e⟩ => ?_)
   subst e
   refine SW_know (ziS zi0) (fun w h => row_at h (by omega)) (fun ⟨ad', e⟩ => ?_)
   subst e
   have vi : Ve (IntKind.i64.wrap ((i : Int) + 1)) ((i + 1 : Nat) : Int) := veI (by omega) (by omega)
   have z2 : (rd a (i : Int) != rd a (i : Int)) = false := by simp
   refine xr [] [(14, .bool (decide ((i : Int) < (((List.length a) : Nat) : Int))))] ?_
   refine SW_seq ?_
   refine xst z ?_
   refine SW_skip ?_
   refine SW_seq ?_
   refine SW_block ?_
   refine xr [] [(5, .int .i64 (i : Int))] ?_
   refine xd (fun hB => ?_)
   refine xdk [(0, []), (1, []), (4, []), (5, [])] [(21, .int .i64 (i : Int)), (20, .slice (some ad') (List.length a) c'), (17, .int .i64 (i : Int)), (16, .slice (some ad) (List.length a) c)] hB ?_
   refine xdfi 2 hB 18 36 (ad) (List.length a) (c) (i) IntKind.i64 ((i : Int)) ⟨rfl⟩ (by omega) ?_
   refine xdfl 3 hB 19 zi0 (i) (by omega) ?_
   refine xdfi 6 hB 22 36 (ad') (List.length a) (c') (i) IntKind.i64 ((i : Int)) ⟨rfl⟩ (by omega) ?_
   refine xdfl 7 hB 23 (ziS zi0) (i) (by omega) ?_
   refine xdk [(8, [])] [(24, .bool (rd a (i : Int) != rd a (i : Int)))] hB ?_
   refine xdz ?_
   refine xsf z2 ?_
   refine SW_skip ?_
   refine SW_region ?_
   refine xve 25 IntKind.i64 (IntKind.wrap IntKind.i64 ((i : Int) + 1)) ((((i + 1) : Nat) : Int)) vi ?_
   refine xz [] [(13, .int .i64 (((i + 1) : Nat) : Int))] ?_
   refine ⟨m, by omega, i + 1, by omega, ?_⟩
   exact xw (zsS zi0 (zsS (ziS zi0) zs0))
  ·have z : decide ((i : Int) < (a.length : Int)) = false := decide_eq_false (by omega)
   refine xr [] [(14, .bool (decide ((i : Int) < (((List.length a) : Nat) : Int))))] ?_
   refine SW_seq ?_
   refine xsf z ?_
   refine SW_exit ?_
   refine xr [] [(4, .bool true)] ?_
   refine SW_ret ?_
   refine xe () (.bool true) [] ?_ trivial
   rfl
theorem ct_impl_allDigits (l : List Int) (hd : Dgs l) (hl : l.length ≤ 100000) (h0 : 0 < l.length) (A : Option Addr) (c : Nat) : CtV Try.prog 52 [.slice A l.length c] [Row .u8 A c l] (.bool true) := by
 refine ct_of Try.func52 rfl (by kernel_rfl) (fun B w0 => ?_)
 have z0 : decide ((l.length : Int) > 0) = true := decide_eq_true (by omega)
 refine xr [] [(2, .bool false)] ?_
 refine SW_seq ?_
 refine xr [] [(7, .int .i64 0), (6, .int .i64 (((List.length l) : Nat) : Int)), (5, .slice A (List.length l) c)] ?_
 refine SW_block ?_
 refine SW_loopn (fun m s => ∃ i : Nat, m + i = l.length ∧ Weak s ⟨[(0, .slice A l.length c), (5, .slice A l.length c), (6, .int .i64 (l.length : Int)), (7, .int .i64 (i : Int))], [], [Row .u8 A c l]⟩) l.length ⟨0, rfl, ?_⟩ (fun m s hI => ?_)
 ·exact xw (zsS zi0 zs0)
 ·obtain ⟨i, h1, hw⟩ := hI
  refine SW_weak hw ?_
  clear hw
  by_cases hi : i < l.length
  ·have z : decide ((i : Int) < (l.length : Int)) = true := decide_eq_true (by omega)
   obtain ⟨m, rfl⟩ : ∃ m', m = m' + 1 := ⟨m - 1, by omega⟩
   refine SW_know zi0 (fun w h => row_at h (by omega)) (fun ⟨ad, e⟩ => ?_)
   subst e
   have hy : 48 ≤ rd l (i : Int) ∧ rd l (i : Int) ≤ 57 := hd _ (List.mem_of_getElem? (rd_some hi))
   have vi : Ve (IntKind.i64.wrap ((i : Int) + 1)) ((i + 1 : Nat) : Int) := veI (by omega) (by omega)
   have z2 : decide (rd l (i : Int) < 48) = false := decide_eq_false (by omega)
   have z3 : decide (rd l (i : Int) > 57) = false := decide_eq_false (by omega)
   refine xr [] [(8, .bool (decide ((i : Int) < (((List.length l) : Nat) : Int))))] ?_
   refine SW_seq ?_
   refine xst z ?_
   refine SW_skip ?_
   refine SW_seq ?_
   refine SW_block ?_
   refine xg ?_
   refine xfi 9 5 (ad) (List.length l) (c) (i) IntKind.i64 ((i : Int)) ⟨rfl⟩ (by omega) ?_
   refine xfl 10 zi0 (i) (by omega) ?_
   refine xz [] [(4, .int .u8 (rd l (i : Int)))] ?_
   refine xg ?_
   refine xn 3 [] [(13, .bool (decide (rd l (i : Int) < 48)))] ?_
   refine xkf 13 z2 ?_
   refine xz [] [(16, .bool (decide (rd l (i : Int) > 57)))] ?_
   refine xsf z3 ?_
   refine SW_skip ?_
   refine SW_region ?_
   refine xve 17 IntKind.i64 (IntKind.wrap IntKind.i64 ((i : Int) + 1)) ((((i + 1) : Nat) : Int)) vi ?_
   refine xz [] [(7, .int .i64 (((i + 1) : Nat) : Int))] ?_
   refine ⟨m, by omega, i + 1, by omega, ?_⟩
   exact xw (zsS zi0 zs0)
  ·have z : decide ((i : Int) < (l.length : Int)) = false := decide_eq_false (by omega)
   refine xr [] [(8, .bool (decide ((i : Int) < (((List.length l) : Nat) : Int))))] ?_
   refine SW_seq ?_
   refine xsf z ?_
   refine SW_exit ?_
   refine xr [] [(2, .bool (decide ((((List.length l) : Nat) : Int) > 0)))] ?_
   refine SW_ret ?_
   refine xe () (.bool (decide ((((List.length l) : Nat) : Int) > 0))) [] ?_ trivial
   rw [z0]
theorem ct_impl_NatFromText (l : List Int) (hd : Dgs l) (hl : l.length ≤ 20000) (h0 : 0 < l.length) (A : Option Addr) (c : Nat) : CtRV Try.prog 18 [.slice A l.length c] [Row .u8 A c l] .u64 (ofN B64 (decV l)) (.bool true) := by
 have z : decide ((l.length : Int) > 20000) = false := decide_eq_false (by omega)
 have c1 := ct_impl_allDigits l hd (by omega) h0 A c
 have c2 := ct_impl_fromDigits l.length l (Nat.le_refl _) (by omega) hd A c
 refine ct_of Try.func18 rfl (by kernel_rfl) (fun B w0 => ?_)
 refine xr [] [(3, .bool false), (2, .slice none 0 0)] ?_
 refine SW_seq ?_
 refine xg ?_
 refine xn 4 [] [(7, .bool (decide ((((List.length l) : Nat) : Int) > 20000)))] ?_
 refine xkf 7 z ?_
 refine xn 5 [] [(8, .slice A (List.length l) c)] ?_
 refine xcv 9 c1 (zsS zi0 zs0) ?_
 refine xz [] [(11, .bool false)] ?_
 refine xs0 ?_
 refine SW_skip ?_
 refine xg ?_
 refine xn 1 [] [(12, .slice A (List.length l) c)] ?_
 refine xcr 13 c2 (zsS zi0 zs0) (fun A0 k0 => ?_)
 refine xz [] [(3, .bool true), (2, .slice A0 (List.length (ofN B64 (decV l))) k0)] ?_
 refine SW_ret ?_
 refine xe (A0, k0) (.tuple #[.slice A0 (List.length (ofN B64 (decV l))) k0, .bool true]) [] ?_ (zsS zi0 zs0)
 rfl
theorem ct_impl_NatFromText_out (n : Nat) (hn : 20000 < n) (A : Option Addr) (c : Nat) : CtV Try.prog 18 [.slice A n c] [] (.tuple #[.slice none 0 0, .bool false]) := by
 have z : decide ((n : Int) > 20000) = true := decide_eq_true (by omega)
 refine ct_of Try.func18 rfl (by kernel_rfl) (fun B w0 => ?_)
 refine xr [] [(3, .bool false), (2, .slice none 0 0)] ?_
 refine SW_seq ?_
 refine xg ?_
 refine xn 4 [] [(7, .bool (decide ((n : Int) > 20000)))] ?_
 refine xkt 7 z ?_
 refine xz [] [(11, .bool true)] ?_
 refine xs1 ?_
 refine xr [] [(3, .bool false), (2, .slice none 0 0)] ?_
 refine SW_ret ?_
 refine xe () (.tuple #[.slice none 0 0, .bool false]) [] ?_ trivial
 rfl
theorem ct_spec_NatAdd_rows (a b : List Int) (x y : Nat) (fa : Fr a x) (fb : Fr b y) (A A' : Option Addr) (c c' : Nat) : CtR Try.prog 22 [.slice A a.length c, .slice A' b.length c'] [Row .u64 A c a, Row .u64 A' c' b] .u64 (ofN B64 (x + y)) := by
 have la := decide_eq_true fa.l
 have lb := decide_eq_true fb.l
 have s1 := fa.sm
 have s2 := fb.sm
 obtain ⟨m, hm, hm1⟩ := fa.bits
 obtain ⟨n, hn, hn1⟩ := fb.bits
 have s3 : Sm (x + y) := by
  obtain ⟨E, hE⟩ : ∃ E : Nat, E = 76800 := ⟨_, rfl⟩
  have h1 := Nat.lt_of_lt_of_le hm.1 (Nat.pow_le_pow_right (by decide : 2 > 0) (show m ≤ E by omega))
  have h2 := Nat.lt_of_lt_of_le hn.1 (Nat.pow_le_pow_right (by decide : 2 > 0) (show n ≤ E by omega))
  refine Sm.of (k := E + 1) ?_ (by omega)
  rw [Nat.pow_succ]
  omega
 have ca := fa.sIn A c
 have cb := fb.sIn A' c'
 refine ct_of Try.func22 rfl (by kernel_rfl) (fun B w0 => ?_)
 refine xr [] [(4, .slice none 0 0)] ?_
 refine SW_seq ?_
 refine xg ?_
 refine xn 1 [] [(5, .slice A (List.length a) c)] ?_
 refine xcv 6 (ct_spec_l1Fits (List.length a) (c) (A) (true) la) zs0 ?_
 refine xn 5 [] [(9, .slice A' (List.length b) c'), (8, .bool false)] ?_
 refine xcv 10 (ct_spec_l1Fits (List.length b) (c') (A') (true) lb) zs0 ?_
 refine xz [] [(12, .bool false)] ?_
 refine xs0 ?_
 refine SW_skip ?_
 refine xg ?_
 refine xn 1 [] [(13, .slice A (List.length a) c)] ?_
 refine xcr 14 ca (zsS zi0 zs0) (fun A0 k0 => ?_)
 refine xn 3 [] [(15, .slice A' (List.length b) c')] ?_
 refine xcr 16 cb (zsS (ziS (ziS zi0)) zs0) (fun A1 k1 => ?_)
 refine xcr 17 (ct_spec_l1Add (x) (y) (A0) (A1) (k0) (k1) s1 s2) (zsS (ziS zi0) (zsS zi0 zs0)) (fun A2 k2 => ?_)
 refine xcr 18 (ct_spec_l1Out (x + y) (A2) (k2) s3) (zsS zi0 zs0) (fun A3 k3 => ?_)
 refine xz [] [(4, .slice A3 (List.length (ofN B64 (x + y))) k3)] ?_
 refine SW_ret ?_
 refine xe (A3, k3) (.slice A3 (List.length (ofN B64 (x + y))) k3) [] ?_ (zsS zi0 zs0)
 rfl
theorem ct_spec_DrawNatToText (bt : List Int) (hx : bt.length ≤ 1048576) (dx : Dig 256 bt) (A : Option Addr) (c : Nat) : CtR Try.prog 17 [.slice A bt.length c] [Row .u8 A c bt] .u64 (drawL bt 0).1 := by
 have cl0 := fun g => limbs_det g A c bt 0 (Nat.zero_le _) hx dx
 refine ct_of Try.func17 rfl (by kernel_rfl) (fun B w0 => ?_)
 generalize drawL bt 0 = q at cl0 ⊢
 refine xr [] [(2, .slice none 0 0)] ?_
 refine xg ?_
 refine xn 2 [] [(5, .agg #[.slice A (List.length bt) c, .int .i64 0])] ?_
 refine xb 6 [.slice A (List.length bt) c, .int .i64 0] 82 (fun g0 => ?_)
 refine xz [] [(3, .pointer (some ⟨g0, 0, none⟩))] ?_
 refine xg ?_
 refine xn 1 [] [(7, .pointer (some ⟨g0, 0, none⟩))] ?_
 (refine xcm 8 [true] (cl0 (g0)) (zsS zi0 zs0) (fun zz => ?_); obtain ⟨z0, z1⟩ := zz)
 refine xz [] [(2, .slice z0 (List.length (Prod.fst q)) z1)] ?_
 refine SW_ret ?_
 refine xe (z0, z1) (.slice z0 (List.length (Prod.fst q)) z1) [] ?_ (zsS zi0 zs0)
 rfl
theorem ten_low (n : Nat) (h : n ≤ 19999) : ∃ M, M = 66670 ∧ 10 ^ n ≤ 2 ^ M := by
 obtain ⟨k, hk⟩ : ∃ k : Nat, k = 6667 := ⟨_, rfl⟩
 have h1 : (10 : Nat) ^ n ≤ 10 ^ (3 * k) := Nat.pow_le_pow_right (by decide) (by omega)
 have h2 : (10 : Nat) ^ (3 * k) ≤ 2 ^ (10 * k) := by
  rw [Nat.pow_mul, Nat.pow_mul]
  exact Nat.pow_le_pow_left (by decide) k
 exact ⟨10 * k, by omega, Nat.le_trans h1 h2⟩
theorem ct_laws_FnNatText (bt : List Int) (dx : Dig 256 bt) (A : Option Addr) (c : Nat) : CtV Try.prog 4 [.slice A bt.length c] [Row .u8 A c bt] (.bool true) := by
 by_cases hb : 1048576 < bt.length
 ·have z : decide ((bt.length : Int) > 1048576) = true := decide_eq_true (by omega)
  refine ct_of Try.func4 rfl (by kernel_rfl) (fun B w0 => ?_)
  refine xr [] [(2, .bool false)] ?_
  refine SW_seq ?_
  refine xr [] [(11, .bool (decide ((((List.length bt) : Nat) : Int) > 1048576)))] ?_
  refine xst z ?_
  refine xr [] [(2, .bool true)] ?_
  refine SW_ret ?_
  refine xe () (.bool true) [] ?_ trivial
  rfl
 have z : decide ((bt.length : Int) > 1048576) = false := decide_eq_false (by omega)
 have cd := fun A c => ct_spec_DrawNatToText bt (by omega) dx A c
 have hq := drawL_ok dx (Nat.zero_le bt.length)
 obtain ⟨⟨a, j⟩, hqe⟩ : ∃ q, drawL bt 0 = q := ⟨_, rfl⟩
 rw [hqe] at hq cd
 obtain ⟨da, hl, _⟩ := hq
 dsimp only at da hl cd
 clear hqe
 by_cases h1 : a.length ≤ 1200
 ·obtain ⟨x, fa⟩ : ∃ x, Fr a x := ⟨_, da, h1, rfl⟩
  have zl : decide ((a.length : Int) > 1200) = false := decide_eq_false (by omega)
  obtain ⟨m, hm, hm2⟩ := fa.bits
  have hlen := digT0_len hm.1 hm2
  have ki := fun A c => ctR_of_dig (x := x) (by omega) (ct_impl_NatToText_own a x fa A c)
  have ks := fun A c => ct_spec_NatToText_rows a x fa A c
  have hv := decV_digT0 x
  have hg := digT0_dgs x
  have h0 : 0 < (digT0 x).length := by
   rcases Nat.eq_zero_or_pos (digT0 x).length with h | h
   ·have h2 := List.eq_nil_of_length_eq_zero h
    by_cases hx0 : x = 0
    ·subst hx0
     cases h2
    ·rw [digT0_pos hx0, List.reverse_eq_nil_iff, rdig_nil] at h2
     exact absurd h2 hx0
   ·exact h
  have hlt := decV_lt hg
  rw [hv] at hlt
  generalize digT0 x = D at ki ks hv hg h0 hlt hlen
  by_cases h2 : D.length ≤ 20000
  ·have z2 : decide ((D.length : Int) > 20000) = false := decide_eq_false (by omega)
   have cf := fun A c => ct_impl_NatFromText D hg h2 h0 A c
   rw [hv] at cf
   have csh := fun A c => ct_spec_NatShift_rows a x fa 0 0 ⟨rfl⟩ (by decide) A c
   rw [Nat.pow_zero, Nat.mul_one] at csh
   have csl : ∀ A A' c c', CtV Try.prog 20 [.slice A (ofN B64 x).length c, .slice A' (ofN B64 x).length c'] [Row .u64 A c (ofN B64 x), Row .u64 A' c' (ofN B64 x)] (.bool true) := fun A A' c c' => ct_laws_sameLimbs _ A A' c c' (by have := fa.sm.len64; omega)
   by_cases h3 : D.length = 20000
   ·have z3 : ((D.length : Int) == 20000) = true := by rw [h3]; rfl
    refine ct_of Try.func4 rfl (by kernel_rfl) (fun B w0 => ?_)
    refine xr [] [(2, .bool false)] ?_
    refine SW_seq ?_
    refine xr [] [(11, .bool (decide ((((List.length bt) : Nat) : Int) > 1048576)))] ?_
    refine xsf z ?_
    refine SW_skip ?_
    refine xg ?_
    refine xn 1 [] [(12, .slice A (List.length bt) c)] ?_
    refine xcr 13 (cd _ _) (zsS zi0 zs0) (fun A0 k0 => ?_)
    refine xz [] [(3, .slice A0 (List.length a) k0)] ?_
    refine xg ?_
    refine xn 1 [] [(14, .slice A (List.length bt) c)] ?_
    refine xcr 15 (cd _ _) (zsS (ziS zi0) zs0) (fun A1 k1 => ?_)
    refine xz [] [(4, .slice A1 (List.length a) k1)] ?_
    refine xg ?_
    refine xn 1 [] [(16, .slice A0 (List.length a) k0)] ?_
    refine xcr 17 (ki _ _) (zsS (ziS zi0) zs0) (fun A2 k2 => ?_)
    refine xz [] [(5, .slice A2 (List.length D) k2)] ?_
    refine SW_seq ?_
    refine xr [] [(20, .bool (decide ((((List.length a) : Nat) : Int) > 1200)))] ?_
    refine xsf zl ?_
    refine SW_skip ?_
    refine xg ?_
    refine xn 1 [] [(25, .slice A2 (List.length D) k2)] ?_
    refine xct 26 (cf _ _) (zsS zi0 zs0) (fun A3 k3 => ?_)
    refine xz [] [(7, .bool true), (6, .slice A3 (List.length (ofN B64 x)) k3)] ?_
    refine SW_seq ?_
    refine xr [] [(31, .bool (decide ((((List.length D) : Nat) : Int) > 20000)))] ?_
    refine xsf z2 ?_
    refine SW_skip ?_
    refine SW_seq ?_
    refine xg ?_
    refine xn 5 [] [(44, .slice A1 (List.length a) k1), (43, .slice A3 (List.length (ofN B64 x)) k3), (42, .bool false)] ?_
    refine xcr 45 (csh _ _) (zsS (ziS (ziS zi0)) zs0) (fun A4 k4 => ?_)
    refine xcv 46 (csl _ _ _ _) (zsS (ziS zi0) (zsS zi0 zs0)) ?_
    refine xz [] [(48, .bool false)] ?_
    refine xs0 ?_
    refine SW_skip ?_
    refine SW_seq ?_
    refine xr [] [(51, .bool ((((List.length D) : Nat) : Int) == 20000))] ?_
    refine xst z3 ?_
    refine xr [] [(2, .bool true)] ?_
    refine SW_ret ?_
    refine xe () (.bool true) [] ?_ trivial
    rfl
   ·have z3 : ((D.length : Int) == 20000) = false := by rw [beq_eq_false_iff_ne]; omega
    have autofz : True := trivial
    have hL : (D ++ [55]).length ≤ 20000 := by rw [List.length_append, List.length_singleton]; omega
    have hL0 : 0 < (D ++ [55]).length := by rw [List.length_append, List.length_singleton]; omega
    have hD55 : Dgs (D ++ [55]) := fun y hy => by
     rcases List.mem_append.1 hy with h | h
     ·exact hg y h
     ·rw [List.mem_singleton.1 h]
      decide
    have cf2 := fun A c => ct_impl_NatFromText (D ++ [55]) hD55 hL hL0 A c
    rw [decV_snoc, hv, show ((55 : Int).toNat - 48) = 7 from rfl] at cf2
    have f10 : Fr [10] 10 := Fr.of1 (l := 10) (by decide)
    have f7 : Fr [7] 7 := Fr.of1 (l := 7) (by decide)
    obtain ⟨M, hM, hb10⟩ := ten_low D.length (by omega)
    have hx2 : x * 10 < 2 ^ (M + 4) := by
     rw [Nat.pow_add]
     generalize (2 : Nat) ^ M = Z at hb10 ⊢
     omega
    have fx := Fr.of hx2 (by omega)
    have cmul : ∀ A A' c c', CtR Try.prog 23 [.slice A a.length c, .slice A' 1 c'] [Row .u64 A c a, Row .u64 A' c' [10]] .u64 (ofN B64 (x * 10)) := fun A A' c c' => ct_spec_NatMul_rows a [10] x 10 fa f10 fx.sm A A' c c'
    have cadd : ∀ A A' c c', CtR Try.prog 22 [.slice A (ofN B64 (x * 10)).length c, .slice A' 1 c'] [Row .u64 A c (ofN B64 (x * 10)), Row .u64 A' c' [7]] .u64 (ofN B64 (x * 10 + 7)) := fun A A' c c' => ct_spec_NatAdd_rows _ [7] (x * 10) 7 fx f7 A A' c c'
    have csl2 : ∀ A A' c c', CtV Try.prog 20 [.slice A (ofN B64 (x * 10 + 7)).length c, .slice A' (ofN B64 (x * 10 + 7)).length c'] [Row .u64 A c (ofN B64 (x * 10 + 7)), Row .u64 A' c' (ofN B64 (x * 10 + 7))] (.bool true) := fun A A' c c' => ct_laws_sameLimbs _ A A' c c' (by
     have h : Sm (x * 10 + 7) := Sm.of (k := M + 4 + 1) (by
      rw [Nat.pow_succ]
      have : (2 : Nat) ^ (M + 4) ≥ 2 ^ 3 := Nat.pow_le_pow_right (by decide) (by omega)
      generalize (2 : Nat) ^ (M + 4) = Z at hx2 this ⊢
      omega) (by omega)
     have := h.len64
     omega)
    clear hb10 hM hx2 fx f10 f7 hv hlt hm hm2
    refine ct_of Try.func4 rfl (by kernel_rfl) (fun B w0 => ?_)
    refine xr [] [(2, .bool false)] ?_
    refine SW_seq ?_
    refine xr [] [(11, .bool (decide ((((List.length bt) : Nat) : Int) > 1048576)))] ?_
    refine xsf z ?_
    refine SW_skip ?_
    refine xg ?_
    refine xn 1 [] [(12, .slice A (List.length bt) c)] ?_
    refine xcr 13 (cd _ _) (zsS zi0 zs0) (fun A0 k0 => ?_)
    refine xz [] [(3, .slice A0 (List.length a) k0)] ?_
    refine xg ?_
    refine xn 1 [] [(14, .slice A (List.length bt) c)] ?_
    refine xcr 15 (cd _ _) (zsS (ziS zi0) zs0) (fun A1 k1 => ?_)
    refine xz [] [(4, .slice A1 (List.length a) k1)] ?_
    refine xg ?_
    refine xn 1 [] [(16, .slice A0 (List.length a) k0)] ?_
    refine xcr 17 (ki _ _) (zsS (ziS zi0) zs0) (fun A2 k2 => ?_)
    refine xz [] [(5, .slice A2 (List.length D) k2)] ?_
    refine SW_seq ?_
    refine xr [] [(20, .bool (decide ((((List.length a) : Nat) : Int) > 1200)))] ?_
    refine xsf zl ?_
    refine SW_skip ?_
    refine xg ?_
    refine xn 1 [] [(25, .slice A2 (List.length D) k2)] ?_
    refine xct 26 (cf _ _) (zsS zi0 zs0) (fun A3 k3 => ?_)
    refine xz [] [(7, .bool true), (6, .slice A3 (List.length (ofN B64 x)) k3)] ?_
    refine SW_seq ?_
    refine xr [] [(31, .bool (decide ((((List.length D) : Nat) : Int) > 20000)))] ?_
    refine xsf z2 ?_
    refine SW_skip ?_
    refine SW_seq ?_
    refine xg ?_
    refine xn 5 [] [(44, .slice A1 (List.length a) k1), (43, .slice A3 (List.length (ofN B64 x)) k3), (42, .bool false)] ?_
    refine xcr 45 (csh _ _) (zsS (ziS (ziS zi0)) zs0) (fun A4 k4 => ?_)
    refine xcv 46 (csl _ _ _ _) (zsS (ziS zi0) (zsS zi0 zs0)) ?_
    refine xz [] [(48, .bool false)] ?_
    refine xs0 ?_
    refine SW_skip ?_
    refine SW_seq ?_
    refine xr [] [(51, .bool ((((List.length D) : Nat) : Int) == 20000))] ?_
    refine xsf z3 ?_
    refine SW_skip ?_
    refine xg ?_
    refine xn 1 [] [(53, .slice A2 (List.length D) k2)] ?_
    refine xa0r 54 5 1 (ziS (ziS zi0)) (by omega) (by omega) (fun g0 r0 c0 hc0 => ?_)
    refine xbl 55 [.int .u8 55] 5 1 (fun g1 => ?_)
    refine xap 56 0 1 1 5 1 (g0) (g1) (c0) (1) IntKind.u8 5 (D) (r0) [55] (by omega) (by omega) (fun g2 r1 c1 hc1 => ?_)
    refine NW_fz 0 (c1) g2 IntKind.u8 (D ++ [55]) (r1) 5 (by omega) (by omega) ?_
    refine xct 57 (cf2 _ _) (zsS zi0 zs0) (fun A5 k5 => ?_)
    refine xz [] [(7, .bool true), (8, .slice A5 (List.length (ofN B64 (x * 10 + 7))) k5)] ?_
    refine xg ?_
    refine xn 4 [] [(63, .slice A1 (List.length a) k1), (62, .slice A5 (List.length (ofN B64 (x * 10 + 7))) k5), (61, .bool true)] ?_
    refine xbl 64 [.int .u64 10] 36 1 (fun g3 => ?_)
    refine NW_fz 0 1 g3 IntKind.u64 [10] [] 36 (by simp) (by simp) ?_
    refine xcr 65 (cmul _ _ _ _) (zsS (ziS (ziS (ziS (ziS (ziS (ziS zi0)))))) (zsS zi0 zs0)) (fun A6 k6 => ?_)
    refine xbl 66 [.int .u64 7] 36 1 (fun g4 => ?_)
    refine NW_fz 0 1 g4 IntKind.u64 [7] [] 36 (by simp) (by simp) ?_
    refine xcr 67 (cadd _ _ _ _) (zsS (ziS zi0) (zsS zi0 zs0)) (fun A7 k7 => ?_)
    refine xcv 68 (csl2 _ _ _ _) (zsS (ziS (ziS (ziS (ziS zi0)))) (zsS zi0 zs0)) ?_
    refine xz [] [(2, .bool true)] ?_
    refine SW_ret ?_
    refine xe () (.bool true) [] ?_ trivial
    rfl
  ·have z2 : decide ((D.length : Int) > 20000) = true := decide_eq_true (by omega)
   have cf := fun A c => ct_impl_NatFromText_out D.length (by omega) A c
   have csb := fun A A' c c' => ct_laws_sameBytes D A A' c c'
   refine ct_of Try.func4 rfl (by kernel_rfl) (fun B w0 => ?_)
   refine xr [] [(2, .bool false)] ?_
   refine SW_seq ?_
   refine xr [] [(11, .bool (decide ((((List.length bt) : Nat) : Int) > 1048576)))] ?_
   refine xsf z ?_
   refine SW_skip ?_
   refine xg ?_
   refine xn 1 [] [(12, .slice A (List.length bt) c)] ?_
   refine xcr 13 (cd _ _) (zsS zi0 zs0) (fun A0 k0 => ?_)
   refine xz [] [(3, .slice A0 (List.length a) k0)] ?_
   refine xg ?_
   refine xn 1 [] [(14, .slice A (List.length bt) c)] ?_
   refine xcr 15 (cd _ _) (zsS (ziS zi0) zs0) (fun A1 k1 => ?_)
   refine xz [] [(4, .slice A1 (List.length a) k1)] ?_
   refine xg ?_
   refine xn 1 [] [(16, .slice A0 (List.length a) k0)] ?_
   refine xcr 17 (ki _ _) (zsS (ziS zi0) zs0) (fun A2 k2 => ?_)
   refine xz [] [(5, .slice A2 (List.length D) k2)] ?_
   refine SW_seq ?_
   refine xr [] [(20, .bool (decide ((((List.length a) : Nat) : Int) > 1200)))] ?_
   refine xsf zl ?_
   refine SW_skip ?_
   refine xg ?_
   refine xn 1 [] [(25, .slice A2 (List.length D) k2)] ?_
   refine xcv 26 (cf (A2) (k2)) zs0 ?_
   refine xz [] [(7, .bool false), (6, .slice none 0 0)] ?_
   refine SW_seq ?_
   refine xr [] [(31, .bool (decide ((((List.length D) : Nat) : Int) > 20000)))] ?_
   refine xst z2 ?_
   refine xg ?_
   refine xn 5 [] [(36, .slice A1 (List.length a) k1), (35, .slice A2 (List.length D) k2), (34, .bool true)] ?_
   refine xcr 37 (ks _ _) (zsS (ziS zi0) zs0) (fun A3 k3 => ?_)
   refine xcv 38 (csb _ _ _ _) (zsS (ziS zi0) (zsS zi0 zs0)) ?_
   refine xz [] [(2, .bool true)] ?_
   refine SW_ret ?_
   refine xe () (.bool true) [] ?_ trivial
   rfl
 ·have zl : decide ((a.length : Int) > 1200) = true := decide_eq_true (by omega)
  have ki := fun A c => ct_impl_NatToText_out a.length (by omega) A c
  refine ct_of Try.func4 rfl (by kernel_rfl) (fun B w0 => ?_)
  refine xr [] [(2, .bool false)] ?_
  refine SW_seq ?_
  refine xr [] [(11, .bool (decide ((((List.length bt) : Nat) : Int) > 1048576)))] ?_
  refine xsf z ?_
  refine SW_skip ?_
  refine xg ?_
  refine xn 1 [] [(12, .slice A (List.length bt) c)] ?_
  refine xcr 13 (cd _ _) (zsS zi0 zs0) (fun A0 k0 => ?_)
  refine xz [] [(3, .slice A0 (List.length a) k0)] ?_
  refine xg ?_
  refine xn 1 [] [(14, .slice A (List.length bt) c)] ?_
  refine xcr 15 (cd _ _) (zsS (ziS zi0) zs0) (fun A1 k1 => ?_)
  refine xz [] [(4, .slice A1 (List.length a) k1)] ?_
  refine xg ?_
  refine xn 1 [] [(16, .slice A0 (List.length a) k0)] ?_
  refine xcv 17 (ki (A0) (k0)) zs0 ?_
  refine xz [] [(5, .slice none 0 0)] ?_
  refine SW_seq ?_
  refine xr [] [(20, .bool (decide ((((List.length a) : Nat) : Int) > 1200)))] ?_
  refine xst zl ?_
  refine xr [] [(2, .bool true)] ?_
  refine SW_ret ?_
  refine xe () (.bool true) [] ?_ trivial
  rfl
end Go.Proofs.Ytlggnljibebfeaa.M
end
