/- Marks of loops over functions, results, and the machine's steps at such a loop whose function calls for no round. -/
import Derived.Test.YtjaaajmiojigbaaGreatDoorDraw4
import Derived.RangeFuncLeaves
import Derived.RangeFuncRecord
import Derived.Laws.Sem
namespace Go.Proofs.YtjaaajmiojigbaaGreatDoor
open Go Go.RowKit
variable {E : Env} {X : Ctx}

section
variable {P : Program} {base : Nat} {ρ σ : Mp} {s s' : St} {w w' w'' : World}

theorem HR.off (h : HR E base ρ s w) (hsz : w.heap.size ≤ w'.heap.size) (hold : ∀ b o l, s.H.get b = some o → ρ b = some l → w'.heap[l.g]? = w.heap[l.g]?) (hfz : ∀ g o, ρ.fz g = some o → w'.heap[g]? = w.heap[g]?) : HR E base ρ s w' :=
  ⟨fun b o hb => let ⟨l, h1, h2⟩ := h.objs b o hb; ⟨l, h1, h2.mono (Ext.refl _) (hold b o l hb h1)⟩, h.apart, h.fresh, Nat.le_trans h.base hsz, fun g o hg => (hfz g o hg).trans (h.frz g o hg), h.fzap⟩
theorem Turn.off (t : Turn ρ s w σ s' w') (ha : Alike w' w'') (hsz : w'.heap.size ≤ w''.heap.size) (hold : ∀ g, g < w.heap.size → w''.heap[g]? = w'.heap[g]?) : Turn ρ s w σ s' w'' :=
  ⟨t.ext, t.nx, ha.os.trans t.os, ha.tape.trans t.tape, ha.output.trans t.output, Nat.le_trans t.size hsz, fun g hg hn => (hold g hg).trans (t.block g hg hn), t.from_, t.old, t.fzs⟩

/-- The deferred calls are marks alone, and they are taken. -/
inductive Taken (P : Program) : List Deferred → World → World → Prop
  | nil (w : World) : Taken P [] w w
  | cons {d : Deferred} {ds : List Deferred} {r : Nat} {w w1 w' : World} (ht : d.target = .collected r) (hk : (Instr.takeDeferred r).run P w = .ok [] w1) (h : Taken P ds w1 w') : Taken P (d :: ds) w w'

theorem marks_run {lo : Nat} : ∀ {ds : List Deferred} {w : World}, Mk lo σ s' w ds → base ≤ lo → HR E base σ s' w → ∃ w', Taken P ds w w' ∧ HR E base σ s' w' ∧ Alike w w' ∧ w'.heap.size = w.heap.size ∧ ∀ g, g < lo → w'.heap[g]? = w.heap[g]?
  | [], w, _, _, h => ⟨w, .nil w, h, Alike.refl w, rfl, fun _ _ => rfl⟩
  | d :: ds, w, hm, hb, h => by
    obtain ⟨D, rfl, h2, h3, h0, h4⟩ := hm.one d List.mem_cons_self
    have hother : ∀ k, k ≠ D → (w.putObj D (.deferred none)).heap[k]? = w.heap[k]? := fun k hk => World.putObj_heap_other hk
    have hpw := List.pairwise_cons.1 hm.apart
    have hm' : Mk lo σ s' (w.putObj D (.deferred none)) ds := by
      refine ⟨fun d' hd' => ?_, hpw.2⟩
      obtain ⟨D', h5, h6, h7, h0', h8⟩ := hm.one d' (List.mem_cons_of_mem _ hd')
      have hne : D' ≠ D := fun e => hpw.1 d' hd' D rfl (by rw [h5, e])
      exact ⟨D', h5, h6, (hother D' hne).trans h7, h0', h8⟩
    have h' : HR E base σ s' (w.putObj D (.deferred none)) := h.off (by simp) (fun b o l hbb hl => hother _ (h4 b o l hbb hl)) fun g o hg => hother g fun e => by rw [e, h0] at hg; cases hg
    obtain ⟨w', h5, h6, h7, h8, h9⟩ := marks_run hm' hb h'
    refine ⟨w', .cons rfl (run_takeDeferred h3) h5, h6, ⟨h7.os, h7.tape, h7.output⟩, by simpa using h8, fun g hg => (h9 g hg).trans (hother g (by omega))⟩

def bodyPostK (P : Program) (fn : Func) (R : Ending → World → Prop) : Exit → Act → World → Prop
  | .normal, a, w | .ret, a, w => ∃ w', Taken P a.defers w w' ∧ ∃ v, (results fn a.tmps).run P w' = .ok v w' ∧ R (.returned v) w'
  | _, _, _ => False

theorem taken_steps {ds : List Deferred} {w w' : World} (h : Taken P ds w w') : ∀ (fr : Frame) (cs : List Frame), fr.mode = .returning → fr.defers = ds → Steps P (lone fr cs w) (lone { fr with defers := [] } cs w') := by
  induction h with
  | nil w => intro fr cs _ hd; have : ({ fr with defers := [] } : Frame) = fr := by rw [← hd]
             rw [this]; exact Steps.refl _ _
  | @cons d ds r w w1 w' ht hk _ ih =>
    intro fr cs hm hd
    have h1 := step_collected (cs := cs) (by rw [hm]; simp) hd ht hk
    exact .head h1 (ih { fr with defers := [] ++ ds } cs hm rfl)

theorem calls_of_wp_marks {f : FuncId} {fn : Func} {c : Code} {args : Array Value} {R : Ending → World → Prop} (hf : P.funcs[f]? = some fn) (hb : fn.body = some c)
    (h : c.wp P (bodyPostK P fn R) { tmps := args ++ Array.replicate (fn.ntmps - args.size) undef, defers := [] } w) : Calls P f args w R := by
  intro cs
  let b : Frame := { (default : Frame) with fn := f, kind := .normal }
  have henter : Frame.enter P f args .normal = b.at { tmps := args ++ Array.replicate (fn.ntmps - args.size) undef, defers := [] } [.code c] := by
    simp [Frame.enter, Frame.at, hf, hb, b]
  obtain ⟨e, a', w', hq, harr⟩ := h b [] cs
  rw [← henter] at harr
  cases e with
  | normal =>
    obtain ⟨w2, ht, v, hr, hR⟩ := hq
    exact ⟨.returned v, w2, _, hR, Steps.trans harr (.head step_end (taken_steps ht _ cs rfl rfl)), rfl, rfl, rfl, rfl, fn, hf, hr⟩
  | ret =>
    obtain ⟨w2, ht, v, hr, hR⟩ := hq
    obtain ⟨todo, hs⟩ := harr
    exact ⟨.returned v, w2, _, hR, Steps.trans hs (taken_steps ht _ cs rfl rfl), rfl, rfl, rfl, rfl, fn, hf, hr⟩
  | panic chain => exact hq.elim
  | exit id => exact hq.elim
  | goto l => exact hq.elim
  | outgrown => exact hq.elim

section steps
variable {b : Frame} {a : Act} {k : List Item} {cs : List Frame}
theorem finish_at_inRangeFunc (l : Nat) (v : Value) : (b.at a (.inRangeFunc l :: k)).finish v = b.at a (.endRangeFunc l :: k) := by
  simp [Frame.finish, Frame.at]
theorem step_endRangeFunc {l : Nat} (h : (Instr.endLoop l).run P w = .ok none w') :
    step P (lone (b.at a (.endRangeFunc l :: k)) cs w) = .next (lone (b.at a k) cs w') :=
  step_lone_go (by simp [stepG, stepG.exec, Frame.at, Sem.runT_eq, h, GStep.bare_after])
theorem step_rangeFunc {g : Operand} {ps : Array Tmp} {assign body : Code} {l : Nat} {mark : List Deferred} {w₁ w₁' w₂ : World} {d : Deferred} {f : FuncId} {args : Array Value}
    (he : (Instr.enterLoop b.fn a.tmps ps assign body none).run P w = .ok (l, mark) w₁)
    (hres : (resolve a.eval (rangeCall g l) 0).run P w₁ = .ok d w₁') (hinv : (invoke d.target d.args).run P w₁' = .ok (.enter f args) w₂) :
    step P (lone (b.at a (.code (.rangeFunc g ps assign body) :: k)) cs w) =
      .next (lone (Frame.enter P f args .normal) (b.at { a with defers := mark ++ a.defers } (.inRangeFunc l :: k) :: cs) w₂) :=
  step_lone_go (by
    have hev := Frame.eval_at' b { a with defers := mark ++ a.defers } (.inRangeFunc l :: k)
    simp only [Frame.at] at hev
    have hres' : Sem.run P (resolve ({ tmps := a.tmps, defers := mark ++ a.defers } : Act).eval { callee := .value g, args := #[.const (.func (.yield l) #[] #[])], argTypes := #[] } 0) w₁ = .ok d w₁' := hres
    simp [stepG, stepG.exec, Frame.at, Sem.runT_eq, he, GStep.bare_after, stepG.apply, hev, Sem.run_bind, hres', hinv, Result.andThen])
end steps

/-- A loop over a function that calls for no round. -/
theorem wp_rangeFunc {g : Operand} {ps : Array Tmp} {assign body : Code} {Q : Exit → Act → World → Prop} {a : Act} {gf : FuncId} {lb : Array Value} (hg : a.eval g = .func (.func gf) #[] lb) (hen : enters P gf = true)
    (h : ∀ fn, Calls P gf (#[.func (.yield (w.heap.size + 1)) #[] #[]] ++ lb) ((w.alloc (.deferred (some []))).alloc (.loop { state := .ready, pending := none, fn, tmps := a.tmps, params := ps, assign, body, defers := w.heap.size }))
      fun e w3 => ∃ v w4, e = .returned v ∧ (Instr.endLoop (w.heap.size + 1)).run P w3 = .ok none w4 ∧ Q .normal { a with defers := { target := .collected w.heap.size, args := #[] } :: a.defers } w4) :
    (Code.rangeFunc g ps assign body).wp P Q a w := by
  intro b k cs
  have hres : (resolve a.eval (rangeCall g (w.heap.size + 1)) 0).run P ((w.alloc (.deferred (some []))).alloc (.loop { state := .ready, pending := none, fn := b.fn, tmps := a.tmps, params := ps, assign, body, defers := w.heap.size })) =
      .ok ({ target := .fn (.func gf) lb, args := #[.func (.yield (w.heap.size + 1)) #[] #[]] } : Deferred) ((w.alloc (.deferred (some []))).alloc (.loop { state := .ready, pending := none, fn := b.fn, tmps := a.tmps, params := ps, assign, body, defers := w.heap.size })) := by
    simp [resolve, rangeCall, hg, Deferred.ofValue, show a.eval (.const (.func (.yield (w.heap.size + 1)) #[] #[])) = .func (.yield (w.heap.size + 1)) #[] #[] from rfl]
  have hinv : ∀ w, (invoke (.fn (.func gf) lb) #[.func (.yield (w.heap.size + 1)) #[] #[]]).run P w = .ok (.enter gf (#[.func (.yield (w.heap.size + 1)) #[] #[]] ++ lb)) w := fun w => by
    have := run_enters (P := P) (w := w) (#[.func (.yield (w.heap.size + 1)) #[] #[]] ++ lb) hen
    rw [← this]
    simp [invoke]
  obtain ⟨e, w3, fr, hR, hsteps, hfn, hleave⟩ := h b.fn (b.at { a with defers := [{ target := .collected w.heap.size, args := #[] }] ++ a.defers } (.inRangeFunc (w.heap.size + 1) :: k) :: cs)
  obtain ⟨v, w4, rfl, hend, hq⟩ := hR
  have hin := step_rangeFunc (P := P) (b := b) (a := a) (k := k) (cs := cs) (w := w) (run_enterLoop_outer b.fn a.tmps ps assign body) hres (by
    have := run_enters (P := P) (w := (w.alloc (.deferred (some []))).alloc (.loop { state := .ready, pending := none, fn := b.fn, tmps := a.tmps, params := ps, assign, body, defers := w.heap.size })) (#[.func (.yield (w.heap.size + 1)) #[] #[]] ++ lb) hen
    rw [← this]
    simp [invoke])
  refine ⟨.normal, _, w4, hq, .head hin (Steps.trans hsteps (.head ?_ (.one (step_endRangeFunc hend))))⟩
  rw [step_leave_returned hleave, finish_at_inRangeFunc]
  rfl

theorem results_ok {tm : Tr AV} {tmps : Array Value} {rs : List ResultVar} {vs : List AV} (hf : FR E σ tm tmps) (h : HR E base σ s w) (he : resultsA P tm s rs = some vs) :
    ∃ us, (rs.mapM fun | ResultVar.tmp t => (pure (tmps.getD t undef) : Sem Value) | .cell a t => do loadVar t (← asAddr (tmps.getD a undef))).run P w = .ok us w ∧ VRs E σ vs us := by
  induction rs generalizing vs with
  | nil => simp only [resultsA, Option.some.injEq] at he; subst he; exact ⟨[], by simp, rfl⟩
  | cons r rs ih =>
    cases r with
    | tmp t =>
      simp only [resultsA] at he
      split at he
      · rename_i v vs' h1 h2
        simp only [Option.some.injEq] at he
        subst he
        obtain ⟨us, h3, h4⟩ := ih h2
        obtain ⟨u, h5, h6⟩ := hf.get t v h1
        have h7 : tmps.getD t undef = u := by rw [Array.getD_eq_getD_getElem?, h5]; rfl
        refine ⟨u :: us, ?_, ⟨u, us, rfl, h6, h4⟩⟩
        rw [List.mapM_cons]
        simp only [Sem.run_bind, Sem.run_pure, Result.andThen_ok, h7]
        rw [h3]
        simp
      · cases he
    | cell t ty =>
      simp only [resultsA] at he
      split at he
      · rename_i p h1
        split at he
        · rename_i v vs' h2 h3
          simp only [Option.some.injEq] at he
          subst he
          obtain ⟨us, h4, h5⟩ := ih h3
          obtain ⟨u, h6, h7⟩ := hf.get t p h1
          have h8 : tmps.getD t undef = u := by rw [Array.getD_eq_getD_getElem?, h6]; rfl
          obtain ⟨ad, x, h9, h10, h11⟩ := run_loadVarA (P := P) h h7 h2
          refine ⟨x :: us, ?_, ⟨x, us, rfl, h11, h5⟩⟩
          rw [List.mapM_cons]
          have h12 : (asAddr (.pointer (some ad))).run P w = .ok ad w := by simp [asAddr]
          simp only [Sem.run_bind, Sem.run_pure, Result.andThen_ok, h8, h9]
          rw [h12]
          simp only [Result.andThen_ok]
          rw [h10]
          simp only [Result.andThen_ok]
          rw [h4]
          simp
        · cases he
      · cases he

theorem VR_oneOf {vs : List AV} {us : List Value} (h : VRs E σ vs us) : VR E σ (oneOf vs) (if h : (List.toArray us).size = 1 then (List.toArray us)[0] else .tuple (List.toArray us)) := by
  cases vs with
  | nil => rw [show us = [] from h]; exact ⟨[], rfl, rfl⟩
  | cons v vs =>
    obtain ⟨x, xs, rfl, h1, h2⟩ := h
    cases vs with
    | nil => rw [show xs = [] from h2]; exact h1
    | cons v' vs' =>
      obtain ⟨y, ys, rfl, h3, h4⟩ := h2
      rw [dif_neg (by simp)]
      exact ⟨_, rfl, ⟨x, _, rfl, h1, ⟨y, ys, rfl, h3, h4⟩⟩⟩

theorem run_results {fn : Func} {tm : Tr AV} {tmps : Array Value} {vs : List AV} (hf : FR E σ tm tmps) (h : HR E base σ s w) (he : resultsA P tm s fn.results.toList = some vs) : ∃ v, (results fn tmps).run P w = .ok v w ∧ VR E σ (oneOf vs) v := by
  obtain ⟨us, h1, h2⟩ := results_ok hf h he
  refine ⟨_, ?_, VR_oneOf h2⟩
  unfold results
  rw [Array.mapM_eq_mapM_toList]
  simp only [map_eq_pure_bind, Sem.run_bind]
  erw [h1]
  simp only [Result.andThen_ok, Sem.run_pure]

theorem argsT_get {x : AV} : ∀ {vs : List AV} {i : Nat} {t : Tr AV} {k : Nat}, (argsT i vs t).get k = some x → (i ≤ k ∧ vs[k - i]? = some x) ∨ t.get k = some x
  | [], _, _, _, h => .inr h
  | v :: r, i, t, k, h => by
    rcases argsT_get (vs := r) h with ⟨h1, h2⟩ | h1
    · refine .inl ⟨by omega, ?_⟩
      rw [show k - i = (k - (i + 1)) + 1 by omega]
      simpa using h2
    · rcases Tr.get_set h1 with ⟨rfl, rfl⟩ | ⟨_, h2⟩
      · exact .inl ⟨Nat.le_refl _, by simp⟩
      · exact .inr h2
theorem argsT_ok {vs : List AV} {us : List Value} (h : VRs E σ vs us) (ws : Array Value) : FR E σ (argsT 0 vs .leaf) (List.toArray us ++ ws) := by
  refine ⟨fun t x ht => ?_⟩
  rcases argsT_get ht with ⟨_, h1⟩ | h1
  · obtain ⟨v, h2, h3⟩ := h.get h1
    refine ⟨v, ?_, h3⟩
    have hlt := (List.getElem?_eq_some_iff.1 h2).1
    rw [Nat.sub_zero] at h2 hlt
    rw [Array.getElem?_append_left (by simpa using hlt)]
    simpa using h2
  · simp [Tr.get_leaf] at h1
end
end Go.Proofs.YtjaaajmiojigbaaGreatDoor
