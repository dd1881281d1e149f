/- The evaluator is sound: what it says of a call is what the machine does. -/
import Derived.Test.YtjaaajmiojigbaaGreatDoorCtl
namespace Go.Proofs.YtjaaajmiojigbaaGreatDoor
open Go Go.RowKit
variable {E : Env} {X : Ctx}

def CodeS (E : Env) (X : Ctx) (P : Program) (n : Nat) (c : Code) (nt : Nat) (tm : Tr AV) (s : St) (x : AX) (tm' : Tr AV) (s' : St) : Prop :=
  ∀ base lo ρ a w, At E X P base lo ρ nt tm s a w → WpS P n c (Post E X P base lo ρ nt s w x tm' s') a w
/-- Pieces of code: with each, what it is made of. -/
structure Closed (C : Code → Prop) : Prop where
  seq : ∀ {a b}, C (.seq a b) → C a ∧ C b
  cond : ∀ {x a b}, C (.cond x a b) → C a ∧ C b
  block : ∀ {id b}, C (.block id b) → C b
  loop : ∀ {b}, C (.loop b) → C b
  scope : ∀ {b}, C (.scope b) → C b
theorem Closed.all : Closed (fun _ => True) := ⟨fun _ => ⟨True.intro, True.intro⟩, fun _ => ⟨True.intro, True.intro⟩, fun _ => True.intro, fun _ => True.intro, fun _ => True.intro⟩
/-- What the evaluator is told is true. -/
structure LibOk (E : Env) (X : Ctx) (P : Program) (C : Code → Prop) (lib : Lib) : Prop where
  call : ∀ f args s v s', lib.call f args s = some (v, s') → CallS E P f args s v s'
  blk : ∀ id body n nt tm s x tm' s', C (.block id body) → lib.blk id nt tm s = some (x, tm', s') → CodeS E X P n (.block id body) nt tm s x tm' s'
  inl : lib.inl = true → ∀ c, C c
def CodeOk (E : Env) (X : Ctx) (P : Program) (C : Code → Prop) (n : Nat) (self : Req → Option Resp) : Prop := ∀ c nt tm s x tm' s', C c → self (.code c nt tm s) = some (.code x tm' s') → CodeS E X P n c nt tm s x tm' s'

section
variable {P : Program} {lib : Lib} {C : Code → Prop} {n : Nat} {self : Req → Option Resp}

theorem At.post {base lo nt : Nat} {ρ : Mp} {tm : Tr AV} {s : St} {a : Act} {w : World} (h : At E X P base lo ρ nt tm s a w) (x : AX) : Post E X P base lo ρ nt s w x tm s x.out a w := ⟨rfl, ρ, h, Turn.refl h.hr⟩

theorem seq_post {base lo nt : Nat} {ρ : Mp} {s s1 s' : St} {w : World} {x : AX} {tm1 tm' : Tr AV} {K : Act → World → Prop} {Q : Exit → Act → World → Prop}
    (hn : ∀ σ a' w', At E X P base lo σ nt tm1 s1 a' w' → Turn ρ s w σ s1 w' → K a' w') (e : Exit) (a' : Act) (w' : World) (h : Post E X P base lo ρ nt s w .normal tm1 s1 e a' w') : Exit.then K Q e a' w' := by
  obtain ⟨rfl, σ, h1, h2⟩ := h
  exact hn σ a' w' h1 h2
theorem through_post {base lo nt : Nat} {ρ : Mp} {s s' : St} {w : World} {x : AX} {tm' : Tr AV} {K : Act → World → Prop} (hx : x ≠ .normal) (e : Exit) (a' : Act) (w' : World) (h : Post E X P base lo ρ nt s w x tm' s' e a' w') : Exit.then K (Post E X P base lo ρ nt s w x tm' s') e a' w' := by
  have h0 := h
  obtain ⟨rfl, σ, h1, h2⟩ := h
  cases x with
  | normal => exact absurd rfl hx
  | exit i => exact h0
  | ret => exact h0

theorem code_step (hm : P.follows .mixedOrders = true) (hC : Closed C) (hl : LibOk E X P C lib) (hs : SelfOk E P self) (hc : CodeOk E X P C n self) {c : Code} {nt : Nat} {tm : Tr AV} {s : St} {x : AX} {tm' : Tr AV} {s' : St}
    (hcc : C c) (h : stepA X P lib self (.code c nt tm s) = some (.code x tm' s')) : CodeS E X P (n + 1) c nt tm s x tm' s' := by
  intro base lo ρ a w ha
  cases c with
  | skip =>
    simp only [stepA, Option.some.injEq, Resp.code.injEq] at h
    obtain ⟨rfl, rfl, rfl⟩ := h
    exact wp_skip (ha.post .normal)
  | label l =>
    simp only [stepA, Option.some.injEq, Resp.code.injEq] at h
    obtain ⟨rfl, rfl, rfl⟩ := h
    exact wp_label (ha.post .normal)
  | exit id =>
    simp only [stepA, Option.some.injEq, Resp.code.injEq] at h
    obtain ⟨rfl, rfl, rfl⟩ := h
    exact wp_exit (ha.post (.exit id))
  | ret =>
    simp only [stepA, Option.some.injEq, Resp.code.injEq] at h
    obtain ⟨rfl, rfl, rfl⟩ := h
    exact wp_ret (ha.post .ret)
  | region id ops draw =>
    cases draw with
    | false =>
      simp only [stepA] at h
      split at h
      · rename_i tm1 s1 h1
        simp only [Option.some.injEq, Resp.code.injEq] at h
        obtain ⟨rfl, rfl, rfl⟩ := h
        refine wp_region ?_
        have := runOps_ok (base := base) (lo := lo) (nt := nt) (tm' := tm1) (s' := s1) (ops := ops) (Q := Post E X P base lo ρ nt s w .normal tm1 s1) hs ops.toList 0 tm s ρ a w (by simp) ha h1 (fun σ a' w' h2 h3 => ⟨rfl, σ, h2, h3⟩)
        rw [List.range_eq_range']
        simpa using this
      · cases h
    | true =>
      simp only [stepA] at h
      split at h
      · rename_i tm1 s1 h1
        simp only [Option.some.injEq, Resp.code.injEq] at h
        obtain ⟨rfl, rfl, rfl⟩ := h
        exact drawA_ok hs hm ha h1 fun σ a' w' h2 h3 => ⟨rfl, σ, h2, h3⟩
      · cases h
  | seq x1 x2 =>
    simp only [stepA] at h
    split at h
    · rename_i tm1 s1 h1
      refine wp_seq (wp_mono (hc _ _ _ _ _ _ _ (hC.seq hcc).1 h1 base lo ρ a w ha).wp (seq_post (x := x) (s' := s') (tm' := tm') fun σ a' w' h2 h3 => ?_))
      exact wp_mono (hc _ _ _ _ _ _ _ (hC.seq hcc).2 h base lo σ a' w' h2).wp fun e a'' w'' h4 => h4.trans h3
    · rename_i x1' tm1 s1 hne h1
      simp only [Option.some.injEq, Resp.code.injEq] at h
      obtain ⟨rfl, rfl, rfl⟩ := h
      exact wp_seq (wp_mono (hc _ _ _ _ _ _ _ (hC.seq hcc).1 h1 base lo ρ a w ha).wp (through_post fun e => hne e))
    · cases h
  | cond b x1 x2 =>
    simp only [stepA] at h
    split at h
    · rename_i h1
      exact wp_cond_true (nrmC_ok ha.fr ha.glob h1) (hc _ _ _ _ _ _ _ (hC.cond hcc).1 h base lo ρ a w ha).wp
    · rename_i h1
      exact wp_cond_false (nrmC_ok ha.fr ha.glob h1) (hc _ _ _ _ _ _ _ (hC.cond hcc).2 h base lo ρ a w ha).wp
    · cases h
  | block id body =>
    simp only [stepA] at h
    split at h
    · rename_i x1 tm1 s1 h1
      simp only [Option.some.injEq, Resp.code.injEq] at h
      obtain ⟨rfl, rfl, rfl⟩ := h
      exact hl.blk id body _ nt tm s _ _ _ hcc h1 base lo ρ a w ha
    split at h
    · rename_i j tm1 s1 h1
      split at h
      · rename_i hj
        simp only [Option.some.injEq, Resp.code.injEq] at h
        obtain ⟨rfl, rfl, rfl⟩ := h
        refine wp_block (wp_mono (hc _ _ _ _ _ _ _ (hC.block hcc) h1 base lo ρ a w ha).wp ?_)
        rintro e a' w' ⟨rfl, σ, h2, h3⟩
        simp only [AX.out, Exit.inBlock, hj, if_true]
        exact ⟨rfl, σ, h2, h3⟩
      · rename_i hj
        simp only [Option.some.injEq, Resp.code.injEq] at h
        obtain ⟨rfl, rfl, rfl⟩ := h
        refine wp_block (wp_mono (hc _ _ _ _ _ _ _ (hC.block hcc) h1 base lo ρ a w ha).wp ?_)
        rintro e a' w' ⟨rfl, σ, h2, h3⟩
        simp only [AX.out, Exit.inBlock, hj, if_false]
        exact ⟨rfl, σ, h2, h3⟩
    · rename_i x1' tm1 s1 hne h1
      simp only [Option.some.injEq, Resp.code.injEq] at h
      obtain ⟨rfl, rfl, rfl⟩ := h
      refine wp_block (wp_mono (hc _ _ _ _ _ _ _ (hC.block hcc) h1 base lo ρ a w ha).wp ?_)
      rintro e a' w' ⟨rfl, σ, h2, h3⟩
      cases x1' with
      | normal => exact ⟨rfl, σ, h2, h3⟩
      | exit i => exact (hne i rfl).elim
      | ret => exact ⟨rfl, σ, h2, h3⟩
    · cases h
  | loop body =>
    simp only [stepA] at h
    show Code.rounds P body (Post E X P base lo ρ nt s w x tm' s') (n + 1) a w
    rw [rounds_succ]
    split at h
    · rename_i tm1 s1 h1
      refine wp_mono (hc _ _ _ _ _ _ _ (hC.loop hcc) h1 base lo ρ a w ha).wp (seq_post (x := x) (s' := s') (tm' := tm') fun σ a' w' h2 h3 => ?_)
      exact rounds_mono (fun e a'' w'' h4 => h4.trans h3) (hc _ _ _ _ _ _ _ hcc h base lo σ a' w' h2)
    · rename_i x1' tm1 s1 hne h1
      simp only [Option.some.injEq, Resp.code.injEq] at h
      obtain ⟨rfl, rfl, rfl⟩ := h
      exact wp_mono (hc _ _ _ _ _ _ _ (hC.loop hcc) h1 base lo ρ a w ha).wp (through_post fun e => hne e)
    · cases h
  | scope body =>
    simp only [stepA] at h
    refine wp_scope_straight (wp_mono (hc _ _ _ _ _ _ _ (hC.scope hcc) h base lo ρ a w ha).wp ?_)
    intro e a' w' h2
    have h0 := h2
    obtain ⟨rfl, _⟩ := h2
    cases x <;> exact h0
  | rangeFunc g ps assign body =>
    simp only [stepA] at h
    split at h
    · rename_i gf cap h1
      split at h
      · rename_i hen
        split at h
        · rename_i v s1 h2
          simp only [Option.some.injEq, Resp.code.injEq] at h
          obtain ⟨rfl, rfl, rfl⟩ := h
          obtain ⟨xs, ys, h3, h4, h5⟩ := rd_ok ha.fr ha.glob h1
          rw [show xs = [] from h4] at h3
          refine wp_rangeFunc (lb := List.toArray ys) h3 hen fun fn => ?_
          have hheap : ∀ g, g < w.heap.size → ((w.alloc (.deferred (some []))).alloc (.loop { state := .ready, pending := none, fn, tmps := a.tmps, params := ps, assign, body, defers := w.heap.size })).heap[g]? = w.heap[g]? := fun g hg => by
            rw [Below.heap_alloc _ _ _ (by simp; omega), Below.heap_alloc _ _ _ hg]
          have hD : ((w.alloc (.deferred (some []))).alloc (.loop { state := .ready, pending := none, fn, tmps := a.tmps, params := ps, assign, body, defers := w.heap.size })).heap[w.heap.size]? = some (.deferred (some [])) := by
            rw [Below.heap_alloc _ _ _ (by simp)]
            exact World.alloc_heap_new _ _
          have hLp : ((w.alloc (.deferred (some []))).alloc (.loop { state := .ready, pending := none, fn, tmps := a.tmps, params := ps, assign, body, defers := w.heap.size })).heap[w.heap.size + 1]? = some (.loop { state := .ready, pending := none, fn, tmps := a.tmps, params := ps, assign, body, defers := w.heap.size }) := by
            have := World.alloc_heap_new (w.alloc (.deferred (some []))) (.loop { state := .ready, pending := none, fn, tmps := a.tmps, params := ps, assign, body, defers := w.heap.size })
            simpa using this
          have hsz : ((w.alloc (.deferred (some []))).alloc (.loop { state := .ready, pending := none, fn, tmps := a.tmps, params := ps, assign, body, defers := w.heap.size })).heap.size = w.heap.size + 2 := by simp
          have hal : Alike w ((w.alloc (.deferred (some []))).alloc (.loop { state := .ready, pending := none, fn, tmps := a.tmps, params := ps, assign, body, defers := w.heap.size })) := ⟨rfl, rfl, rfl⟩
          generalize (w.alloc (.deferred (some []))).alloc (.loop { state := .ready, pending := none, fn, tmps := a.tmps, params := ps, assign, body, defers := w.heap.size }) = w1 at *
          have hr1 : HR E base ρ s w1 := ha.hr.off (by omega) (fun b o l hb hl => hheap _ (ha.hr.loc_lt hb hl)) fun g o hg => hheap g (ha.hr.fz_lt hg)
          have hcall := hs gf (.yieldF :: cap) s v s1 h2 base ρ w1 (.func (.yield (w.heap.size + 1)) #[] #[] :: ys) ha.glob.base hr1 ⟨_, ys, rfl, ⟨_, rfl⟩, h5⟩
          have harr : (List.toArray (Value.func (.yield (w.heap.size + 1)) #[] #[] :: ys)) = #[.func (.yield (w.heap.size + 1)) #[] #[]] ++ List.toArray ys := by simp
          rw [harr] at hcall
          refine Calls.mono hcall ?_
          rintro e w3 ⟨u, σ, rfl, h6, h7, h8⟩
          have hfar : ∀ b o l, s1.H.get b = some o → σ b = some l → l.g < w.heap.size ∨ w.heap.size + 2 ≤ l.g := fun b o l hb hl => by
            rcases h8.from_ b o l hb hl with h9 | ⟨b0, o0, l0, h9, h10, h11, _⟩
            · exact .inr (by omega)
            · have := ha.hr.loc_lt h9 h10; exact .inl (by omega)
          have hfzfar : ∀ g o, σ.fz g = some o → g < w.heap.size ∨ w.heap.size + 2 ≤ g := fun g o hg => by
            rcases h8.fzs g o hg with h9 | h9 | ⟨b0, o0, l0, h9, _, h10, h11⟩
            · exact .inl (ha.hr.fz_lt h9)
            · exact .inr (by omega)
            · have := ha.hr.loc_lt h9 h10; exact .inl (by omega)
          have hkeep : ∀ g, w.heap.size ≤ g → g < w.heap.size + 2 → w3.heap[g]? = w1.heap[g]? := fun g h9 h10 => h8.block g (by omega) fun b o l hb _ hl e => by
            have := ha.hr.loc_lt hb hl; omega
          have hl3 : w3.heap[w.heap.size + 1]? = _ := (hkeep _ (by omega) (by omega)).trans hLp
          have hsz3 := h8.size
          have hother : ∀ (ob : Obj) k, k ≠ w.heap.size + 1 → (w3.putObj (w.heap.size + 1) ob).heap[k]? = w3.heap[k]? := fun ob k hk => World.putObj_heap_other hk
          refine ⟨u, _, rfl, run_endLoop hl3 (by simp), ?_⟩
          have h7' : HR E base σ s1 (w3.putObj (w.heap.size + 1) (.loop { state := .exhausted, pending := none, fn, tmps := a.tmps, params := ps, assign, body, defers := w.heap.size })) := h7.off (by simp) (fun b o l hb hl => hother _ _ (by have := hfar b o l hb hl; omega)) fun g o hg => hother _ _ (by have := hfzfar g o hg; omega)
          have ht : Turn ρ s w σ s1 w3 := ⟨h8.ext, h8.nx, h8.os.trans hal.os, h8.tape.trans hal.tape, h8.output.trans hal.output, by omega, fun g hg hn => (h8.block g (by omega) hn).trans (hheap g hg), fun b o l hb hl => by
            rcases h8.from_ b o l hb hl with h9 | h9
            · exact .inl (by omega)
            · exact .inr h9, h8.old, fun g o hg => by
            rcases h8.fzs g o hg with h9 | h9 | h9
            · exact .inl h9
            · exact .inr (.inl (by omega))
            · exact .inr (.inr h9)⟩
          have ht' : Turn ρ s w σ s1 (w3.putObj (w.heap.size + 1) (.loop { state := .exhausted, pending := none, fn, tmps := a.tmps, params := ps, assign, body, defers := w.heap.size })) := ht.off ⟨rfl, rfl, rfl⟩ (by simp) fun g hg => hother _ g (by omega)
          refine ⟨rfl, σ, ⟨ha.glob.mono ht'.ext, h7', ha.fr.mono ht'.ext, ha.size, ?_, ha.low.1, Nat.le_trans ha.low.2 ht'.size⟩, ht'⟩
          have hmk := ha.marks.turn ht'
          refine ⟨fun d hd => ?_, List.pairwise_cons.2 ⟨fun d hd D hD => ?_, hmk.apart⟩⟩
          · rcases List.mem_cons.1 hd with rfl | hd
            · exact ⟨_, rfl, ha.low.2, (hother _ _ (by omega)).trans ((hkeep _ (Nat.le_refl _) (by omega)).trans hD), (by cases hf : σ.fz w.heap.size with | none => rfl | some o => have := hfzfar _ _ hf; omega), fun b o l hb hl => by have := hfar b o l hb hl; omega⟩
            · exact hmk.one d hd
          · obtain ⟨D', rfl, _, h9, _⟩ := ha.marks.one d hd
            have := (Array.getElem?_eq_some_iff.1 h9).1
            intro e
            injection e with e
            injection hD with hD
            omega
        · cases h
      · cases h
    · cases h
  | goto l => simp [stepA] at h
  | refuse why => simp [stepA] at h

theorem call_step (hx : XOk E X) (hl : LibOk E X P C lib) (hc : CodeOk E X P C n self) {f : FuncId} {args : List AV} {s : St} {v : AV} {s' : St} (h : stepA X P lib self (.call f args s) = some (.call v s')) : CallS E P f args s v s' := by
  simp only [stepA] at h
  split at h
  · rename_i v1 s1 h1
    simp only [Option.some.injEq, Resp.call.injEq] at h
    obtain ⟨rfl, rfl⟩ := h
    exact hl.call f args s _ _ h1
  · split at h
    rotate_left
    · cases h
    rename_i hinl
    split at h
    · cases h
    · rename_i fn hfn
      split at h
      · cases h
      · rename_i c hbody
        split at h
        · rename_i hlen
          intro base ρ w us hg hr hv
          have hus := hv.length
          have hAt : At E X P base w.heap.size ρ fn.ntmps (argsT 0 args .leaf) s { tmps := List.toArray us ++ Array.replicate (fn.ntmps - (List.toArray us).size) undef, defers := [] } w :=
            ⟨⟨hg, hx⟩, hr, argsT_ok hv _, by simp; omega, Mk.nil, hr.base, Nat.le_refl _⟩
          have key : ∀ x tm1 s1 vs, (x = AX.normal ∨ x = AX.ret) → self (.code c fn.ntmps (argsT 0 args .leaf) s) = some (.code x tm1 s1) → resultsA P tm1 s1 fn.results.toList = some vs →
              Calls P f (List.toArray us) w (fun e w' => ∃ u σ, e = .returned u ∧ VR E σ (oneOf vs) u ∧ HR E base σ s1 w' ∧ Turn ρ s w σ s1 w') := fun x tm1 s1 vs hx h1 h2 => by
            refine calls_of_wp_marks hfn hbody (wp_mono (hc _ _ _ _ _ _ _ (hl.inl hinl c) h1 base w.heap.size ρ _ w hAt).wp ?_)
            rintro e a' w' ⟨rfl, σ, h3, h4⟩
            obtain ⟨w2, h5, h6, h7, h8, h9⟩ := marks_run h3.marks h3.low.1 h3.hr
            obtain ⟨u, h10, h11⟩ := run_results h3.fr h6 h2
            have hfin : ∃ w', Taken P a'.defers _ w' ∧ ∃ v, (results fn a'.tmps).run P w' = .ok v w' ∧ ∃ u σ, Ending.returned v = .returned u ∧ VR E σ (oneOf vs) u ∧ HR E base σ s1 w' ∧ Turn ρ s w σ s1 w' :=
              ⟨w2, h5, u, h10, u, σ, rfl, h11, h6, h4.off h7 (by omega) fun g hg => h9 g hg⟩
            rcases hx with rfl | rfl <;> exact hfin
          split at h
          · rename_i tm1 s1 h1
            split at h
            · rename_i vs h2
              simp only [Option.some.injEq, Resp.call.injEq] at h
              obtain ⟨rfl, rfl⟩ := h
              exact key _ _ _ _ (.inl rfl) h1 h2
            · cases h
          · rename_i tm1 s1 h1
            split at h
            · rename_i vs h2
              simp only [Option.some.injEq, Resp.call.injEq] at h
              obtain ⟨rfl, rfl⟩ := h
              exact key _ _ _ _ (.inr rfl) h1 h2
            · cases h
          · cases h
        · cases h

theorem body_step (hx : XOk E X) (hc : CodeOk E X P C n self) {f : FuncId} (hcc : ∀ fn c, P.funcs[f]? = some fn → fn.body = some c → C c) {args : List AV} {s : St} {v : AV} {s' : St} (h : bodyK X P self f args s = some (.call v s')) : CallS E P f args s v s' := by
  unfold bodyK at h
  split at h
  · cases h
  · rename_i fn hfn
    split at h
    · cases h
    · rename_i c hbody
      split at h
      · rename_i hlen
        intro base ρ w us hg hr hv
        have hus := hv.length
        have hAt : At E X P base w.heap.size ρ fn.ntmps (argsT 0 args .leaf) s { tmps := List.toArray us ++ Array.replicate (fn.ntmps - (List.toArray us).size) undef, defers := [] } w :=
          ⟨⟨hg, hx⟩, hr, argsT_ok hv _, by simp; omega, Mk.nil, hr.base, Nat.le_refl _⟩
        have key : ∀ x tm1 s1 vs, (x = AX.normal ∨ x = AX.ret) → self (.code c fn.ntmps (argsT 0 args .leaf) s) = some (.code x tm1 s1) → resultsA P tm1 s1 fn.results.toList = some vs →
            Calls P f (List.toArray us) w (fun e w' => ∃ u σ, e = .returned u ∧ VR E σ (oneOf vs) u ∧ HR E base σ s1 w' ∧ Turn ρ s w σ s1 w') := fun x tm1 s1 vs hx h1 h2 => by
          refine calls_of_wp_marks hfn hbody (wp_mono (hc _ _ _ _ _ _ _ (hcc fn c hfn hbody) h1 base w.heap.size ρ _ w hAt).wp ?_)
          rintro e a' w' ⟨rfl, σ, h3, h4⟩
          obtain ⟨w2, h5, h6, h7, h8, h9⟩ := marks_run h3.marks h3.low.1 h3.hr
          obtain ⟨u, h10, h11⟩ := run_results h3.fr h6 h2
          have hfin : ∃ w', Taken P a'.defers _ w' ∧ ∃ v, (results fn a'.tmps).run P w' = .ok v w' ∧ ∃ u σ, Ending.returned v = .returned u ∧ VR E σ (oneOf vs) u ∧ HR E base σ s1 w' ∧ Turn ρ s w σ s1 w' :=
            ⟨w2, h5, u, h10, u, σ, rfl, h11, h6, h4.off h7 (by omega) fun g hg => h9 g hg⟩
          rcases hx with rfl | rfl <;> exact hfin
        split at h
        · rename_i tm1 s1 h1
          split at h
          · rename_i vs h2
            simp only [Option.some.injEq, Resp.call.injEq] at h
            obtain ⟨rfl, rfl⟩ := h
            exact key _ _ _ _ (.inl rfl) h1 h2
          · cases h
        · rename_i tm1 s1 h1
          split at h
          · rename_i vs h2
            simp only [Option.some.injEq, Resp.call.injEq] at h
            obtain ⟨rfl, rfl⟩ := h
            exact key _ _ _ _ (.inr rfl) h1 h2
          · cases h
        · cases h
      · cases h

theorem evA_sound (hm : P.follows .mixedOrders = true) (hx : XOk E X) (hC : Closed C) (hl : LibOk E X P C lib) : ∀ n, CodeOk E X P C n (evA X P lib n) ∧ SelfOk E P (evA X P lib n)
  | 0 => ⟨fun _ _ _ _ _ _ _ _ h => (by rw [evA_zero] at h; cases h), fun _ _ _ _ _ h => (by rw [evA_zero] at h; cases h)⟩
  | n + 1 => by
    obtain ⟨h1, h2⟩ := evA_sound hm hx hC hl n
    exact ⟨fun c nt tm s x tm' s' hcc h => code_step hm hC hl h2 h1 hcc (by rw [evA_succ] at h; exact h), fun f args s v s' h => call_step hx hl h1 (by rw [evA_succ] at h; exact h)⟩

theorem evA_call (hm : P.follows .mixedOrders = true) (hx : XOk E X) (hC : Closed C) (hl : LibOk E X P C lib) {f : FuncId} {args : List AV} {s : St} {v : AV} {s' : St} (h : evA X P lib n (.call f args s) = some (.call v s')) : CallS E P f args s v s' := (evA_sound hm hx hC hl n).2 f args s v s' h
theorem evA_body (hm : P.follows .mixedOrders = true) (hx : XOk E X) (hC : Closed C) (hl : LibOk E X P C lib) {f : FuncId} (hcc : ∀ fn c, P.funcs[f]? = some fn → fn.body = some c → C c) {args : List AV} {s : St} {v : AV} {s' : St} (h : bodyK X P (evA X P lib n) f args s = some (.call v s')) : CallS E P f args s v s' := body_step hx (evA_sound hm hx hC hl n).1 hcc h
theorem evA_code (hm : P.follows .mixedOrders = true) (hx : XOk E X) (hC : Closed C) (hl : LibOk E X P C lib) {c : Code} (hcc : C c) {nt : Nat} {tm tm' : Tr AV} {s s' : St} {x : AX} (h : evA X P lib n (.code c nt tm s) = some (.code x tm' s')) : CodeS E X P n c nt tm s x tm' s' := (evA_sound hm hx hC hl n).1 c nt tm s x tm' s' hcc h
end
#print axioms evA_call
end Go.Proofs.YtjaaajmiojigbaaGreatDoor
