/- What the evaluator says of a call is what the machine does: what is claimed, operations with their calls, regions in text order. -/
import Derived.Test.YtjaaajmiojigbaaGreatDoorOpF
import Derived.Test.YtjaaajmiojigbaaGreatDoorSyEnd
import Derived.Test.YtjaaajmiojigbaaGreatDoorFrame
import Derived.LoopN
import Derived.Scope
import Derived.Orders
namespace Go.Proofs.YtjaaajmiojigbaaGreatDoor
open Go Go.RowKit
variable {E : Env} {X : Ctx}

/-- What is claimed of a call. -/
def CallS (E : Env) (P : Program) (f : FuncId) (args : List AV) (s : St) (v : AV) (s' : St) : Prop :=
  ∀ base ρ w us, Glob0 E P ρ → HR E base ρ s w → VRs E ρ args us → Calls P f (List.toArray us) w (fun e w' => ∃ u σ, e = .returned u ∧ VR E σ v u ∧ HR E base σ s' w' ∧ Turn ρ s w σ s' w')
def SelfOk (E : Env) (P : Program) (self : Req → Option Resp) : Prop := ∀ f args s v s', self (.call f args s) = some (.call v s') → CallS E P f args s v s'

/-- The marks that loops over functions have left among the deferred calls. -/
structure Mk (lo : Nat) (σ : Mp) (s : St) (w : World) (ds : List Deferred) : Prop where
  one : ∀ d ∈ ds, ∃ D, d = { target := .collected D, args := #[] } ∧ lo ≤ D ∧ w.heap[D]? = some (.deferred (some [])) ∧ σ.fz D = none ∧ ∀ b o l, s.H.get b = some o → σ b = some l → l.g ≠ D
  apart : ds.Pairwise fun d e => ∀ D, d.target = .collected D → e.target ≠ .collected D
theorem Mk.nil {lo : Nat} {σ : Mp} {s : St} {w : World} : Mk lo σ s w [] := ⟨fun _ h => (by cases h), .nil⟩
theorem Mk.turn {lo : Nat} {ρ σ : Mp} {s s' : St} {w w' : World} {ds : List Deferred} (h : Mk lo ρ s w ds) (t : Turn ρ s w σ s' w') : Mk lo σ s' w' ds := by
  refine ⟨fun d hd => ?_, h.apart⟩
  obtain ⟨D, h1, h2, h3, h0, h4⟩ := h.one d hd
  have hlt := (Array.getElem?_eq_some_iff.1 h3).1
  have hfz : σ.fz D = none := by
    cases hf : σ.fz D with
    | none => rfl
    | some ob =>
      rcases t.fzs D ob hf with h5 | h5 | ⟨b, o', l, h5, _, h6, h7⟩
      · rw [h0] at h5; cases h5
      · omega
      · exact (h4 b o' l h5 h6 h7).elim
  refine ⟨D, h1, h2, (t.block D hlt fun b o l hb _ hl => h4 b o l hb hl).trans h3, hfz, fun b o l hb hl e => ?_⟩
  rcases t.from_ b o l hb hl with h5 | ⟨b0, o0, l0, h5, h6, h7, _⟩
  · omega
  · exact h4 b0 o0 l0 h5 h6 (h7.trans e)

/-- A moment of a function's run; lo: how many blocks there were when the function began. -/
structure At (E : Env) (X : Ctx) (P : Program) (base lo : Nat) (ρ : Mp) (nt : Nat) (tm : Tr AV) (s : St) (a : Act) (w : World) : Prop where
  glob : Glob E X P ρ
  hr : HR E base ρ s w
  fr : FR E ρ tm a.tmps
  size : a.tmps.size = nt
  marks : Mk lo ρ s w a.defers
  low : base ≤ lo ∧ lo ≤ w.heap.size

def AX.out : AX → Exit
  | .normal => .normal
  | .exit i => .exit i
  | .ret => .ret

/-- What holds behind a piece of code. -/
def Post (E : Env) (X : Ctx) (P : Program) (base lo : Nat) (ρ : Mp) (nt : Nat) (s : St) (w : World) (x : AX) (tm' : Tr AV) (s' : St) : Exit → Act → World → Prop :=
  fun e a' w' => e = x.out ∧ ∃ σ, At E X P base lo σ nt tm' s' a' w' ∧ Turn ρ s w σ s' w'

theorem Post.trans {P : Program} {base lo : Nat} {ρ σ : Mp} {nt : Nat} {s s1 : St} {w w1 : World} {x : AX} {tm' : Tr AV} {s' : St} (t : Turn ρ s w σ s1 w1) {e : Exit} {a' : Act} {w' : World} (h : Post E X P base lo σ nt s1 w1 x tm' s' e a' w') : Post E X P base lo ρ nt s w x tm' s' e a' w' := by
  obtain ⟨h1, τ, h2, h3⟩ := h
  exact ⟨h1, τ, h2, t.trans h3⟩

def WpS (P : Program) (n : Nat) (c : Code) (Q : Exit → Act → World → Prop) (a : Act) (w : World) : Prop := match c with
  | .loop body => Code.rounds P body Q n a w
  | c => c.wp P Q a w

theorem WpS.wp {P : Program} {n : Nat} {c : Code} {Q : Exit → Act → World → Prop} {a : Act} {w : World} (h : WpS P n c Q a w) : c.wp P Q a w := by
  unfold WpS at h
  split at h
  · exact wp_loop_rounds n h
  · exact h

theorem rounds_mono {P : Program} {c : Code} {Q Q' : Exit → Act → World → Prop} (hq : ∀ e a w, Q e a w → Q' e a w) : ∀ {n : Nat} {a : Act} {w : World}, Code.rounds P c Q n a w → Code.rounds P c Q' n a w
  | 0, _, _, h => h
  | n + 1, a, w, h => by
    rw [rounds_succ] at h ⊢
    refine wp_mono h fun e a w he => ?_
    cases e <;> first | exact rounds_mono hq he | exact hq _ _ _ he

section
variable {P : Program} {self : Req → Option Resp} {base : Nat} {ρ : Mp} {s s' : St} {w : World} {tm : Tr AV} {a : Act} {o : Oper}

theorem vr_undef : VR E ρ (.tuple []) undef := ⟨[], rfl, rfl⟩

theorem opA_ok (hs : SelfOk E P self) (hf : FR E ρ tm a.tmps) (hg : Glob E X P ρ) (h : HR E base ρ s w) {v : AV} (he : opA X P self tm s o = some (v, s')) {K : Act → World → Prop} {Q : Exit → Act → World → Prop}
    (hk : ∀ u σ w', VR E σ v u → HR E base σ s' w' → Turn ρ s w σ s' w' → K (a.put o.dst u) w') : o.wp P a w K Q := by
  unfold opA at he
  unfold Oper.wp
  split at he
  · rename_i v1 s1 h1
    simp only [Option.some.injEq, Prod.mk.injEq] at he
    obtain ⟨rfl, rfl⟩ := he
    obtain ⟨u, σ, w', h2, h3, h4, h5⟩ := evX_ok hf hg h h1
    rw [h2, Oper.upon_value]
    exact hk u σ w' h3 h4 h5
  · rename_i s1 h1
    simp only [Option.some.injEq, Prod.mk.injEq] at he
    obtain ⟨rfl, rfl⟩ := he
    obtain ⟨σ, w', h2, h4, h5⟩ := evX_ok hf hg h h1
    rw [h2, Oper.upon_skip]
    exact hk _ σ w' vr_undef h4 h5
  · rename_i f args s1 h1
    obtain ⟨rfl, us, h2, h3⟩ := evX_ok hf hg h h1
    rw [h2, Oper.upon_enter]
    split at he
    · rename_i v2 s2 h4
      simp only [Option.some.injEq, Prod.mk.injEq] at he
      obtain ⟨rfl, rfl⟩ := he
      refine Calls.mono (hs f args _ _ _ h4 base ρ w us hg.base h h3) ?_
      rintro e w' ⟨u, σ, rfl, h5, h6, h7⟩
      exact hk u σ w' h5 h6 h7
    · cases he
  · cases he

theorem wantedA_ok {ops : Array Oper} (hf : FR E ρ tm a.tmps) (hx : XOk E X) {b : Bool} (h : wantedA X ops.toList tm o = some b) : Region.wanted o (yielded ops a.tmps) = b := by
  unfold wantedA at h
  unfold Region.wanted
  split at h
  · rename_i hg
    simp only [Option.some.injEq] at h
    rw [hg]
    exact h
  · rename_i j want hg
    rw [hg]
    simp only [Array.getElem?_toList] at h
    split at h
    · rename_i p hp
      split at h
      · rename_i d hd
        unfold yielded
        simp only [hp, Option.bind_some, hd]
        have key : ∀ v0, nrmC X (tm.get d) = some v0 → ∃ v, a.tmps[d]? = some v ∧ VR E ρ v0 v := fun v0 hv0 => by
          unfold nrmC at hv0
          split at hv0
          · rename_i e0 h0
            simp only [Option.some.injEq] at hv0
            subst hv0
            obtain ⟨v, k1, d0, k2, k3⟩ := hf.get d _ h0
            exact ⟨v, k1, nrm_vr hx k2 k3⟩
          · exact hf.get d _ hv0
        split at h
        · rename_i x hx
          obtain ⟨v, h1, h2⟩ := key _ hx
          simp only [Option.some.injEq] at h
          rw [h1, show v = _ from h2]
          simp only []
          rw [← h]
          cases x <;> cases want <;> rfl
        · rename_i hx
          obtain ⟨v, h1, xs, h2, h3⟩ := key _ hx
          simp only [Option.some.injEq] at h
          rw [h1, h2]
          simp only []
          rw [← h]
          rfl
        · cases h
      · cases h
    · cases h

theorem Act.put_def (a : Act) (d : Option Tmp) (v : Value) : (a.put d v).defers = a.defers := by cases d <;> rfl
theorem At.put {lo nt : Nat} {tm' : Tr AV} {v : AV} {u : Value} {d : Option Nat} {σ : Mp} {w' : World} (h : At E X P base lo ρ nt tm s a w) (h' : HR E base σ s' w') (t : Turn ρ s w σ s' w') (hp : putT nt tm d v = some tm') (hv : VR E σ v u) : At E X P base lo σ nt tm' s' (a.put d u) w' := by
  have hm : Mk lo σ s' w' (a.put d u).defers := by rw [Act.put_def]; exact h.marks.turn t
  have hl : base ≤ lo ∧ lo ≤ w'.heap.size := ⟨h.low.1, Nat.le_trans h.low.2 t.size⟩
  have hf := h.fr.mono t.ext
  have hz := h.size
  unfold putT at hp
  split at hp
  · split at hp
    · rename_i ht
      simp only [Option.some.injEq] at hp
      subst hp
      exact ⟨h.glob.mono t.ext, h', hf.put (by omega) hv, by simp [Act.put, hz], hm, hl⟩
    · cases hp
  · simp only [Option.some.injEq] at hp
    subst hp
    exact ⟨h.glob.mono t.ext, h', hf, hz, hm, hl⟩

/-- A region in text order. -/
theorem runOps_ok (hs : SelfOk E P self) {ops : Array Oper} {lo nt : Nat} {Q : Exit → Act → World → Prop} {tm' : Tr AV} : ∀ (rest : List Oper) (k : Nat) (tm : Tr AV) (s : St) (ρ : Mp) (a : Act) (w : World), rest = ops.toList.drop k →
    At E X P base lo ρ nt tm s a w → runOps X P self ops.toList nt rest tm s = some (tm', s') → (∀ σ a' w', At E X P base lo σ nt tm' s' a' w' → Turn ρ s w σ s' w' → Q .normal a' w') → wpOps P ops Q (List.range' k rest.length) a w
  | [], k, tm, s, ρ, a, w, hr, h, he, hq => by
    simp only [runOps_nil, Option.some.injEq, Prod.mk.injEq] at he
    obtain ⟨rfl, rfl⟩ := he
    exact hq ρ a w h (Turn.refl h.hr)
  | o :: rest, k, tm, s, ρ, a, w, hr, h, he, hq => by
    have ho : ops[k]? = some o := by
      rw [← Array.getElem?_toList]
      have : (ops.toList.drop k)[0]? = some o := by rw [← hr]; rfl
      simpa using this
    have hr' : rest = ops.toList.drop (k + 1) := by
      have : (ops.toList.drop k).tail = rest := by rw [← hr]; rfl
      rw [← this, List.tail_drop]
    rw [List.length_cons, List.range'_succ, wpOps, ho]
    rw [runOps_cons] at he
    simp only []
    split at he
    · rename_i hw
      rw [wantedA_ok h.fr h.glob.ok hw, if_pos rfl]
      split at he
      · rename_i v s1 h1
        split at he
        · rename_i tm1 h2
          refine .inl (opA_ok hs h.fr h.glob h.hr h1 fun u σ w' h3 h4 h5 => ?_)
          refine runOps_ok hs rest (k + 1) tm1 s1 σ _ w' hr' (h.put h4 h5 h2 h3) he fun τ a' w'' h6 h7 => ?_
          exact hq τ a' w'' h6 (h5.trans h7)
        · cases he
      · cases he
    · rename_i hw
      rw [wantedA_ok h.fr h.glob.ok hw, if_neg (by simp)]
      split at he
      · rename_i tm1 h2
        exact runOps_ok hs rest (k + 1) tm1 s ρ _ w hr' (h.put h.hr (Turn.refl h.hr) h2 vr_undef) he hq
      · cases he
    · cases he
end
end Go.Proofs.YtjaaajmiojigbaaGreatDoor
