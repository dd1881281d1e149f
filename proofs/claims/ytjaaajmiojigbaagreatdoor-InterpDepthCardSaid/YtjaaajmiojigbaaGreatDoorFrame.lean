/- A step on a part of the memory leaves the rest of it as it was. -/
import Derived.Test.YtjaaajmiojigbaaGreatDoorMemo
namespace Go.Proofs.YtjaaajmiojigbaaGreatDoor
open Go Go.RowKit
variable {E : Env} {X : Ctx}

abbrev MP := Nat → AO → Prop

/-- The memory as a relation between numbers and blocks. -/
structure HP (E : Env) (base : Nat) (ρ : Mp) (M : MP) (hi : Nat) (w : World) : Prop where
  objs : ∀ b o, M b o → ∃ l, ρ b = some l ∧ OR E base ρ w l o
  apart : ∀ b b' o o' l l', M b o → M b' o' → b ≠ b' → o.wr → ρ b = some l → ρ b' = some l' → l.g ≠ l'.g
  fresh : ∀ b, hi ≤ b → ρ b = none
  base : base ≤ w.heap.size
  frz : ∀ g o, ρ.fz g = some o → w.heap[g]? = some o
  fzap : ∀ b o l, M b o → o.wr → ρ b = some l → ρ.fz l.g = none

/-- What has turned since a start. -/
structure TP (ρ : Mp) (s : St) (w : World) (σ : Mp) (M : MP) (hi : Nat) (w' : World) : Prop where
  ext : Ext ρ σ
  nx : s.hi ≤ hi
  os : w'.os = w.os
  tape : w'.tape = w.tape
  output : w'.output = w.output
  size : w.heap.size ≤ w'.heap.size
  block : ∀ g, g < w.heap.size → (∀ b o l, s.H.get b = some o → o.wr → ρ b = some l → l.g ≠ g) → w'.heap[g]? = w.heap[g]?
  from_ : ∀ b o l, M b o → σ b = some l → w.heap.size ≤ l.g ∨ ∃ b0 o0 l0, s.H.get b0 = some o0 ∧ ρ b0 = some l0 ∧ l0.g = l.g ∧ (o.wr → o0.wr)
  old : ∀ b, b < s.hi → b ≠ s.nx → σ b = ρ b
  fzs : ∀ g o, σ.fz g = some o → ρ.fz g = some o ∨ w.heap.size ≤ g ∨ ∃ b o' l, s.H.get b = some o' ∧ o'.wr ∧ ρ b = some l ∧ l.g = g

section
variable {base : Nat} {ρ σ τ : Mp} {s A A' : St} {M M' : MP} {hi hi' : Nat} {w w' w'' : World}

theorem HR.part (h : HR E base ρ s w) : HP E base ρ (fun b o => s.H.get b = some o) s.hi w := ⟨h.objs, h.apart, h.fresh.2, h.base, h.frz, h.fzap⟩
theorem HP.sub (h : HP E base ρ M hi w) (hs : ∀ b o, A.H.get b = some o → M b o) (hn : ρ A.nx = none) (hh : hi ≤ A.hi) : HR E base ρ A w :=
  ⟨fun b o hb => h.objs b o (hs b o hb), fun b b' o o' l l' hb hb' => h.apart b b' o o' l l' (hs _ _ hb) (hs _ _ hb'), ⟨hn, fun b hb => h.fresh b (by omega)⟩, h.base, h.frz, fun b o l hb => h.fzap b o l (hs b o hb)⟩
theorem HP.mono (h : HP E base ρ M hi w) (hs : ∀ b o, M' b o → M b o) : HP E base ρ M' hi w :=
  ⟨fun b o hb => h.objs b o (hs b o hb), fun b b' o o' l l' hb hb' => h.apart b b' o o' l l' (hs _ _ hb) (hs _ _ hb'), h.fresh, h.base, h.frz, fun b o l hb => h.fzap b o l (hs b o hb)⟩

/-- What is left of a memory beside a part of it, and the part as it has become. -/
def MP.step (M : MP) (A A' : St) : MP := fun b o => A'.H.get b = some o ∨ (M b o ∧ A.H.get b = none)

theorem HP.step (h : HP E base σ M hi w) (hs : ∀ b o, A.H.get b = some o → M b o) (h' : HR E base τ A' w') (t : Turn σ A w τ A' w') : HP E base τ (M.step A A') A'.hi w' := by
  have hlt : ∀ b o l, M b o → σ b = some l → l.g < w.heap.size := fun b o l hb hl => by
    obtain ⟨l1, h1, h2⟩ := h.objs b o hb
    rw [hl] at h1
    obtain rfl := Option.some.inj h1
    exact h2.lt
  have hold : ∀ b o l, M b o → τ b = some l → σ b = some l := fun b o l hb hl => by
    obtain ⟨l1, h1, _⟩ := h.objs b o hb
    rw [t.ext _ _ h1] at hl
    obtain rfl := Option.some.inj hl
    exact h1
  refine ⟨fun b o hb => ?_, fun b b' o o' l l' hb hb' hn hw hl hl' => ?_, h'.fresh.2, h'.base, h'.frz, fun b o l hb hw hl => ?_⟩
  · rcases hb with hb | ⟨hb, hbA⟩
    · exact h'.objs b o hb
    · obtain ⟨l, h1, h2⟩ := h.objs b o hb
      refine ⟨l, t.ext _ _ h1, h2.mono t.ext (t.block _ h2.lt fun b0 o0 l0 hb0 hw0 hl0 => ?_)⟩
      refine h.apart b0 b o0 o l0 l (hs _ _ hb0) hb (fun e => ?_) hw0 hl0 h1
      rw [e, hbA] at hb0
      cases hb0
  · rcases hb with hb | ⟨hb, hbA⟩
    · rcases hb' with hb' | ⟨hb', hbA'⟩
      · exact h'.apart b b' o o' l l' hb hb' hn hw hl hl'
      · have hl2 := hold _ _ _ hb' hl'
        intro e
        rcases t.from_ b o l hb hl with h1 | ⟨b0, o0, l0, h1, h2, h3, h4⟩
        · have := hlt _ _ _ hb' hl2; omega
        · refine h.apart b0 b' o0 o' l0 l' (hs _ _ h1) hb' (fun e => ?_) (h4 hw) h2 hl2 (h3.trans e)
          rw [e, hbA'] at h1
          cases h1
    · have hl2 := hold _ _ _ hb hl
      rcases hb' with hb' | ⟨hb', hbA'⟩
      · intro e
        rcases t.from_ b' o' l' hb' hl' with h1 | ⟨b0, o0, l0, h1, h2, h3, h4⟩
        · have := hlt _ _ _ hb hl2; omega
        · refine h.apart b b0 o o0 l l0 hb (hs _ _ h1) (fun e => ?_) hw hl2 h2 (e.trans h3.symm)
          rw [← e, hbA] at h1
          cases h1
      · exact h.apart b b' o o' l l' hb hb' hn hw hl2 (hold _ _ _ hb' hl')
  · rcases hb with hb | ⟨hb, hbA⟩
    · exact h'.fzap b o l hb hw hl
    · have hl2 := hold _ _ _ hb hl
      cases hf : τ.fz l.g with
      | none => rfl
      | some ob =>
        rcases t.fzs _ _ hf with h1 | h1 | ⟨b0, o0, l0, h1, h2, h3, h4⟩
        · have := h.fzap b o l hb hw hl2; rw [h1] at this; cases this
        · have := hlt _ _ _ hb hl2; omega
        · refine absurd h4 (h.apart b0 b o0 o l0 l (hs _ _ h1) hb (fun e => ?_) h2 h3 hl2)
          rw [e, hbA] at h1
          cases h1

theorem TP.step (k : TP ρ s w σ M hi w') (h : HP E base σ M hi w') (hs : ∀ b o, A.H.get b = some o → M b o) (t : Turn σ A w' τ A' w'') (hh : s.hi ≤ A.hi) (hx : A.nx = s.nx ∨ s.hi ≤ A.nx) :
    TP ρ s w τ (M.step A A') A'.hi w'' := by
  refine ⟨k.ext.trans t.ext, Nat.le_trans hh t.nx.1, t.os.trans k.os, t.tape.trans k.tape, t.output.trans k.output, Nat.le_trans k.size t.size, fun g hg hn => ?_, fun b o l hb hl => ?_, fun b hb hne => (t.old b (Nat.lt_of_lt_of_le hb hh) (by omega)).trans (k.old b hb hne), fun g o hg => ?_⟩
  · rw [t.block g (Nat.lt_of_lt_of_le hg k.size) fun b o l hb hw hl e => ?_]
    · exact k.block g hg hn
    · rcases k.from_ b o l (hs _ _ hb) hl with h1 | ⟨b0, o0, l0, h1, h2, h3, h4⟩
      · omega
      · exact hn b0 o0 l0 h1 (h4 hw) h2 (h3.trans e)
  · rcases hb with hb | ⟨hb, _⟩
    · rcases t.from_ b o l hb hl with h1 | ⟨b0, o0, l0, h1, h2, h3, h4⟩
      · exact .inl (Nat.le_trans k.size h1)
      · rcases k.from_ b0 o0 l0 (hs _ _ h1) h2 with h5 | ⟨b1, o1, l1, h5, h6, h7, h8⟩
        · exact .inl (by omega)
        · exact .inr ⟨b1, o1, l1, h5, h6, h7.trans h3, fun hw => h8 (h4 hw)⟩
    · obtain ⟨l1, h1, _⟩ := h.objs b o hb
      rw [t.ext _ _ h1] at hl
      obtain rfl := Option.some.inj hl
      exact k.from_ b o l1 hb h1
  · rcases t.fzs g o hg with h1 | h1 | ⟨b0, o0, l0, h1, h2, h3, h4⟩
    · exact k.fzs g o h1
    · exact .inr (.inl (Nat.le_trans k.size h1))
    · rcases k.from_ b0 o0 l0 (hs _ _ h1) h3 with h5 | ⟨b1, o1, l1, h5, h6, h7, h8⟩
      · exact .inr (.inl (by omega))
      · exact .inr (.inr ⟨b1, o1, l1, h5, h8 h2, h6, h7.trans h4⟩)

theorem TP.refl (h : HR E base ρ s w) (hh : s.hi ≤ hi) : TP ρ s w ρ (fun b o => s.H.get b = some o) hi w :=
  ⟨Ext.refl _, hh, rfl, rfl, rfl, Nat.le_refl _, fun _ _ _ => rfl, fun b o l hb hl => .inr ⟨b, o, l, hb, hl, rfl, id⟩, fun _ _ _ => rfl, fun _ _ h => .inl h⟩
theorem TP.mono (k : TP ρ s w σ M hi w') (hs : ∀ b o, M' b o → M b o) : TP ρ s w σ M' hi w' :=
  ⟨k.ext, k.nx, k.os, k.tape, k.output, k.size, k.block, fun b o l hb hl => k.from_ b o l (hs _ _ hb) hl, k.old, k.fzs⟩
theorem TP.turn (k : TP ρ s w σ M hi w') (hs : ∀ b o, A.H.get b = some o → M b o) (hh : hi ≤ A.hi) (hx : A.nx = s.nx ∨ s.hi ≤ A.nx) : Turn ρ s w σ A w' :=
  ⟨k.ext, ⟨Nat.le_trans k.nx hh, hx⟩, k.os, k.tape, k.output, k.size, k.block, fun b o l hb hl => k.from_ b o l (hs _ _ hb) hl, k.old, k.fzs⟩
end
end Go.Proofs.YtjaaajmiojigbaaGreatDoor
