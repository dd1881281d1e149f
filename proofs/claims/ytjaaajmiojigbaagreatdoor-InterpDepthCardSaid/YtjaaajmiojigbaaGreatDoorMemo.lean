/- Abstract memory: new blocks, writes in place, blocks that die, cells that move. -/
import Derived.Test.YtjaaajmiojigbaaGreatDoorRel
namespace Go.Proofs.YtjaaajmiojigbaaGreatDoor
open Go Go.RowKit
variable {E : Env} {X : Ctx}

/-- Nothing of the world has turned but its memory. -/
structure Alike (w w' : World) : Prop where
  os : w'.os = w.os
  tape : w'.tape = w.tape
  output : w'.output = w.output
theorem Alike.refl (w : World) : Alike w w := ⟨rfl, rfl, rfl⟩

def Mp.on (ρ : Mp) (b : Nat) (l : Loc) : Mp := ⟨fun x => if x = b then some l else ρ x, ρ.fz⟩
theorem Mp.on_same (ρ : Mp) (b : Nat) (l : Loc) : ρ.on b l b = some l := by simp [Mp.on]
theorem Mp.on_other {ρ : Mp} {b x : Nat} {l : Loc} (h : x ≠ b) : ρ.on b l x = ρ x := by simp [Mp.on, h]
theorem Mp.on_ext {ρ : Mp} {b : Nat} {l : Loc} (h : ρ b = none) : Ext ρ (ρ.on b l) := ⟨fun x k hx => by
  by_cases e : x = b
  · subst e; rw [h] at hx; cases hx
  · rw [Mp.on_other e]; exact hx, .refl _⟩

section
variable {base : Nat} {ρ : Mp} {s : St} {w w' : World}

theorem Mp.fresh_new {ρ : Mp} {s : St} {l : Loc} (hf : ρ s.nx = none ∧ ∀ b, s.hi ≤ b → ρ b = none) (t : St) (h1 : t.nx = s.nx) (h2 : t.hi = s.hi) (o : AO) : (ρ.on s.nx l) (t.new o).nx = none ∧ ∀ b, (t.new o).hi ≤ b → (ρ.on s.nx l) b = none := by
  have key : ∀ b, max s.hi (s.nx + 1) ≤ b → (ρ.on s.nx l) b = none := fun b hb => by
    rw [Mp.on_other (by omega)]
    exact hf.2 b (by omega)
  simp only [St.new, h1, h2]
  exact ⟨key _ (Nat.le_refl _), key⟩
theorem St.new_nx (s t : St) (h2 : t.hi = s.hi) (o : AO) : s.hi ≤ (t.new o).hi ∧ ((t.new o).nx = s.nx ∨ s.hi ≤ (t.new o).nx) := by
  simp only [St.new, h2]
  omega

theorem HR.fz_lt (h : HR E base ρ s w) {g : Nat} {o : Obj} (hg : ρ.fz g = some o) : g < w.heap.size := (Array.getElem?_eq_some_iff.1 (h.frz g o hg)).1
theorem HR.fz_none (h : HR E base ρ s w) {g : Nat} (hg : w.heap.size ≤ g) : ρ.fz g = none := by
  cases hf : ρ.fz g with
  | none => rfl
  | some o => have := h.fz_lt hf; omega
theorem HR.loc_lt (h : HR E base ρ s w) {b : Nat} {o : AO} {l : Loc} (hb : s.H.get b = some o) (hl : ρ b = some l) : l.g < w.heap.size := (h.at hb hl).lt

/-- A new block. -/
theorem HR.new (h : HR E base ρ s w) (o : AO) (m : Nat) (ha : Alike w w') (hsz : w'.heap.size = w.heap.size + 1) (hold : ∀ g, g < w.heap.size → w'.heap[g]? = w.heap[g]?)
    (ho : OR E base (ρ.on s.nx ⟨w.heap.size, 0, m⟩) w' ⟨w.heap.size, 0, m⟩ o) :
    HR E base (ρ.on s.nx ⟨w.heap.size, 0, m⟩) (s.new o) w' ∧ Turn ρ s w (ρ.on s.nx ⟨w.heap.size, 0, m⟩) (s.new o) w' := by
  have hx : Ext ρ (ρ.on s.nx ⟨w.heap.size, 0, m⟩) := Mp.on_ext (h.fresh.1)
  have hne : ∀ b o', s.H.get b = some o' → b ≠ s.nx := fun b o' hb e => by
    obtain ⟨l, h1, _⟩ := h.objs b o' hb
    rw [e, h.fresh.1] at h1
    cases h1
  refine ⟨⟨fun b o' hb => ?_, fun b b' o1 o2 l l' hb hb' hn hw hl hl' => ?_, Mp.fresh_new h.fresh s rfl rfl o, by have := h.base; omega, fun g o' hg => (hold g (h.fz_lt hg)).trans (h.frz g o' hg), fun b o' l hb hw hl => ?_⟩, ⟨hx, St.new_nx s s rfl o, ha.os, ha.tape, ha.output, by omega, fun g hg _ => hold g hg, fun b o' l hb hl => ?_, fun b _ hne => Mp.on_other hne, fun _ _ h => .inl h⟩⟩
  · rcases Tr.get_set hb with ⟨rfl, rfl⟩ | ⟨h1, h2⟩
    · exact ⟨_, Mp.on_same _ _ _, ho⟩
    · obtain ⟨l, h3, h4⟩ := h.objs b o' h2
      exact ⟨l, hx _ _ h3, h4.mono hx (hold _ h4.lt)⟩
  · rcases Tr.get_set hb with ⟨rfl, rfl⟩ | ⟨h1, h2⟩
    · rcases Tr.get_set hb' with ⟨rfl, rfl⟩ | ⟨h3, h4⟩
      · exact absurd rfl hn
      · rw [Mp.on_same] at hl
        rw [Mp.on_other h3] at hl'
        obtain rfl := Option.some.inj hl
        have := h.loc_lt h4 hl'
        intro e
        simp at e
        omega
    · rw [Mp.on_other h1] at hl
      rcases Tr.get_set hb' with ⟨rfl, rfl⟩ | ⟨h3, h4⟩
      · rw [Mp.on_same] at hl'
        obtain rfl := Option.some.inj hl'
        have := h.loc_lt h2 hl
        intro e
        simp at e
        omega
      · rw [Mp.on_other h3] at hl'
        exact h.apart b b' o1 o2 l l' h2 h4 hn hw hl hl'
  · rcases Tr.get_set hb with ⟨rfl, rfl⟩ | ⟨h1, h2⟩
    · rw [Mp.on_same] at hl
      obtain rfl := Option.some.inj hl
      exact h.fz_none (Nat.le_refl _)
    · rw [Mp.on_other h1] at hl
      exact h.fzap b o' l h2 hw hl
  · rcases Tr.get_set hb with ⟨rfl, rfl⟩ | ⟨h1, h2⟩
    · rw [Mp.on_same] at hl
      obtain rfl := Option.some.inj hl
      exact .inl (Nat.le_refl _)
    · rw [Mp.on_other h1] at hl
      exact .inr ⟨b, o', l, h2, hl, rfl, id⟩

theorem HR.pushed (h : HR E base ρ s w) (o : AO) (m : Nat) (ob : Obj) (ha : Alike w w') (hw : w'.heap = w.heap.push ob)
    (ho : w'.heap[w.heap.size]? = some ob → OR E base (ρ.on s.nx ⟨w.heap.size, 0, m⟩) w' ⟨w.heap.size, 0, m⟩ o) :
    HR E base (ρ.on s.nx ⟨w.heap.size, 0, m⟩) (s.new o) w' ∧ Turn ρ s w (ρ.on s.nx ⟨w.heap.size, 0, m⟩) (s.new o) w' :=
  h.new o m ha (by simp [hw]) (fun g hg => by rw [hw, Array.getElem?_push, if_neg (by omega)]) (ho (by rw [hw]; simp))

/-- A block is written in place. -/
theorem HR.turn (h : HR E base ρ s w) {b : Nat} {o o' : AO} {l : Loc} (hb : s.H.get b = some o) (hl : ρ b = some l) (hw : o.wr) (ha : Alike w w') (hsz : w'.heap.size = w.heap.size) (hold : ∀ g, g ≠ l.g → w'.heap[g]? = w.heap[g]?)
    (ho : OR E base ρ w' l o') :
    HR E base ρ ⟨s.H.set b o', s.nx, s.hi⟩ w' ∧ Turn ρ s w ρ ⟨s.H.set b o', s.nx, s.hi⟩ w' := by
  have hfar : ∀ b' o1 l', s.H.get b' = some o1 → ρ b' = some l' → b' ≠ b → l'.g ≠ l.g := fun b' o1 l' hb' hl' hn e => h.apart b b' o o1 l l' hb hb' (Ne.symm hn) hw hl hl' e.symm
  refine ⟨⟨fun b1 o1 hb1 => ?_, fun b1 b2 o1 o2 l1 l2 hb1 hb2 hn hw1 hl1 hl2 => ?_, h.fresh, by rw [hsz]; exact h.base, fun g o1 hg => (hold g fun e => by have := h.fzap b o l hb hw hl; rw [← e, hg] at this; cases this).trans (h.frz g o1 hg), fun b1 o1 l1 hb1 hw1 hl1 => ?_⟩, ⟨Ext.refl _, ⟨Nat.le_refl _, .inl rfl⟩, ha.os, ha.tape, ha.output, by omega, fun g hg hno => hold g (Ne.symm (hno b o l hb hw hl)), fun b1 o1 l1 hb1 hl1 => ?_, fun _ _ _ => rfl, fun _ _ h => .inl h⟩⟩
  · rcases Tr.get_set hb1 with ⟨rfl, rfl⟩ | ⟨h1, h2⟩
    · exact ⟨l, hl, ho⟩
    · obtain ⟨l1, h3, h4⟩ := h.objs b1 o1 h2
      exact ⟨l1, h3, h4.mono (Ext.refl _) (hold _ (hfar b1 o1 l1 h2 h3 h1))⟩
  · rcases Tr.get_set hb1 with ⟨rfl, rfl⟩ | ⟨h1, h2⟩
    · rcases Tr.get_set hb2 with ⟨rfl, rfl⟩ | ⟨h3, h4⟩
      · exact absurd rfl hn
      · exact h.apart b1 b2 o o2 l1 l2 hb h4 hn hw hl1 hl2
    · rcases Tr.get_set hb2 with ⟨rfl, rfl⟩ | ⟨h3, h4⟩
      · rw [hl] at hl2
        obtain rfl := Option.some.inj hl2
        exact hfar b1 o1 l1 h2 hl1 h1
      · exact h.apart b1 b2 o1 o2 l1 l2 h2 h4 hn hw1 hl1 hl2
  · rcases Tr.get_set hb1 with ⟨rfl, rfl⟩ | ⟨h1, h2⟩
    · exact h.fzap b1 o l1 hb hw hl1
    · exact h.fzap b1 o1 l1 h2 hw1 hl1
  · rcases Tr.get_set hb1 with ⟨rfl, rfl⟩ | ⟨h1, h2⟩
    · rw [hl] at hl1
      obtain rfl := Option.some.inj hl1
      exact .inr ⟨b1, o, l, hb, hl, rfl, fun _ => hw⟩
    · exact .inr ⟨b1, o1, l1, h2, hl1, rfl, id⟩

/-- A block dies, and its cells go on under another number, where they lay or elsewhere. -/
theorem HR.move (h : HR E base ρ s w) {b : Nat} {o o' : AO} {l l' : Loc} (hb : s.H.get b = some o) (hl : ρ b = some l) (hw : o.wr) (ha : Alike w w') (hsz : w.heap.size ≤ w'.heap.size)
    (hold : ∀ g, g < w.heap.size → g ≠ l.g → w'.heap[g]? = w.heap[g]?) (hg : l'.g = l.g ∨ w.heap.size ≤ l'.g) (_ : base ≤ l'.g)
    (ho : OR E base (ρ.on s.nx l') w' l' o') :
    HR E base (ρ.on s.nx l') (St.new ⟨s.H.del b, s.nx, s.hi⟩ o') w' ∧ Turn ρ s w (ρ.on s.nx l') (St.new ⟨s.H.del b, s.nx, s.hi⟩ o') w' := by
  have hx : Ext ρ (ρ.on s.nx l') := Mp.on_ext (h.fresh.1)
  have hfar : ∀ b' o1 l1, s.H.get b' = some o1 → ρ b' = some l1 → b' ≠ b → l1.g ≠ l.g := fun b' o1 l1 hb' hl1 hn e => h.apart b b' o o1 l l1 hb hb' (Ne.symm hn) hw hl hl1 e.symm
  have hnew : ∀ b' o1 l1, s.H.get b' = some o1 → ρ b' = some l1 → b' ≠ b → l'.g ≠ l1.g := fun b' o1 l1 hb' hl1 hn e => by
    rcases hg with hg | hg
    · exact hfar b' o1 l1 hb' hl1 hn (by omega)
    · have := h.loc_lt hb' hl1; omega
  refine ⟨⟨fun b1 o1 hb1 => ?_, fun b1 b2 o1 o2 l1 l2 hb1 hb2 hn hw1 hl1 hl2 => ?_, Mp.fresh_new h.fresh _ rfl rfl o', Nat.le_trans h.base hsz, fun g o1 hg1 => (hold g (h.fz_lt hg1) fun e => by have h0 := h.fzap b o l hb hw hl; have h1 : ρ.fz g = some o1 := hg1; rw [← e, h1] at h0; cases h0).trans (h.frz g o1 hg1), fun b1 o1 l1 hb1 hw1 hl1 => ?_⟩, ⟨hx, St.new_nx s _ rfl o', ha.os, ha.tape, ha.output, hsz, fun g hg1 hno => hold g hg1 (Ne.symm (hno b o l hb hw hl)), fun b1 o1 l1 hb1 hl1 => ?_, fun b1 _ hne => Mp.on_other hne, fun _ _ h => .inl h⟩⟩
  · rcases Tr.get_set hb1 with ⟨rfl, rfl⟩ | ⟨h1, h2⟩
    · exact ⟨_, Mp.on_same _ _ _, ho⟩
    · obtain ⟨h3, h4⟩ := Tr.get_del h2
      obtain ⟨l1, h5, h6⟩ := h.objs b1 o1 h4
      exact ⟨l1, hx _ _ h5, h6.mono hx (hold _ h6.lt (hfar b1 o1 l1 h4 h5 h3))⟩
  · rcases Tr.get_set hb1 with ⟨rfl, rfl⟩ | ⟨h1, h2⟩
    · rcases Tr.get_set hb2 with ⟨rfl, rfl⟩ | ⟨h3, h4⟩
      · exact absurd rfl hn
      · rw [show (ρ.on s.nx l') _ = some l' from Mp.on_same _ _ _] at hl1
        obtain rfl := Option.some.inj hl1
        rw [Mp.on_other h3] at hl2
        obtain ⟨h5, h6⟩ := Tr.get_del h4
        exact hnew b2 o2 l2 h6 hl2 h5
    · rw [Mp.on_other h1] at hl1
      obtain ⟨h5, h6⟩ := Tr.get_del h2
      rcases Tr.get_set hb2 with ⟨rfl, rfl⟩ | ⟨h3, h4⟩
      · rw [show (ρ.on s.nx l') _ = some l' from Mp.on_same _ _ _] at hl2
        obtain rfl := Option.some.inj hl2
        exact Ne.symm (hnew b1 o1 l1 h6 hl1 h5)
      · rw [Mp.on_other h3] at hl2
        obtain ⟨h7, h8⟩ := Tr.get_del h4
        exact h.apart b1 b2 o1 o2 l1 l2 h6 h8 hn hw1 hl1 hl2
  · rcases Tr.get_set hb1 with ⟨rfl, rfl⟩ | ⟨h1, h2⟩
    · rw [show (ρ.on s.nx l') _ = some l' from Mp.on_same _ _ _] at hl1
      obtain rfl := Option.some.inj hl1
      rcases hg with hg | hg
      · rw [hg]; exact h.fzap b o l hb hw hl
      · exact h.fz_none hg
    · rw [Mp.on_other h1] at hl1
      exact h.fzap b1 o1 l1 (Tr.get_del h2).2 hw1 hl1
  · rcases Tr.get_set hb1 with ⟨rfl, rfl⟩ | ⟨h1, h2⟩
    · rw [show (ρ.on s.nx l') _ = some l' from Mp.on_same _ _ _] at hl1
      obtain rfl := Option.some.inj hl1
      rcases hg with hg | hg
      · exact .inr ⟨b, o, l, hb, hl, hg.symm, fun _ => hw⟩
      · exact .inl hg
    · rw [Mp.on_other h1] at hl1
      exact .inr ⟨b1, o1, l1, (Tr.get_del h2).2, hl1, rfl, id⟩
end
end Go.Proofs.YtjaaajmiojigbaaGreatDoor
