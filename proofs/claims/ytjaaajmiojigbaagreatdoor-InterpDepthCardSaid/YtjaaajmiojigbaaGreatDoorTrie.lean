/- Binary tries with numbers as keys: what is read back after a write. No program in sight. -/
namespace Go.Proofs.YtjaaajmiojigbaaGreatDoor

inductive Tr (α : Type) where
  | leaf : Tr α
  | node (v : Option α) (l r : Tr α) : Tr α

namespace Tr
variable {α : Type}

noncomputable def get (t : Tr α) : Nat → Option α :=
  Tr.rec (motive := fun _ => Nat → Option α) (fun _ => none) (fun v _ _ gl gr n => Bool.rec (motive := fun _ => Option α) (Bool.rec (motive := fun _ => Option α) (gr (n / 2 - 1)) (gl (n / 2)) (Nat.beq (n % 2) 1)) v (Nat.beq n 0)) t

/-- A write; the first number bounds the depth (a key beyond it loses the trie: nothing can be read then). -/
noncomputable def put (f : Nat) : Nat → Option α → Tr α → Tr α :=
  Nat.rec (motive := fun _ => Nat → Option α → Tr α → Tr α) (fun _ _ _ => leaf) (fun _ ih n x t => Tr.rec (motive := fun _ => Tr α)
    (Bool.rec (motive := fun _ => Tr α) (Bool.rec (motive := fun _ => Tr α) (node none leaf (ih (n / 2 - 1) x leaf)) (node none (ih (n / 2) x leaf) leaf) (Nat.beq (n % 2) 1)) (node x leaf leaf) (Nat.beq n 0))
    (fun v l r _ _ => Bool.rec (motive := fun _ => Tr α) (Bool.rec (motive := fun _ => Tr α) (node v l (ih (n / 2 - 1) x r)) (node v (ih (n / 2) x l) r) (Nat.beq (n % 2) 1)) (node x l r) (Nat.beq n 0)) t) f

noncomputable def set (n : Nat) (x : α) (t : Tr α) : Tr α := put 64 n (some x) t
noncomputable def del (n : Nat) (t : Tr α) : Tr α := put 64 n none t

theorem cond_beq {β : Type} (a b : Nat) (x y : β) : (Bool.rec (motive := fun _ => β) y x (Nat.beq a b) : β) = if a = b then x else y := by
  by_cases h : a = b
  · rw [if_pos h, h, Nat.beq_refl]
  · rw [if_neg h]
    cases hb : Nat.beq a b with
    | true => exact absurd (Nat.eq_of_beq_eq_true hb) h
    | false => rfl
theorem get_leaf (n : Nat) : (leaf : Tr α).get n = none := rfl
theorem get_node (v : Option α) (l r : Tr α) (n : Nat) : (node v l r).get n = if n = 0 then v else if n % 2 = 1 then l.get (n / 2) else r.get (n / 2 - 1) := by
  rw [← cond_beq, ← cond_beq]; rfl
theorem put_zero (n : Nat) (x : Option α) (t : Tr α) : put 0 n x t = leaf := rfl
theorem put_leaf (f n : Nat) (x : Option α) : put (f + 1) n x leaf = if n = 0 then node x leaf leaf else if n % 2 = 1 then node none (put f (n / 2) x leaf) leaf else node none leaf (put f (n / 2 - 1) x leaf) := by
  rw [← cond_beq, ← cond_beq]; rfl
theorem put_node (f n : Nat) (x : Option α) (v : Option α) (l r : Tr α) : put (f + 1) n x (node v l r) = if n = 0 then node x l r else if n % 2 = 1 then node v (put f (n / 2) x l) r else node v l (put f (n / 2 - 1) x r) := by
  rw [← cond_beq, ← cond_beq]; rfl

theorem get_put (f : Nat) : ∀ (n m : Nat) (x : Option α) (t : Tr α) (y : α), (put f n x t).get m = some y → (m = n ∧ x = some y) ∨ (m ≠ n ∧ t.get m = some y) := by
  induction f with
  | zero => intro n m x t y h; rw [put_zero, get_leaf] at h; cases h
  | succ f ih =>
    intro n m x t y h
    cases t with
    | leaf =>
      rw [put_leaf] at h
      by_cases hn : n = 0
      · rw [if_pos hn, get_node] at h
        by_cases hm : m = 0
        · rw [if_pos hm] at h; exact .inl ⟨by omega, h⟩
        · rw [if_neg hm] at h; split at h <;> simp [get_leaf] at h
      · rw [if_neg hn] at h
        by_cases ho : n % 2 = 1
        · rw [if_pos ho, get_node] at h
          by_cases hm : m = 0
          · rw [if_pos hm] at h; cases h
          · rw [if_neg hm] at h
            by_cases hp : m % 2 = 1
            · rw [if_pos hp] at h
              rcases ih _ _ _ _ _ h with ⟨h1, h2⟩ | ⟨h1, h2⟩
              · exact .inl ⟨by omega, h2⟩
              · simp [get_leaf] at h2
            · rw [if_neg hp] at h; simp [get_leaf] at h
        · rw [if_neg ho, get_node] at h
          by_cases hm : m = 0
          · rw [if_pos hm] at h; cases h
          · rw [if_neg hm] at h
            by_cases hp : m % 2 = 1
            · rw [if_pos hp] at h; simp [get_leaf] at h
            · rw [if_neg hp] at h
              rcases ih _ _ _ _ _ h with ⟨h1, h2⟩ | ⟨h1, h2⟩
              · exact .inl ⟨by omega, h2⟩
              · simp [get_leaf] at h2
    | node v l r =>
      rw [put_node] at h
      by_cases hn : n = 0
      · rw [if_pos hn, get_node] at h
        by_cases hm : m = 0
        · rw [if_pos hm] at h; exact .inl ⟨by omega, h⟩
        · rw [if_neg hm] at h; exact .inr ⟨by omega, by rw [get_node, if_neg hm]; exact h⟩
      · rw [if_neg hn] at h
        by_cases ho : n % 2 = 1
        · rw [if_pos ho, get_node] at h
          by_cases hm : m = 0
          · rw [if_pos hm] at h; exact .inr ⟨by omega, by rw [get_node, if_pos hm]; exact h⟩
          · rw [if_neg hm] at h
            by_cases hp : m % 2 = 1
            · rw [if_pos hp] at h
              rcases ih _ _ _ _ _ h with ⟨h1, h2⟩ | ⟨h1, h2⟩
              · exact .inl ⟨by omega, h2⟩
              · exact .inr ⟨fun e => h1 (by omega), by rw [get_node, if_neg hm, if_pos hp]; exact h2⟩
            · rw [if_neg hp] at h; exact .inr ⟨fun e => by omega, by rw [get_node, if_neg hm, if_neg hp]; exact h⟩
        · rw [if_neg ho, get_node] at h
          by_cases hm : m = 0
          · rw [if_pos hm] at h; exact .inr ⟨by omega, by rw [get_node, if_pos hm]; exact h⟩
          · rw [if_neg hm] at h
            by_cases hp : m % 2 = 1
            · rw [if_pos hp] at h; exact .inr ⟨fun e => by omega, by rw [get_node, if_neg hm, if_pos hp]; exact h⟩
            · rw [if_neg hp] at h
              rcases ih _ _ _ _ _ h with ⟨h1, h2⟩ | ⟨h1, h2⟩
              · exact .inl ⟨by omega, h2⟩
              · exact .inr ⟨fun e => h1 (by omega), by rw [get_node, if_neg hm, if_neg hp]; exact h2⟩

theorem get_put_same (x : α) : ∀ (f n : Nat) (t : Tr α), n + 1 < 2 ^ f → (put f n (some x) t).get n = some x := by
  intro f
  induction f with
  | zero => intro n t h; simp at h
  | succ f ih =>
    intro n t h
    rw [Nat.pow_succ] at h
    have h1 : n ≠ 0 → n / 2 - 1 + 1 < 2 ^ f := fun hn => by omega
    cases t with
    | leaf =>
      rw [put_leaf]
      by_cases hn : n = 0
      · rw [if_pos hn, get_node, if_pos hn]
      · rw [if_neg hn]
        by_cases ho : n % 2 = 1
        · rw [if_pos ho, get_node, if_neg hn, if_pos ho]; exact ih _ _ (by omega)
        · rw [if_neg ho, get_node, if_neg hn, if_neg ho]; exact ih _ _ (by omega)
    | node v l r =>
      rw [put_node]
      by_cases hn : n = 0
      · rw [if_pos hn, get_node, if_pos hn]
      · rw [if_neg hn]
        by_cases ho : n % 2 = 1
        · rw [if_pos ho, get_node, if_neg hn, if_pos ho]; exact ih _ _ (by omega)
        · rw [if_neg ho, get_node, if_neg hn, if_neg ho]; exact ih _ _ (by omega)
theorem get_set_same (n : Nat) (x : α) (t : Tr α) (h : n < 4611686018427387904) : (t.set n x).get n = some x :=
  get_put_same x 64 n t (Nat.lt_of_lt_of_le (Nat.add_lt_add_right h 1) (by decide))
theorem get_set {n m : Nat} {x y : α} {t : Tr α} (h : (t.set n x).get m = some y) : (m = n ∧ y = x) ∨ (m ≠ n ∧ t.get m = some y) := by
  rcases get_put _ _ _ _ _ _ h with ⟨h1, h2⟩ | h
  · exact .inl ⟨h1, (Option.some.inj h2).symm⟩
  · exact .inr h
theorem get_del {n m : Nat} {y : α} {t : Tr α} (h : (t.del n).get m = some y) : m ≠ n ∧ t.get m = some y := by
  rcases get_put _ _ _ _ _ _ h with ⟨_, h2⟩ | h
  · cases h2
  · exact h
end Tr
end Go.Proofs.YtjaaajmiojigbaaGreatDoor
