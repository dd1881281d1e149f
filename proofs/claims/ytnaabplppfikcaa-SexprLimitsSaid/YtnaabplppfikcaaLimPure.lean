/- The plain reader at the limits: spaces, one word, one string. No program in sight. -/
import Derived.Test.YtnaabplppfikcaaPure
namespace Go.Proofs.Ytnaabplppfikcaa

theorem go_spaces (st : Stack) : ∀ (n pos : Nat), go (List.replicate n 32) pos .plain st = endOf (pos + n) st
  | 0, _ => rfl
  | n + 1, pos => by
    rw [List.replicate_succ]
    simp only [go]
    rw [act_space (.inl rfl)]
    simp only []
    rw [go_spaces st n (pos + 1), show pos + 1 + n = pos + (n + 1) by omega]

theorem parse_spaces (n : Nat) : parse (List.replicate n 32) = if n ≤ 65536 then .ok .nil else .error (4, 0) := by
  rw [parse, List.length_replicate]
  split
  · rw [go_spaces]; rfl
  · rfl

theorem go_word_run (c : UInt8) (hc : wordB (bt c) = true) (start : Nat) (st : Stack) : ∀ (n pos : Nat) (acc : List UInt8), go (List.replicate n c) pos (.word start acc) st = match wordAt start (acc ++ List.replicate n c) st with
    | .ok st' => endOf (pos + n) st'
    | .error e => .error e
  | 0, pos, acc => by simp [go]; cases wordAt start acc st <;> rfl
  | n + 1, pos, acc => by
    rw [List.replicate_succ]
    simp only [go, hc, if_true]
    rw [go_word_run c hc start st n (pos + 1) (acc ++ [c]), show pos + 1 + n = pos + (n + 1) by omega, List.append_assoc]
    rfl

theorem parse_word (n : Nat) (hn : n ≤ 60000) : parse (32 :: List.replicate (n + 1) 119) = if n + 1 ≤ 24 then .ok (.cons 1 (List.replicate (n + 1) 119) .nil 1 .nil) else .error (4, 1) := by
  rw [parse, if_pos (by simp; omega)]
  simp only [go]
  rw [act_space (.inl rfl)]
  simp only []
  rw [List.replicate_succ]
  simp only [go]
  rw [act_word (by rfl)]
  simp only []
  rw [go_word_run 119 (by rfl), wordAt]
  simp only [List.length_append, List.length_replicate, List.length_cons, List.length_nil]
  by_cases h : n + 1 ≤ 24
  · rw [if_pos (by omega), if_pos h]; rfl
  · rw [if_neg (by omega), if_neg h]

theorem go_text_run (c : UInt8) (h1 : ¬ bt c = 34) (h2 : stringB (bt c) = true) (h3 : ¬ bt c = 92) (start : Nat) (st : Stack) : ∀ (n pos : Nat) (acc rest : List UInt8), go (List.replicate n c ++ rest) pos (.text start acc) st = go rest (pos + n) (.text start (acc ++ List.replicate n c)) st
  | 0, pos, acc, rest => by simp
  | n + 1, pos, acc, rest => by
    rw [List.replicate_succ, List.cons_append]
    simp only [go, h2, if_true, beq_iff_eq, h1, h3, if_false]
    rw [go_text_run c h1 h2 h3 start st n (pos + 1) (acc ++ [c]) rest, show pos + 1 + n = pos + (n + 1) by omega, List.append_assoc]
    rfl

theorem parse_text (n : Nat) (hn : n ≤ 60000) : parse (32 :: 34 :: (List.replicate n 115 ++ [34])) = if n ≤ 2000 then .ok (.cons 2 (List.replicate n 115) .nil 1 .nil) else .error (4, 1) := by
  rw [parse, if_pos (by simp; omega)]
  simp only [go]
  rw [act_space (.inl rfl)]
  simp only []
  simp only [go]
  rw [act_text (by rfl)]
  simp only []
  rw [go_text_run 115 (by decide) (by decide) (by decide)]
  simp only [go, List.nil_append, List.length_replicate]
  rw [if_pos (by rfl)]
  by_cases h : n ≤ 2000
  · rw [if_pos h, if_pos h]; rfl
  · rw [if_neg h, if_neg h]

theorem parse_deep : parse (List.replicate 41 40 ++ List.replicate 41 41) = .error (9, 40) := by rfl
theorem parse_deep40 : ∃ l, parse (List.replicate 40 40 ++ List.replicate 40 41) = .ok l := ⟨_, rfl⟩
theorem parse_deep39 : ∃ l, parse (List.replicate 39 40 ++ List.replicate 39 41) = .ok l := ⟨_, rfl⟩
end Go.Proofs.Ytnaabplppfikcaa
