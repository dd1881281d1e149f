/- The texts of generated nodes. -/
import Derived.Test.YtnaabplppfikcaaDoorText
import Derived.Test.YtnaabplppfikcaaDoorKids
namespace Go.Proofs.YtnaabplppfikcaaDoor

theorem wordT_ok : ∀ i, i < 16 → wordT i ≠ [] ∧ (∀ x ∈ wordT i, wordB (bt x) = true) ∧ (wordT i).length ≤ 24 := by decide
theorem strT_ok : ∀ i, i < 6 → (∀ x ∈ strT i, stringB (bt x) = true) ∧ (strT i).length ≤ 24 ∧ (quote (strT i)).length ≤ 30 := by decide

theorem join_stops (l : Fr) : Stops (l.join false) := by
  cases l with
  | nil => exact Stops.nil
  | cons k t c o r => exact Stops.cons (by decide)

theorem gen_txt : ∀ (l : Fr) (d : Nat) (b : Bool), Gen false l d → TxtF Gap l d (l.join b)
  | .nil, _, _, _ => .inl rfl
  | .cons k t c o r, d, b, h => by
    refine ⟨_, _, _, rfl, ?_, gen_txt r d false h.2, join_stops r, ?_⟩
    · cases b
      · exact .inr rfl
      · exact .inl rfl
    · rcases h.1 with ⟨rfl, ⟨i, hi, rfl⟩, rfl, _⟩ | ⟨rfl, ⟨i, hi, rfl⟩, rfl, _⟩ | ⟨h0, rfl, rfl, _, _, hg⟩ | ⟨hb, _⟩ | ⟨hb, _⟩
      · exact .inl ⟨rfl, rfl, (wordT_ok i hi).1, (wordT_ok i hi).2.1, (wordT_ok i hi).2.2, rfl⟩
      · exact .inr (.inl ⟨rfl, rfl, (strT_ok i hi).1, by have := (strT_ok i hi).2.1; omega, rfl⟩)
      · exact .inr (.inr ⟨rfl, rfl, h0, _, rfl, gen_txt c (d - 1) true hg⟩)
      · cases hb
      · cases hb

/-- How long the text of a node is at most. -/
def long : Nat → Nat
  | 0 => 30
  | d + 1 => 6 + 4 * long d
theorem long_ge (d : Nat) : 30 ≤ long d := by
  induction d with
  | zero => exact Nat.le_refl _
  | succ d ih => simp only [long]; omega
theorem join_len : ∀ (l : Fr) (d : Nat) (b : Bool), Gen false l d → (l.join b).length ≤ l.len * (long d + 1)
  | .nil, _, _, _ => Nat.zero_le _
  | .cons k t c o r, d, b, h => by
    have hr := join_len r d false h.2
    have hl := long_ge d
    have hn : (if k = 1 then t else if k = 2 then quote t else 40 :: (c.join true ++ [41])).length ≤ long d := by
      rcases h.1 with ⟨rfl, ⟨i, hi, rfl⟩, rfl, _⟩ | ⟨rfl, ⟨i, hi, rfl⟩, rfl, _⟩ | ⟨h0, rfl, rfl, _, h4, hg⟩ | ⟨hb, _⟩ | ⟨hb, _⟩
      · have := (wordT_ok i hi).2.2; simp only [if_true]; omega
      · have := (strT_ok i hi).2.2; rw [if_neg (by decide), if_pos rfl]; omega
      · obtain ⟨d', rfl⟩ : ∃ d', d = d' + 1 := ⟨d - 1, by omega⟩
        rw [if_neg (by decide), if_neg (by decide)]
        have hc := join_len c d' true hg
        have h5 : c.len * (long d' + 1) ≤ 4 * (long d' + 1) := Nat.mul_le_mul_right _ h4
        simp only [List.length_cons, List.length_append, List.length_nil, long]
        omega
      · cases hb
      · cases hb
    have hp : (if b = true then ([] : List UInt8) else [32]).length ≤ 1 := by cases b <;> simp
    simp only [Fr.join, List.length_append, Fr.len, Nat.add_mul, Nat.one_mul] at hr ⊢
    omega
end Go.Proofs.YtnaabplppfikcaaDoor
