/- Texts with arbitrary separators, plainly. -/
import Derived.Test.YtnaabplppfikcaaDoorPrePure
namespace Go.Proofs.YtnaabplppfikcaaDoor

def sepsL : List (List UInt8) := [[32], [10], [32, 32], [59, 120, 10], [32, 59, 32, 40, 10, 32], [10, 10]]
def sepT (i : Nat) : List UInt8 := sepsL.getD i []
def SepQ (s : List UInt8) : Prop := ∃ i, i < 6 ∧ s = sepT i

theorem sep_all : ∀ i, i < 6 → Sep (sepT i) ∧ sepT i ≠ [] ∧ (sepT i).length ≤ 6 := by
  intro i hi
  have h : i = 0 ∨ i = 1 ∨ i = 2 ∨ i = 3 ∨ i = 4 ∨ i = 5 := by omega
  rcases h with rfl | rfl | rfl | rfl | rfl | rfl
  · exact ⟨⟨fun rest pos st => by simp [sepT, sepsL, go, act, bt], Stops.cons (by decide)⟩, by decide, by decide⟩
  · exact ⟨⟨fun rest pos st => by simp [sepT, sepsL, go, act, bt], Stops.cons (by decide)⟩, by decide, by decide⟩
  · exact ⟨⟨fun rest pos st => by simp [sepT, sepsL, go, act, bt], Stops.cons (by decide)⟩, by decide, by decide⟩
  · exact ⟨⟨fun rest pos st => by simp [sepT, sepsL, go, act, bt], Stops.cons (by decide)⟩, by decide, by decide⟩
  · exact ⟨⟨fun rest pos st => by simp [sepT, sepsL, go, act, bt], Stops.cons (by decide)⟩, by decide, by decide⟩
  · exact ⟨⟨fun rest pos st => by simp [sepT, sepsL, go, act, bt], Stops.cons (by decide)⟩, by decide, by decide⟩
theorem SepQ.sep {s : List UInt8} (h : SepQ s) : Sep s := by obtain ⟨i, hi, rfl⟩ := h; exact (sep_all i hi).1

/-- The text of one node. -/
def NodeTxt (Q : List UInt8 → Prop) (k : Int) (t : List UInt8) (c : Fr) (d : Nat) (s1 : List UInt8) : Prop :=
  (k = 1 ∧ s1 = t ∧ t ≠ [] ∧ (∀ x ∈ t, wordB (bt x) = true) ∧ t.length ≤ 24 ∧ c = .nil) ∨ (k = 2 ∧ s1 = quote t ∧ (∀ x ∈ t, stringB (bt x) = true) ∧ t.length ≤ 2000 ∧ c = .nil) ∨ (k = 3 ∧ t = [] ∧ 0 < d ∧ ∃ body, s1 = 40 :: (body ++ [41]) ∧ TxtF Q c (d - 1) body)

/-- The nodes of l have been written: more may follow. -/
def Acc (l : Fr) (d : Nat) (X : List UInt8) : Prop := ∀ r tail, TxtF SepQ r d tail → Stops tail → TxtF SepQ (l.app r) d (X ++ tail)
theorem Acc.nil (d : Nat) : Acc .nil d [] := fun _ _ h _ => h
theorem Acc.snoc {l : Fr} {d : Nat} {X sep s1 : List UInt8} {k o : Int} {t : List UInt8} {c : Fr} (h : Acc l d X) (hs : SepQ sep) (hn : NodeTxt SepQ k t c d s1) : Acc (l.app (.cons k t c o .nil)) d (X ++ (sep ++ s1)) := by
  intro r tail hr hst
  rw [Fr.app_assoc, List.append_assoc, List.append_assoc]
  refine h _ _ ⟨sep, s1, tail, rfl, hs, hr, hst, hn⟩ ?_
  obtain ⟨i, hi, rfl⟩ := hs
  have h1 := sep_all i hi
  revert h1
  generalize sepT i = q
  intro h1
  cases q with
  | nil => exact absurd rfl h1.2.1
  | cons a b => exact Stops.cons (h1.1.2 a b rfl)
theorem Acc.close {l : Fr} {d : Nat} {X sep : List UInt8} (h : Acc l d X) (hs : SepQ sep) : TxtF SepQ l d (X ++ sep) := by
  have := h .nil sep hs hs.sep.2
  rwa [Fr.app_nil] at this

theorem leaf_txt {k o : Int} {t : List UInt8} {c r : Fr} {d : Nat} (h : Gen false (.cons k t c o r) d) (h3 : ¬ k = 3) : NodeTxt SepQ k t c d (ntxt k t c) := by
  rcases gen_node h with h1 | h1 | h1
  · exact .inl h1
  · exact .inr (.inl h1)
  · exact absurd h1.1 h3

/-- How long a text with separators is at most. -/
def wide : Nat → Nat
  | 0 => 30
  | d + 1 => 32 + 4 * wide d
theorem wide_ge (d : Nat) : 30 ≤ wide d := by
  induction d with
  | zero => exact Nat.le_refl _
  | succ d ih => simp only [wide]; omega
theorem leaf_len {k o : Int} {t : List UInt8} {c r : Fr} {d : Nat} (h : Gen false (.cons k t c o r) d) (h3 : ¬ k = 3) : (ntxt k t c).length ≤ 30 := by
  rcases h.1 with ⟨rfl, ⟨i, hi, rfl⟩, rfl, _⟩ | ⟨rfl, ⟨i, hi, rfl⟩, rfl, _⟩ | ⟨h0, rfl, rfl, _, h4, hg⟩ | ⟨hb, _⟩ | ⟨hb, _⟩
  · have := (wordT_ok i hi).2.2; simp only [ntxt, if_true]; omega
  · have := (strT_ok i hi).2.2; simpa [ntxt] using this
  · exact absurd rfl h3
  · cases hb
  · cases hb

/-- The whole text of SexprSpacing. -/
theorem spacing_parse {k : Int} {t : List UInt8} {c : Fr} {d : Nat} {s1 sep : List UInt8} (hn : NodeTxt SepQ k t c d s1) (hs : SepQ sep) (hd : d ≤ 30) (hl : s1.length ≤ 60000) :
    ∃ c' o', c'.eqf c = true ∧ parse (sep ++ s1 ++ [10, 59, 32, 101, 110, 100]) = .ok (.cons k t c' o' .nil) := by
  obtain ⟨c', hc', h1⟩ := go_node1 (fun s hs => SepQ.sep hs) hn [10, 59, 32, 101, 110, 100] sep.length 0 .nil [] (Stops.cons (by decide)) (by simp; omega)
  refine ⟨c', (sep.length : Nat), hc', ?_⟩
  obtain ⟨i, hi, rfl⟩ := hs
  have h6 := (sep_all i hi).2.2
  rw [parse, if_pos (by simp; omega), List.append_assoc, (sep_all i hi).1.1, Nat.zero_add, h1]
  simp [go, act, bt, endOf, Fr.app]
end Go.Proofs.YtnaabplppfikcaaDoor
