/- Slices of nodes, node by node. -/
import Derived.Test.YtnaabplppfikcaaDoorState
namespace Go.Proofs.YtnaabplppfikcaaDoor
open Go.RowKit

/-- The i-th node of a row: kind, text, children, offset. -/
def Fr.nth : Fr → Nat → Option (Int × List UInt8 × Fr × Int)
  | .nil, _ => none
  | .cons k t c o _, 0 => some (k, t, c, o)
  | .cons _ _ _ _ r, i + 1 => r.nth i

theorem Fr.nth_lt : ∀ {l : Fr} {i : Nat}, i < l.len → ∃ k t c o, l.nth i = some (k, t, c, o) ∧ c.size < l.size
  | .cons k t c o r, 0, _ => ⟨k, t, c, o, rfl, by simp [Fr.size]; omega⟩
  | .cons k t c o r, i + 1, h => by
    obtain ⟨k', t', c', o', h1, h2⟩ := Fr.nth_lt (l := r) (i := i) (by simp [Fr.len] at h; omega)
    exact ⟨k', t', c', o', h1, by simp [Fr.size]; omega⟩

theorem enc_nth {w : World} {F : Fixed} : ∀ {l : Fr} {ys : List Value} {i : Nat} {k : Int} {t : List UInt8} {c : Fr} {o : Int}, Enc w F l.dat ys → l.nth i = some (k, t, c, o) →
    ∃ cv, ys[i * 4]? = some (.int .i64 k) ∧ ys[i * 4 + 1]? = some (.string ⟨t.toArray⟩) ∧ ys[i * 4 + 2]? = some cv ∧ ys[i * 4 + 3]? = some (.int .i64 o) ∧ Rd w F 4 c.dat cv
  | .cons k t c o r, ys, 0, _, _, _, _, h, e => by
    simp only [Fr.nth, Option.some.injEq, Prod.mk.injEq] at e
    obtain ⟨rfl, rfl, rfl, rfl⟩ := e
    obtain ⟨z1, rfl, z2, rfl, cv, zs, z3, rfl, h1, h2, z4, rfl, h3⟩ := h
    exact ⟨cv, rfl, rfl, rfl, rfl, zs, h1, h2⟩
  | .cons k t c o r, ys, i + 1, _, _, _, _, h, e => by
    obtain ⟨z1, rfl, z2, rfl, cv, zs, z3, rfl, h1, h2, z4, rfl, h3⟩ := h
    obtain ⟨cv', a, b, c', d, e'⟩ := enc_nth h3 (show r.nth i = some _ from e)
    refine ⟨cv', ?_, ?_, ?_, ?_, e'⟩
    · rw [show (i + 1) * 4 = i * 4 + 4 by omega]; simpa using a
    · rw [show (i + 1) * 4 + 1 = i * 4 + 1 + 4 by omega]; simpa using b
    · rw [show (i + 1) * 4 + 2 = i * 4 + 2 + 4 by omega]; simpa using c'
    · rw [show (i + 1) * 4 + 3 = i * 4 + 3 + 4 by omega]; simpa using d

/-- What a slice of nodes looks like. -/
inductive NodeSlice (w : World) (F : Fixed) (l : Fr) : Value → Prop
  | nil : l.len = 0 → NodeSlice w F l (.slice none 0 0)
  | some (b off cap : Nat) : l.len ≤ cap → cap ≤ maxLen → (∀ i k t c o, l.nth i = .some (k, t, c, o) → ∃ a n m, w.cell? ⟨b, off + i * 4, none⟩ = .some (.int .i64 k) ∧ w.cell? ⟨b, off + i * 4 + 1, none⟩ = .some (.string ⟨t.toArray⟩) ∧
      w.cell? ⟨b, off + i * 4 + 2, none⟩ = .some (.slice a n m) ∧ w.cell? ⟨b, off + i * 4 + 3, none⟩ = .some (.int .i64 o) ∧ Rd w F 4 c.dat (.slice a n m)) → NodeSlice w F l (.slice (.some ⟨b, off, none⟩) l.len cap)

theorem Rd.slice {w : World} {F : Fixed} {size : Nat} {d : Dat} {v : Value} (h : Rd w F size d v) : ∃ a n c, v = .slice a n c := by
  obtain ⟨ys, h1 | ⟨b, off, n, cap, rfl, _⟩, _⟩ := h
  · exact ⟨_, _, _, h1.1⟩
  · exact ⟨_, _, _, rfl⟩

theorem Rd.nodes {w : World} {F : Fixed} {l : Fr} {v : Value} (h : Rd w F 4 l.dat v) : NodeSlice w F l v := by
  obtain ⟨ys, hr, he⟩ := h
  have hl := he.len
  rw [Fr.dat_len] at hl
  rcases hr with ⟨rfl, rfl⟩ | ⟨b, off, n, cap, rfl, h1, h2, h3, h4⟩
  · exact .nil (by simp at hl; omega)
  · have hn : n = l.len := by omega
    subst hn
    refine .some b off cap h1 h2 fun i k t c o hi => ?_
    obtain ⟨cv, e0, e1, e2, e3, hrd⟩ := enc_nth he hi
    obtain ⟨a, n, m, rfl⟩ := hrd.slice
    exact ⟨a, n, m, by rw [← (h4 _ _ e0).2], by rw [Nat.add_assoc, ← (h4 _ _ e1).2], by rw [Nat.add_assoc, ← (h4 _ _ e2).2], by rw [Nat.add_assoc, ← (h4 _ _ e3).2], hrd⟩

theorem Rd.drewN {w : World} {F : Fixed} {size : Nat} {d : Dat} {v : Value} (h : Rd w F size d v) (m : Nat) : Rd (w.drewN m) F size d v := h.mono (fun _ _ _ => rfl) (fun _ _ h => h)

end Go.Proofs.YtnaabplppfikcaaDoor
