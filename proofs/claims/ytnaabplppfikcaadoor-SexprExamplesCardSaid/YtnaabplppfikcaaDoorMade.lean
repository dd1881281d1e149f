/- Generated nodes whose stream is new; what the laws share. -/
import Derived.Test.YtnaabplppfikcaaDoorAny
import Derived.Test.YtnaabplppfikcaaDoorParse
namespace Go.Proofs.YtnaabplppfikcaaDoor
open Go.RowKit

theorem Tabs.free {w : World} {wb wo wc tb to tc : Nat} (h : Tabs w wb wo wc tb to tc) : Free wb tb w.heap.size :=
  ⟨Nat.ne_of_lt (World.block_lt_of_cell? w _ h.gw), Nat.ne_of_lt (World.block_lt_of_cell? w _ h.gs), Nat.ne_of_lt (World.block_lt_of_cell? w _ (h.ws 0 (by omega))), Nat.ne_of_lt (World.block_lt_of_cell? w _ (h.ss 0 (by omega)))⟩
theorem Tabs.grown0 {w w' : World} {wb wo wc tb to tc : Nat} (h : Tabs w wb wo wc tb to tc) (hg : w.grownBy w' none) : Tabs w' wb wo wc tb to tc :=
  ⟨hg.cell h.gw (by simp), hg.cell h.gs (by simp), fun i hi => hg.cell (h.ws i hi) (by simp), fun i hi => hg.cell (h.ss i hi) (by simp)⟩
theorem IntsAt.grown {w w' : World} {a : Option Addr} {len : Nat} (h : IntsAt w a len) (hg : w.grownBy w' none) : IntsAt w' a len :=
  ⟨h.1, fun i hi => by obtain ⟨b, off, z, h1, h2⟩ := h.2 i hi; exact ⟨b, off, z, h1, hg.cell h2 (by simp)⟩⟩

/-- A generated node, whose stream is new. -/
def MadeNode (bad : Bool) (d : Nat) (w W : World) (k : Int) (t : List UInt8) (c : Fr) (o : Int) (a : Option Addr) (n m : Nat) (F : Fixed) : Prop :=
  Rd W F 4 c.dat (.slice a n m) ∧ Gen bad (.cons k t c o .nil) d ∧ w.grownBy W none

theorem made {bad : Bool} {d : Nat} {w W1 W2 : World} {e : Ending} (h : AnyDone bad d W1 w.heap.size e W2) (hg : w.grownBy W1 none) :
    ∃ k t c o a n m F, e = .returned (.agg #[.int .i64 k, .string ⟨t.toArray⟩, .slice a n m, .int .i64 o]) ∧ MadeNode bad d w W2 k t c o a n m F := by
  obtain ⟨k, t, c, o, a, n, m, F, he, h1, _, h3, _, h5⟩ := h
  exact ⟨k, t, c, o, a, n, m, F, he, h1, h3, hg.andThen h5 (fun j e => .inl (by cases e; exact Nat.le_refl _))⟩

theorem gen_small {bad : Bool} {k o : Int} {t : List UInt8} {c : Fr} {d : Nat} (h : Gen bad (.cons k t c o .nil) d) (hd : d ≤ 4) : c.size ≤ 1000 := by
  have h1 := h.size
  have h2 : most d ≤ 597 := by
    rcases (by omega : d = 0 ∨ d = 1 ∨ d = 2 ∨ d = 3 ∨ d = 4) with rfl | rfl | rfl | rfl | rfl <;> decide
  simp only [Fr.size, Fr.len] at h1
  omega

theorem ParseDone.form {s : ByteArray} {w w' : World} {e : Ending} (h : ParseDone s w e w') : ∃ (a : Option Addr) (n c : Nat) (k o : Int) (l : Fr) (F : Fixed), e = .returned (.tuple #[.slice a n c, .agg #[.int .i64 k, .int .i64 o]]) ∧ Rd w' F 4 l.dat (.slice a n c) ∧ Below w.heap.size w w' ∧
    (match parse (bytes s) with | .ok l' => l = l' ∧ k = 0 ∧ o = 0 | .error (k', o') => l = .nil ∧ k = k' ∧ o = o') := by
  obtain ⟨hb, h⟩ := h
  cases hp : parse (bytes s) with
  | ok l =>
    rw [hp] at h
    obtain ⟨v, F, rfl, hr⟩ := h
    obtain ⟨a, n, c, rfl⟩ := hr.slice
    exact ⟨a, n, c, 0, 0, l, F, rfl, hr, hb, rfl, rfl, rfl⟩
  | error x =>
    obtain ⟨k, o⟩ := x
    rw [hp] at h
    exact ⟨none, 0, 0, k, o, .nil, fun _ _ => False, h, Rd.nil _ _ _, hb, rfl, rfl, rfl⟩
end Go.Proofs.YtnaabplppfikcaaDoor
