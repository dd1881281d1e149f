/- tellaw1.check. -/
import Derived.Test.YtnaabplppfikcaaDoorParse
import Derived.Test.YtnaabplppfikcaaDoorNodes
namespace Go.Proofs.YtnaabplppfikcaaDoor
open Go.RowKit

def checkText : ByteArray := ⟨#[40, 97, 100, 100, 32, 120, 32, 34, 97, 32, 98, 34, 41, 32, 59, 32, 115, 117, 109]⟩
def checkKids : Fr := .cons 1 [97, 100, 100] .nil 1 (.cons 1 [120] .nil 5 (.cons 2 [97, 32, 98] .nil 7 .nil))
theorem check_parse : parse (bytes checkText) = .ok (.cons 3 [] checkKids 0 .nil) := by rfl

set_option maxRecDepth 100000 in
set_option maxHeartbeats 1600000 in
theorem check_any (w : World) : Calls Tryd.prog 15 #[] w fun e w' => e = .returned (.bool true) ∧ Below w.heap.size w w' := by
  go_enter Tryd.func15, Tryd.ntmps15
  go_wp2_with fail
  refine (parse_any checkText w (by show (19 : Nat) ≤ _; omega)).mono ?_
  rintro e w1 ⟨hb, hc⟩
  rw [check_parse] at hc
  obtain ⟨v, F, rfl, hrd⟩ := hc
  have hn := hrd.nodes
  cases hn with
  | nil h => simp [Fr.len] at h
  | some b off cap h1 h2 h3 =>
    obtain ⟨a, n, m, c0, _, c2, _, hk⟩ := h3 0 _ _ _ _ rfl
    have hn2 := hk.nodes
    cases hn2 with
    | nil h => simp [checkKids, Fr.len] at h
    | some b2 off2 cap2 g1 g2 g3 =>
      obtain ⟨_, _, _, _, _, _, d3, _⟩ := g3 1 _ _ _ _ rfl
      obtain ⟨_, _, _, _, e1, _, _, _⟩ := g3 2 _ _ _ _ rfl
      have k0 : w1.cell? ⟨b, off, none⟩ = some (.int .i64 3) := by simpa using c0
      have k2 : w1.cell? ⟨b, off + 2, none⟩ = some (.slice (some ⟨b2, off2, none⟩) 3 m) := by rw [show checkKids.len = 3 from rfl] at c2; simpa using c2
      have k3 : w1.cell? ⟨b2, off2 + 4 + 3, none⟩ = some (.int .i64 5) := by simpa using d3
      have k1 : w1.cell? ⟨b2, off2 + 8 + 1, none⟩ = some (.string ⟨#[97, 32, 98]⟩) := by simpa using e1
      have l1 := World.block_lt_of_cell? w1 _ k0
      have l2 := World.block_lt_of_cell? w1 _ k1
      have HB := Lib.hid hb
      clear hb hrd h3 c0 c2 d3 e1 g3 hk h1 h2 g1 g2
      rw [show (Fr.cons 3 [] checkKids 0 .nil).len = 1 from rfl]
      go_wp2_with fail
      go_ret
      exact ⟨rfl, HB.out.trans ((Below.refl _ _).alloc HB.out.size _)⟩
end Go.Proofs.YtnaabplppfikcaaDoor
