/- SyntaxLimits: the law, out of the twelve cases. -/
import Derived.Test.YtfhcgpecccfkcaaGreatDoorLibS
import Derived.Test.YtfhcgpecccfkcaaGreatDoorR0
import Derived.Test.YtfhcgpecccfkcaaGreatDoorR2
namespace Go.Proofs.YtfhcgpecccfkcaaGreatDoor
open Go Go.RowKit

theorem run_all (a b : Int) (ha : 0 ≤ a ∧ a < 4) (hb : 0 ≤ b ∧ b < 3) : isTrueR (evA Tryz.prog (libS a b) 3000 (.call 3 [.sym 0, .sym 1] sG)) = true := by
  have h1 : a = 0 ∨ a = 1 ∨ a = 2 ∨ a = 3 := by omega
  have h2 : b = 0 ∨ b = 1 ∨ b = 2 := by omega
  rcases h1 with rfl | rfl | rfl | rfl <;> rcases h2 with rfl | rfl | rfl
  · exact run_0_0
  · exact run_0_1
  · exact run_0_2
  · exact run_1_0
  · exact run_1_1
  · exact run_1_2
  · exact run_2_0
  · exact run_2_1
  · exact run_2_2
  · exact run_3_0
  · exact run_3_1
  · exact run_3_2

theorem law_limits (which n : Int) (W : World) (h1 : TabAt W 0 wordsSyn) (h2 : TabAt W 3 wordsTyp) (h3 : TabAt W 2 wordsTyp) :
    Calls Tryz.prog 3 #[.int .i64 which, .int .i64 n] W fun e W' => e = .returned (.bool true) ∧ Below W.heap.size W W' := by
  let E : Nat → Int := fun i => if i = 0 then which else n
  obtain ⟨ρ1, i1⟩ := ini_tab (ini_start (E := E) W) h1
  obtain ⟨ρ2, i2⟩ := ini_tab i1 h2
  obtain ⟨ρ, hi⟩ := ini_tab i2 h3
  obtain ⟨s', hs⟩ := of_isTrue (run_all (which % 4) (n % 3) ⟨Int.emod_nonneg _ (by omega), Int.emod_lt_of_pos _ (by omega)⟩ ⟨Int.emod_nonneg _ (by omega), Int.emod_lt_of_pos _ (by omega)⟩)
  have hc := evA_call (E := E) mixed (libS_ok (E := E) rfl rfl) hs W.heap.size ρ W [.int .i64 which, .int .i64 n] hi.globs hi.hr ⟨_, _, rfl, rfl, _, [], rfl, rfl, rfl⟩
  refine Calls.mono hc ?_
  rintro e w' ⟨u, σ, rfl, hu, h4, h5⟩
  rw [show u = _ from hu]
  exact ⟨rfl, h5.below hi.hr⟩
end Go.Proofs.YtfhcgpecccfkcaaGreatDoor
