/- The contracts of the functions that test one byte, on both sides, and of 'fail'. -/
import Derived.Test.YtcajkijnpknacaaGreatDoorProg
import Derived.Test.YtcajkijnpknacaaGreatDoorPure
import Derived.WalkKit
import Derived.WalkSmall
import Derived.WalkSpells
import Derived.WalkLawsBesides
import Derived.KernelRfl
import Derived.Lib.Hide
namespace Go.Proofs.YtcajkijnpknacaaGreatDoor
open Go.RowKit

section
set_option maxHeartbeats 400000
theorem letter_any (c : Int) (w : World) : Calls Tryz.prog 64 #[.int .u8 c] w fun e w' => e = .returned (.bool (letterB c)) ∧ w = w' := by
  by_cases h1 : 97 ≤ c <;> by_cases h2 : c ≤ 122 <;> by_cases h3 : 65 ≤ c <;> by_cases h4 : c ≤ 90 <;> first | omega | skip
  all_goals
    go_enter Tryz.func64, Tryz.ntmps64
    go_wp2
    go_ret
    exact ⟨by simp [letterB, h1, h2, h3, h4], rfl⟩
theorem digit_any (c : Int) (w : World) : Calls Tryz.prog 90 #[.int .u8 c] w fun e w' => e = .returned (.bool (digitB c)) ∧ w = w' := by
  by_cases h1 : 48 ≤ c <;> by_cases h2 : c ≤ 57 <;> first | omega | skip
  all_goals
    go_enter Tryz.func90, Tryz.ntmps90
    go_wp2
    go_ret
    exact ⟨by simp [digitB, h1, h2], rfl⟩
theorem stringByte_any (c : Int) (w : World) : Calls Tryz.prog 89 #[.int .u8 c] w fun e w' => e = .returned (.bool (stringB c)) ∧ w = w' := by
  by_cases h1 : 32 ≤ c <;> by_cases h2 : c ≤ 126 <;> first | omega | skip
  all_goals
    go_enter Tryz.func89, Tryz.ntmps89
    go_wp2
    go_ret
    exact ⟨by simp [stringB, h1, h2], rfl⟩
theorem wordByte_any (c : Int) (w : World) : Calls Tryz.prog 55 #[.int .u8 c] w fun e w' => e = .returned (.bool (wordB c)) ∧ w = w' := by
  cases h1 : letterB c <;> cases h2 : digitB c <;> cases h3 : (c == 95) <;> cases h4 : (c == 45)
  all_goals
    have H1 := Lib.hid h1
    have H2 := Lib.hid h2
    clear h1 h2
    go_enter Tryz.func55, Tryz.ntmps55
    go_wp2_with fail
    refine (letter_any _ _).mono ?_
    rintro e w' ⟨rfl, rfl⟩
    rw [H1.out]
    try (go_wp2_with fail; refine (digit_any _ _).mono ?_; rintro e w' ⟨rfl, rfl⟩; rw [H2.out])
    go_wp2
    go_ret
    exact ⟨by simp [wordB, H1.out, H2.out, h3, h4], rfl⟩
theorem fail_any (k o : Int) (w : World) : Calls Tryz.prog 51 #[.int .i64 k, .int .i64 o] w fun e w' => e = .panicked [{ v := .iface 39 (.agg #[.int .i64 k, .int .i64 o]), recovered := false }] ∧ w = w' := by
  go_enter Tryz.func51, Tryz.ntmps51
  go_wp2
  exact ⟨rfl, rfl, rfl⟩
end
end Go.Proofs.YtcajkijnpknacaaGreatDoor
