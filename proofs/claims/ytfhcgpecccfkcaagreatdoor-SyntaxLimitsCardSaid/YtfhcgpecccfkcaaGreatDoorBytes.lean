/- The contracts of the functions that test one byte, on both sides, and of 'fail'. -/
import Derived.Test.YtfhcgpecccfkcaaGreatDoorProg
import Derived.Test.YtfhcgpecccfkcaaGreatDoorPure
import Derived.WalkKit
import Derived.WalkSmall
import Derived.WalkSpells
import Derived.WalkLawsBesides
import Derived.KernelRfl
import Derived.Lib.Hide
namespace Go.Proofs.YtfhcgpecccfkcaaGreatDoor
open Go.RowKit

section
set_option maxHeartbeats 400000
theorem letter_any (c : Int) (w : World) : Calls Tryz.prog 48 #[.int .u8 c] w fun e w' => e = .returned (.bool (letterB c)) ∧ w = w' := by
  by_cases h1 : 97 ≤ c <;> by_cases h2 : c ≤ 122 <;> by_cases h3 : 65 ≤ c <;> by_cases h4 : c ≤ 90 <;> first | omega | skip
  all_goals
    go_enter Tryz.func48, Tryz.ntmps48
    go_wp2
    go_ret
    exact ⟨by simp [letterB, h1, h2, h3, h4], rfl⟩
theorem digit_any (c : Int) (w : World) : Calls Tryz.prog 49 #[.int .u8 c] w fun e w' => e = .returned (.bool (digitB c)) ∧ w = w' := by
  by_cases h1 : 48 ≤ c <;> by_cases h2 : c ≤ 57 <;> first | omega | skip
  all_goals
    go_enter Tryz.func49, Tryz.ntmps49
    go_wp2
    go_ret
    exact ⟨by simp [digitB, h1, h2], rfl⟩
theorem stringByte_any (c : Int) (w : World) : Calls Tryz.prog 47 #[.int .u8 c] w fun e w' => e = .returned (.bool (stringB c)) ∧ w = w' := by
  by_cases h1 : 32 ≤ c <;> by_cases h2 : c ≤ 126 <;> first | omega | skip
  all_goals
    go_enter Tryz.func47, Tryz.ntmps47
    go_wp2
    go_ret
    exact ⟨by simp [stringB, h1, h2], rfl⟩
theorem wordByte_any (c : Int) (w : World) : Calls Tryz.prog 35 #[.int .u8 c] w fun e w' => e = .returned (.bool (wordB c)) ∧ w = w' := by
  cases h1 : letterB c <;> cases h2 : digitB c <;> cases h3 : (c == 95) <;> cases h4 : (c == 45)
  all_goals
    have H1 := Lib.hid h1
    have H2 := Lib.hid h2
    clear h1 h2
    go_enter Tryz.func35, Tryz.ntmps35
    go_wp2_with fail
    refine (letter_any _ _).mono ?_
    rintro e w' ⟨rfl, rfl⟩
    rw [H1.out]
    try (go_wp2_with fail; refine (digit_any _ _).mono ?_; rintro e w' ⟨rfl, rfl⟩; rw [H2.out])
    go_wp2
    go_ret
    exact ⟨by simp [wordB, H1.out, H2.out, h3, h4], rfl⟩
theorem fail_any (k o : Int) (w : World) : Calls Tryz.prog 31 #[.int .i64 k, .int .i64 o] w fun e w' => e = .panicked [{ v := .iface 27 (.agg #[.int .i64 k, .int .i64 o]), recovered := false }] ∧ w = w' := by
  go_enter Tryz.func31, Tryz.ntmps31
  go_wp2
  exact ⟨rfl, rfl, rfl⟩
end
end Go.Proofs.YtfhcgpecccfkcaaGreatDoor
