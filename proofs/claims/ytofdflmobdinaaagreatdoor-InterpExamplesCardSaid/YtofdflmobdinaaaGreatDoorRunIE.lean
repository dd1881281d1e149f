/- InterpExamples: the evaluator's answer is true. -/
import Derived.Test.YtofdflmobdinaaaGreatDoorTabs
namespace Go.Proofs.YtofdflmobdinaaaGreatDoor
open Go
noncomputable def isTrueR : Option Resp → Bool
  | some (.call (.bool true) _) => true
  | _ => false
theorem of_isTrue {r : Option Resp} (h : isTrueR r = true) : ∃ s', r = some (.call (.bool true) s') := by
  unfold isTrueR at h
  split at h
  · exact ⟨_, rfl⟩
  · cases h
noncomputable def lib0 : Lib := ⟨fun _ _ _ => none, fun _ _ _ => none, true⟩
noncomputable def xTab : Ctx := ⟨tabFacts 0 wordsTyp ++ tabFacts 1 wordsTyp, [.sl 0, .sl 0], [[.str]], [(2, 0), (1, 1)]⟩

set_option maxRecDepth 1000000 in
set_option maxHeartbeats 0 in
theorem run_examples : isTrueR (evA xTab Tryz.prog lib0 3000 (.call 3 [] (sE Tryz.prog))) = true := by kernel_rfl
end Go.Proofs.YtofdflmobdinaaaGreatDoor
