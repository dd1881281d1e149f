/- InterpDepth: what the evaluator is told; the sanity check. -/
import Derived.Test.YtjaaajmiojigbaaGreatDoorTabs
import Derived.Test.YtjaaajmiojigbaaGreatDoorClone
import Derived.Test.YtjaaajmiojigbaaGreatDoorTold
namespace Go.Proofs.YtjaaajmiojigbaaGreatDoor
open Go
noncomputable def isTrueR : Option Resp → Bool
  | some (.call (.bool true) _) => true
  | _ => false
theorem of_isTrue {r : Option Resp} (h : isTrueR r = true) : ∃ s', r = some (.call (.bool true) s') := by
  unfold isTrueR at h
  split at h
  · exact ⟨_, rfl⟩
  · cases h
noncomputable def lib0 : Lib := ⟨fun _ _ _ => none, fun _ _ _ _ => none, true⟩
noncomputable def xTab : Ctx := ⟨tabFacts 0 wordsTyp ++ tabFacts 1 wordsTyp, [.sl 0, .sl 0, .int .i64], [[.str]], [(2, 0), (0, 1)]⟩
noncomputable def callC (f : FuncId) (args : List AV) (s : St) : Option (AV × St) :=
  if f = 81 then cloneM args s
  else if f = 44 then cloneM args s
  else none
noncomputable def libC : Lib := ⟨callC, fun _ _ _ _ => none, true⟩
noncomputable def callD (n : Int) (f : FuncId) (args : List AV) (s : St) : Option (AV × St) :=
  if f = 6 then (match args with
    | [.sx (.var i), .int .i64 m] => if i = 2 ∧ m = 51 then some (.int .i64 n, s) else none
    | _ => none)
  else if f = 5 then (match args with
    | [] => some (.bool true, s)
    | _ => none)
  else if f = 7 then toldA Tryz.prog.globals.size told0 args s
  else if f = 112 then toldA Tryz.prog.globals.size told1 args s
  else if f = 69 then toldA Tryz.prog.globals.size told2 args s
  else if f = 22 then toldA Tryz.prog.globals.size told3 args s
  else callC f args s
noncomputable def libD (n : Int) : Lib := ⟨callD n, fun _ _ _ _ => none, true⟩
set_option maxRecDepth 1000000 in
set_option maxHeartbeats 0 in
theorem run_check : isTrueR (evA xTab Tryz.prog lib0 3000 (.call 5 [] (sE Tryz.prog))) = true := by kernel_rfl
end Go.Proofs.YtjaaajmiojigbaaGreatDoor
