/- The sanity check of chapter 18's statements: the evaluator's answer is true. -/
import Derived.Test.YtfhcgpecccfkcaaGreatDoorRead
namespace Go.Proofs.YtfhcgpecccfkcaaGreatDoor
open Go
noncomputable def libR : Lib := fun f args s =>
  if f = 15 then (match args with
    | [.str l] => if l.length ≤ 1000000 then some (readA s l) else none
    | _ => none)
  else none

set_option maxRecDepth 1000000 in
set_option maxHeartbeats 0 in
theorem run_check : isTrueR (evA Tryz.prog libR 3000 (.call 8 [] sG)) = true := by kernel_rfl
end Go.Proofs.YtfhcgpecccfkcaaGreatDoor
