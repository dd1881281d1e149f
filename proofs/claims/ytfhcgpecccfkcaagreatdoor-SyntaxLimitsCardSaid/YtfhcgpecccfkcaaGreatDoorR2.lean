/- SyntaxLimits, three of twelve cases: the evaluator's answer is true. -/
import Derived.Test.YtfhcgpecccfkcaaGreatDoorLibS
namespace Go.Proofs.YtfhcgpecccfkcaaGreatDoor
open Go
set_option maxRecDepth 1000000 in
set_option maxHeartbeats 0 in
theorem run_2_0 : isTrueR (evA Tryz.prog (libS 2 0) 3000 (.call 3 [.sym 0, .sym 1] sG)) = true := by kernel_rfl
set_option maxRecDepth 1000000 in
set_option maxHeartbeats 0 in
theorem run_2_1 : isTrueR (evA Tryz.prog (libS 2 1) 3000 (.call 3 [.sym 0, .sym 1] sG)) = true := by kernel_rfl
set_option maxRecDepth 1000000 in
set_option maxHeartbeats 0 in
theorem run_2_2 : isTrueR (evA Tryz.prog (libS 2 2) 3000 (.call 3 [.sym 0, .sym 1] sG)) = true := by kernel_rfl
end Go.Proofs.YtfhcgpecccfkcaaGreatDoor
