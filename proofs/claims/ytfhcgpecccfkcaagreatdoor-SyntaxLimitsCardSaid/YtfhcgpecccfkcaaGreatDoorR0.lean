/- SyntaxLimits, nine of twelve cases: the evaluator's answer is true. -/
import Derived.Test.YtfhcgpecccfkcaaGreatDoorLibS
namespace Go.Proofs.YtfhcgpecccfkcaaGreatDoor
open Go
set_option maxRecDepth 1000000 in
set_option maxHeartbeats 0 in
theorem run_0_0 : isTrueR (evA Tryz.prog (libS 0 0) 3000 (.call 3 [.sym 0, .sym 1] sG)) = true := by kernel_rfl
set_option maxRecDepth 1000000 in
set_option maxHeartbeats 0 in
theorem run_0_1 : isTrueR (evA Tryz.prog (libS 0 1) 3000 (.call 3 [.sym 0, .sym 1] sG)) = true := by kernel_rfl
set_option maxRecDepth 1000000 in
set_option maxHeartbeats 0 in
theorem run_0_2 : isTrueR (evA Tryz.prog (libS 0 2) 3000 (.call 3 [.sym 0, .sym 1] sG)) = true := by kernel_rfl
set_option maxRecDepth 1000000 in
set_option maxHeartbeats 0 in
theorem run_1_0 : isTrueR (evA Tryz.prog (libS 1 0) 3000 (.call 3 [.sym 0, .sym 1] sG)) = true := by kernel_rfl
set_option maxRecDepth 1000000 in
set_option maxHeartbeats 0 in
theorem run_1_1 : isTrueR (evA Tryz.prog (libS 1 1) 3000 (.call 3 [.sym 0, .sym 1] sG)) = true := by kernel_rfl
set_option maxRecDepth 1000000 in
set_option maxHeartbeats 0 in
theorem run_1_2 : isTrueR (evA Tryz.prog (libS 1 2) 3000 (.call 3 [.sym 0, .sym 1] sG)) = true := by kernel_rfl
set_option maxRecDepth 1000000 in
set_option maxHeartbeats 0 in
theorem run_3_0 : isTrueR (evA Tryz.prog (libS 3 0) 3000 (.call 3 [.sym 0, .sym 1] sG)) = true := by kernel_rfl
set_option maxRecDepth 1000000 in
set_option maxHeartbeats 0 in
theorem run_3_1 : isTrueR (evA Tryz.prog (libS 3 1) 3000 (.call 3 [.sym 0, .sym 1] sG)) = true := by kernel_rfl
set_option maxRecDepth 1000000 in
set_option maxHeartbeats 0 in
theorem run_3_2 : isTrueR (evA Tryz.prog (libS 3 2) 3000 (.call 3 [.sym 0, .sym 1] sG)) = true := by kernel_rfl
end Go.Proofs.YtfhcgpecccfkcaaGreatDoor
