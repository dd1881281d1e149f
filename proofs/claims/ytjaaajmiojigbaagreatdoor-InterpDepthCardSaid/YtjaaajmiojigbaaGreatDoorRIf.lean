/- InterpDepth: closed runs. -/
import Derived.Test.YtjaaajmiojigbaaGreatDoorRunID
namespace Go.Proofs.YtjaaajmiojigbaaGreatDoor
open Go
set_option maxRecDepth 1000000 in
set_option maxHeartbeats 0 in
theorem run_20 : isTrueR (evA xTab Tryz.prog (libD 20) 3000 (.call 3 [.sx (.var 2)] (sE Tryz.prog))) = true := by kernel_rfl
set_option maxRecDepth 1000000 in
set_option maxHeartbeats 0 in
theorem run_21 : isTrueR (evA xTab Tryz.prog (libD 21) 3000 (.call 3 [.sx (.var 2)] (sE Tryz.prog))) = true := by kernel_rfl
set_option maxRecDepth 1000000 in
set_option maxHeartbeats 0 in
theorem run_22 : isTrueR (evA xTab Tryz.prog (libD 22) 3000 (.call 3 [.sx (.var 2)] (sE Tryz.prog))) = true := by kernel_rfl
set_option maxRecDepth 1000000 in
set_option maxHeartbeats 0 in
theorem run_23 : isTrueR (evA xTab Tryz.prog (libD 23) 3000 (.call 3 [.sx (.var 2)] (sE Tryz.prog))) = true := by kernel_rfl
end Go.Proofs.YtjaaajmiojigbaaGreatDoor
