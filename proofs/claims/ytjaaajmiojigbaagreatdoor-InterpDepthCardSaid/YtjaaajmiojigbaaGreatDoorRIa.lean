/- InterpDepth: closed runs. -/
import Derived.Test.YtjaaajmiojigbaaGreatDoorRunID
namespace Go.Proofs.YtjaaajmiojigbaaGreatDoor
open Go
set_option maxRecDepth 1000000 in
set_option maxHeartbeats 0 in
theorem run_0 : isTrueR (evA xTab Tryz.prog (libD 0) 3000 (.call 3 [.sx (.var 2)] (sE Tryz.prog))) = true := by kernel_rfl
set_option maxRecDepth 1000000 in
set_option maxHeartbeats 0 in
theorem run_1 : isTrueR (evA xTab Tryz.prog (libD 1) 3000 (.call 3 [.sx (.var 2)] (sE Tryz.prog))) = true := by kernel_rfl
set_option maxRecDepth 1000000 in
set_option maxHeartbeats 0 in
theorem run_2 : isTrueR (evA xTab Tryz.prog (libD 2) 3000 (.call 3 [.sx (.var 2)] (sE Tryz.prog))) = true := by kernel_rfl
set_option maxRecDepth 1000000 in
set_option maxHeartbeats 0 in
theorem run_3 : isTrueR (evA xTab Tryz.prog (libD 3) 3000 (.call 3 [.sx (.var 2)] (sE Tryz.prog))) = true := by kernel_rfl
end Go.Proofs.YtjaaajmiojigbaaGreatDoor
