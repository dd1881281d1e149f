/- InterpDepth: closed runs. -/
import Derived.Test.YtjaaajmiojigbaaGreatDoorRunID
namespace Go.Proofs.YtjaaajmiojigbaaGreatDoor
open Go
set_option maxRecDepth 1000000 in
set_option maxHeartbeats 0 in
theorem run_12 : isTrueR (evA xTab Tryz.prog (libD 12) 3000 (.call 3 [.sx (.var 2)] (sE Tryz.prog))) = true := by kernel_rfl
set_option maxRecDepth 1000000 in
set_option maxHeartbeats 0 in
theorem run_13 : isTrueR (evA xTab Tryz.prog (libD 13) 3000 (.call 3 [.sx (.var 2)] (sE Tryz.prog))) = true := by kernel_rfl
set_option maxRecDepth 1000000 in
set_option maxHeartbeats 0 in
theorem run_14 : isTrueR (evA xTab Tryz.prog (libD 14) 3000 (.call 3 [.sx (.var 2)] (sE Tryz.prog))) = true := by kernel_rfl
set_option maxRecDepth 1000000 in
set_option maxHeartbeats 0 in
theorem run_15 : isTrueR (evA xTab Tryz.prog (libD 15) 3000 (.call 3 [.sx (.var 2)] (sE Tryz.prog))) = true := by kernel_rfl
end Go.Proofs.YtjaaajmiojigbaaGreatDoor
