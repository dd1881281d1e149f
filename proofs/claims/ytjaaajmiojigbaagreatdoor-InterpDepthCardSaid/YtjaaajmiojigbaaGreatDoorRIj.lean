/- InterpDepth: closed runs. -/
import Derived.Test.YtjaaajmiojigbaaGreatDoorRunID
namespace Go.Proofs.YtjaaajmiojigbaaGreatDoor
open Go
set_option maxRecDepth 1000000 in
set_option maxHeartbeats 0 in
theorem run_36 : isTrueR (evA xTab Tryz.prog (libD 36) 3000 (.call 3 [.sx (.var 2)] (sE Tryz.prog))) = true := by kernel_rfl
set_option maxRecDepth 1000000 in
set_option maxHeartbeats 0 in
theorem run_37 : isTrueR (evA xTab Tryz.prog (libD 37) 3000 (.call 3 [.sx (.var 2)] (sE Tryz.prog))) = true := by kernel_rfl
set_option maxRecDepth 1000000 in
set_option maxHeartbeats 0 in
theorem run_38 : isTrueR (evA xTab Tryz.prog (libD 38) 3000 (.call 3 [.sx (.var 2)] (sE Tryz.prog))) = true := by kernel_rfl
set_option maxRecDepth 1000000 in
set_option maxHeartbeats 0 in
theorem run_39 : isTrueR (evA xTab Tryz.prog (libD 39) 3000 (.call 3 [.sx (.var 2)] (sE Tryz.prog))) = true := by kernel_rfl
end Go.Proofs.YtjaaajmiojigbaaGreatDoor
