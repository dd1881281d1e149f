/- InterpDepth: closed runs. -/
import Derived.Test.YtjaaajmiojigbaaGreatDoorRunID
namespace Go.Proofs.YtjaaajmiojigbaaGreatDoor
open Go
set_option maxRecDepth 1000000 in
set_option maxHeartbeats 0 in
theorem run_44 : isTrueR (evA xTab Tryz.prog (libD 44) 3000 (.call 3 [.sx (.var 2)] (sE Tryz.prog))) = true := by kernel_rfl
set_option maxRecDepth 1000000 in
set_option maxHeartbeats 0 in
theorem run_45 : isTrueR (evA xTab Tryz.prog (libD 45) 3000 (.call 3 [.sx (.var 2)] (sE Tryz.prog))) = true := by kernel_rfl
set_option maxRecDepth 1000000 in
set_option maxHeartbeats 0 in
theorem run_46 : isTrueR (evA xTab Tryz.prog (libD 46) 3000 (.call 3 [.sx (.var 2)] (sE Tryz.prog))) = true := by kernel_rfl
set_option maxRecDepth 1000000 in
set_option maxHeartbeats 0 in
theorem run_47 : isTrueR (evA xTab Tryz.prog (libD 47) 3000 (.call 3 [.sx (.var 2)] (sE Tryz.prog))) = true := by kernel_rfl
end Go.Proofs.YtjaaajmiojigbaaGreatDoor
