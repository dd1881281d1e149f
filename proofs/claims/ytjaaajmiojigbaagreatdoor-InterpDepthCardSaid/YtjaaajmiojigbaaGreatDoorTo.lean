/- InterpDepth: the closed runs that are told. -/
import Derived.Test.YtjaaajmiojigbaaGreatDoorRunID
namespace Go.Proofs.YtjaaajmiojigbaaGreatDoor
open Go
set_option maxRecDepth 1000000 in
set_option maxHeartbeats 0 in
theorem told0_run : toldRun told0 (evA xTab Tryz.prog libC 3000 (.call told0.f told0.args told0.st)) = true := by kernel_rfl
set_option maxRecDepth 1000000 in
set_option maxHeartbeats 0 in
theorem told1_run : toldRun told1 (evA xTab Tryz.prog libC 3000 (.call told1.f told1.args told1.st)) = true := by kernel_rfl
set_option maxRecDepth 1000000 in
set_option maxHeartbeats 0 in
theorem told2_run : toldRun told2 (evA xTab Tryz.prog libC 3000 (.call told2.f told2.args told2.st)) = true := by kernel_rfl
set_option maxRecDepth 1000000 in
set_option maxHeartbeats 0 in
theorem told3_run : toldRun told3 (evA xTab Tryz.prog libC 3000 (.call told3.f told3.args told3.st)) = true := by kernel_rfl
end Go.Proofs.YtjaaajmiojigbaaGreatDoor
