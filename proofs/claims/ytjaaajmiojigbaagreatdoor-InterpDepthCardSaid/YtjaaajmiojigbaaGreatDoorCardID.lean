/- The closed facts of the card, one by one. -/
import Derived.Test.YtjaaajmiojigbaaGreatDoorRows
import Derived.Test.YtjaaajmiojigbaaGreatDoorCards
import Derived.SevenTiedAt
import Derived.KernelRfl
namespace Go.Proofs.YtjaaajmiojigbaaGreatDoor
open Go
theorem card_wf : Rows.interpDepthRow.wfByText (OpenSpec.ofChange Rows.interpDepthSpec) = true := by kernel_rfl
theorem card_main : Tryz.prog.mainIs = some ((true, "bad5b20e560c9c8e6792b5cec5a494932d2ca2ccc55ab9e206178ec38865cfd2").1, (true, "bad5b20e560c9c8e6792b5cec5a494932d2ca2ccc55ab9e206178ec38865cfd2").2.toList) := by kernel_rfl
theorem card_named : Tryz.prog.funcNamed "telpher/tellaw20.InterpDepth" = some 3 := by kernel_rfl
theorem card_looks : true = Tryz.prog.looks [] := by kernel_rfl
theorem card_goes : false = Rows.interpDepthRow.goesBy Tryz.prog := by kernel_rfl
end Go.Proofs.YtjaaajmiojigbaaGreatDoor
