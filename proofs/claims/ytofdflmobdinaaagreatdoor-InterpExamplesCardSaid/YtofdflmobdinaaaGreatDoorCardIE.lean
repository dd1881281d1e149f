/- The closed facts of the card, one by one. -/
import Derived.Test.YtofdflmobdinaaaGreatDoorRows
import Derived.Test.YtofdflmobdinaaaGreatDoorCards
import Derived.SevenTiedAt
import Derived.KernelRfl
namespace Go.Proofs.YtofdflmobdinaaaGreatDoor
open Go
theorem card_wf : Rows.interpExamplesRow.wfByText (OpenSpec.ofChange Rows.interpExamplesSpec) = true := by kernel_rfl
theorem card_main : Tryz.prog.mainIs = some ((true, "e2f3573fd133841f3b35e0ca8947be4147577dde4f7316b3e81d1908a6a4eec5").1, (true, "e2f3573fd133841f3b35e0ca8947be4147577dde4f7316b3e81d1908a6a4eec5").2.toList) := by kernel_rfl
theorem card_named : Tryz.prog.funcNamed "telpher/tellaw20.InterpExamples" = some 3 := by kernel_rfl
theorem card_looks : true = Tryz.prog.looks [] := by kernel_rfl
theorem card_goes : false = Rows.interpExamplesRow.goesBy Tryz.prog := by kernel_rfl
end Go.Proofs.YtofdflmobdinaaaGreatDoor
