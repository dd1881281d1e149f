/- What the door's worlds give SexprWords and SexprExamples: the library's variable ErrRange. -/
import Derived.Test.YtnaabplppfikcaaDoorDoor
import Derived.Test.YtnaabplppfikcaaDoorLawWords
import Derived.Stop.LaidErr
namespace Go.Proofs.YtnaabplppfikcaaDoor
open Go.ChangeShapes Go.WideShapes Go.ChangeAt Go.RowKit

theorem gER : Tryd.prog.globalNamed "strconv.ErrRange" = some 4 := by kernel_rfl
theorem tER : (Tryd.prog.globals[4]?).map (·.type) = some 80 := by kernel_rfl
theorem cellsES : Tryd.prog.cellsOf 111 = 1 := by kernel_rfl
theorem star : "*" ++ "errors.errorString" = "*errors.errorString" := by decide
theorem rowES (u : TypeId) (h : Tryd.prog.typeName? 3 u = some "*errors.errorString") : u = 109 :=
  typeName_ptr_named (nm := "errors.errorString") (by rw [star]; kernel_rfl) (by kernel_rfl) (by decide) u (by rw [star]; exact h)

/-- The five variables. -/
def laidN {H : Type} : List (String × DataW H) := [("math/bits.deBruijn32tab", Rows.laid_math_bits_deBruijn32tab), ("math/bits.deBruijn64tab", Rows.laid_math_bits_deBruijn64tab), ("internal/strconv.uint64pow10", Rows.laid_internal_strconv_uint64pow10), ("strconv.ErrRange", Rows.laid_strconv_ErrRange), ("strconv.ErrSyntax", Rows.laid_strconv_ErrSyntax)]

theorem of_laidN {W : World} (h : laidMetH Tryd.prog laidN W) : IsErr W := by
  rw [MakeChecks.laidMetH_plain _ _ _ (by kernel_rfl)] at h
  obtain ⟨a0, s0, hv0, -, -, -⟩ := laid_sentinel h.tail.tail.tail gER tER Tryd.underlying80 rowES Tryd.underlying109 Tryd.underlying111 rfl rfl Tryd.underlying9 cellsES cellsString
  exact ⟨_, by have := World.var?_cell gER hv0 0; simpa using this, .inr ⟨_, _, rfl⟩⟩

/-- The door's own heap meets the condition. -/
theorem door_metN (os : Os) (args : Array Value) : laidMetH Tryd.prog laidN ((World.doorLaid Tryd.prog 77 os).forCall (fun _ _ => 0) ⟨#[], args, []⟩).memory :=
  laidMetH_of_parts3 (fuel := 8) (laidMet_of_run' 8 (by kernel_rfl) (by kernel_rfl)) (by kernel_rfl) (by kernel_rfl)
end Go.Proofs.YtnaabplppfikcaaDoor
