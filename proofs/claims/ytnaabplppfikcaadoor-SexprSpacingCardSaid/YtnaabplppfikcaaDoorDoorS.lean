/- What the door's worlds give SexprSpacing: the table of separators too. -/
import Derived.Test.YtnaabplppfikcaaDoorDoor
import Derived.Test.YtnaabplppfikcaaDoorSpaced
namespace Go.Proofs.YtnaabplppfikcaaDoor
open Go.ChangeShapes Go.WideShapes Go.ChangeAt Go.RowKit

theorem gSeps : Tryd.prog.globalNamed "telpher/tellaw1.separators" = some 0 := by kernel_rfl
theorem tSeps : (Tryd.prog.globals[0]?).map (·.type) = some 41 := by kernel_rfl

/-- The three tables. -/
def laidS {H : Type} : List (String × DataW H) := [("telpher/telmake.words", Rows.laid_telpher_telmake_words), ("telpher/telmake.strings", Rows.laid_telpher_telmake_strings), ("telpher/tellaw1.separators", Rows.laid_telpher_tellaw1_separators)]

theorem of_laidS {W : World} (h : laidMetH Tryd.prog laidS W) : (∃ wb wo wc tb to tc, Tabs W wb wo wc tb to tc) ∧ ∃ gb go gc, SepTab W gb go gc := by
  rw [MakeChecks.laidMetH_plain _ _ _ (by kernel_rfl)] at h
  obtain ⟨ps, ⟨g0, t0, cs0, f0, p0, q0, hg0, ht0, hv0, hd0, ⟨g1, t1, cs1, f1, p1, q1, hg1, ht1, hv1, hd1, ⟨g2, t2, cs2, f2, p2, q2, hg2, ht2, hv2, hd2, _, _⟩, _⟩, _⟩, _, _⟩ := h
  obtain rfl := Option.some.inj (gWords.symm.trans hg0)
  obtain rfl := Option.some.inj (gStrs.symm.trans hg1)
  obtain rfl := Option.some.inj (gSeps.symm.trans hg2)
  obtain rfl := Option.some.inj (tWords.symm.trans ht0)
  obtain rfl := Option.some.inj (tStrs.symm.trans ht1)
  obtain rfl := Option.some.inj (tSeps.symm.trans ht2)
  obtain ⟨wb, wo, wc, hw, hws⟩ := open_table (L := wordsL) (g := 2) (fun v e => by have := World.var?_cell hg0 hv0 0; rw [e] at this; simpa using this) (by decide) hd0
  obtain ⟨tb, to, tc, ht, hts⟩ := open_table (L := strsL) (g := 1) (fun v e => by have := World.var?_cell hg1 hv1 0; rw [e] at this; simpa using this) (by decide) hd1
  obtain ⟨gb, go, gc, hs, hss⟩ := open_table (L := sepsL) (g := 0) (fun v e => by have := World.var?_cell hg2 hv2 0; rw [e] at this; simpa using this) (by decide) hd2
  exact ⟨⟨wb, wo, wc, tb, to, tc, hw, ht, hws, hts⟩, gb, go, gc, hs, hss⟩

/-- The door's own heap meets the condition. -/
theorem door_metS (os : Os) (args : Array Value) : laidMetH Tryd.prog laidS ((World.doorLaid Tryd.prog 77 os).forCall (fun _ _ => 0) ⟨#[], args, []⟩).memory :=
  laidMetH_of_parts3 (fuel := 8) (laidMet_of_run' 8 (by kernel_rfl) (by kernel_rfl)) (by kernel_rfl) (by kernel_rfl)
end Go.Proofs.YtnaabplppfikcaaDoor
