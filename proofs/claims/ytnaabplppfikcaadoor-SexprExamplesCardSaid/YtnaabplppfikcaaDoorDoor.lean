/- What the door's worlds give: the tables of the generator, the slices of integers that come in. -/
import Derived.Test.YtnaabplppfikcaaDoorRows
import Derived.Test.YtnaabplppfikcaaDoorStream
import Derived.Test.YtnaabplppfikcaaDoorKids
import Derived.ProofKit
import Derived.LaidMore
import Derived.OpenShut
import Derived.SizedLaws
import Derived.Stop.Joined
namespace Go.Proofs.YtnaabplppfikcaaDoor
open Go.ChangeShapes Go.WideShapes Go.ChangeAt Go.RowKit

theorem own : ownKnob Tryd.prog.godebug = none := by kernel_rfl
theorem laidOut : laidOutB Tryd.prog = true := by kernel_rfl
theorem bytesInt : Tryd.prog.bytesOf 3 = 8 := by kernel_rfl
theorem gWords : Tryd.prog.globalNamed "telpher/telmake.words" = some 2 := by kernel_rfl
theorem gStrs : Tryd.prog.globalNamed "telpher/telmake.strings" = some 1 := by kernel_rfl
theorem tWords : (Tryd.prog.globals[2]?).map (·.type) = some 41 := by kernel_rfl
theorem tStrs : (Tryd.prog.globals[1]?).map (·.type) = some 41 := by kernel_rfl
theorem cellsString : Tryd.prog.cellsOf 9 = 1 := by kernel_rfl

/-- The two tables. -/
def laidW {H : Type} : List (String × DataW H) := [("telpher/telmake.words", Rows.laid_telpher_telmake_words), ("telpher/telmake.strings", Rows.laid_telpher_telmake_strings)]

/-- A table of strings that is laid. -/
theorem open_table {held : Bool} {H : Type} {enc : TypeId × Value → H} {W : World} {g fuel : Nat} {cs : Array Value} {L : List (List UInt8)} {p : List MemPlace} (hg : ∀ v, cs = #[v] → W.cell? ⟨g, 0, none⟩ = some v) (hL : L ≠ [])
    (hd : DataW.trod enc Tryd.prog W 0 (fun _ => true) held fuel 41 cs.toList = some (.slice (L.map fun t => .lit (.string t)) [], p)) :
    ∃ b off cap, W.cell? ⟨g, 0, none⟩ = some (.slice (some ⟨b, off, none⟩) L.length cap) ∧ ∀ i, i < L.length → W.cell? ⟨b, off + i, none⟩ = some (.string ⟨(L.getD i []).toArray⟩) := by
  obtain ⟨a, cap, hcs, _, hel⟩ := open_row Tryd.underlying41 cellsString hd
  have hat : ∀ i, i < L.length → W.cell? (a.add i) = some (.string ⟨(L.getD i []).toArray⟩) := fun i hi => by
    obtain ⟨v, n, q, hc, hr⟩ := hel i (.lit (.string (L.getD i []))) (by simp [List.getD, hi])
    obtain ⟨s, e1, e2, _⟩ := DataW.trod_string Tryd.underlying9 hr
    simp only [List.cons.injEq, and_true] at e1
    simp only [Prod.mk.injEq, DataW.lit.injEq, Lit.string.injEq] at e2
    rw [hc, e1, e2.1]
  obtain ⟨b, off, spot⟩ := a
  have hspot : spot = none := by
    have h0 := hat 0 (List.length_pos_iff.2 hL)
    simpa [Addr.add] using World.cell?_spot h0
  subst hspot
  refine ⟨b, off, cap, ?_, fun i hi => ?_⟩
  · have := hg _ (Array.eq_one_of_toList hcs)
    simpa using this
  · have := hat i hi
    rwa [Addr.add_lit] at this

/-- What the condition gives the walks. -/
theorem of_laid {W : World} (h : laidMetH Tryd.prog laidW W) : ∃ wb wo wc tb to tc, Tabs W wb wo wc tb to tc := by
  rw [MakeChecks.laidMetH_plain _ _ _ (by kernel_rfl)] at h
  obtain ⟨ps, ⟨g0, t0, cs0, f0, p0, q0, hg0, ht0, hv0, hd0, ⟨g1, t1, cs1, f1, p1, q1, hg1, ht1, hv1, hd1, _, _⟩, _⟩, _, _⟩ := h
  obtain rfl := Option.some.inj (gWords.symm.trans hg0)
  obtain rfl := Option.some.inj (gStrs.symm.trans hg1)
  obtain rfl := Option.some.inj (tWords.symm.trans ht0)
  obtain rfl := Option.some.inj (tStrs.symm.trans ht1)
  obtain ⟨wb, wo, wc, hw, hws⟩ := open_table (L := wordsL) (g := 2) (fun v e => by have := World.var?_cell hg0 hv0 0; rw [e] at this; simpa using this) (by decide) hd0
  obtain ⟨tb, to, tc, ht, hts⟩ := open_table (L := strsL) (g := 1) (fun v e => by have := World.var?_cell hg1 hv1 0; rw [e] at this; simpa using this) (by decide) hd1
  exact ⟨wb, wo, wc, tb, to, tc, hw, ht, hws, hts⟩

/-- The door's own heap meets the condition. -/
theorem door_met (os : Os) (args : Array Value) : laidMetH Tryd.prog laidW ((World.doorLaid Tryd.prog 77 os).forCall (fun _ _ => 0) ⟨#[], args, []⟩).memory :=
  laidMetH_of_parts3 (fuel := 8) (laidMet_of_run' 8 (by kernel_rfl) (by kernel_rfl)) (by kernel_rfl) (by kernel_rfl)

/-- A slice of integers that came in. -/
theorem ints_in {H : Type} {enc : TypeId × Value → H} {W : World} {a : Option Addr} {len cap : Nat} {d : DataW H} {p : List MemPlace} (h : DataW.Trod enc Tryd.prog W 0 (fun _ => true) true 22 (.slice a len cap) d p)
    (hw : ∀ xs ys, d = .slice xs ys → (xs.length + ys.length) * 8 ≤ reachBytes) : IntsAt W a len := by
  obtain ⟨fuel, hf⟩ := h
  rcases open_ints Tryd.underlying22 Tryd.underlying3 (by kernel_rfl) hf with ⟨hcs, _⟩ | ⟨x, l, c, zs, hcs, _, hl, hm, hz, hx, hcell, hwz⟩
  · simp [Value.cells] at hcs
    obtain ⟨rfl, rfl, rfl⟩ := hcs
    exact ⟨by omega, fun i hi => by omega⟩
  · simp [Value.cells] at hcs
    obtain ⟨rfl, rfl, rfl⟩ := hcs
    simp only [Prod.mk.injEq] at hx
    obtain ⟨rfl, rfl⟩ := hx
    simp only [if_true] at hz
    have hb := hw _ _ rfl
    simp only [lits, List.length_map, List.length_take, List.length_drop, reachBytes] at hb
    refine ⟨by omega, fun i hi => ?_⟩
    obtain ⟨b, off, spot⟩ := x
    have h00 := hcell 0 (by omega)
    have hspot : spot = none := by simpa [Addr.add] using World.cell?_spot h00
    subst hspot
    refine ⟨b, off, zs.getD i 0, rfl, ?_⟩
    have := hcell i (by omega)
    rwa [Addr.add_lit] at this
end Go.Proofs.YtnaabplppfikcaaDoor
