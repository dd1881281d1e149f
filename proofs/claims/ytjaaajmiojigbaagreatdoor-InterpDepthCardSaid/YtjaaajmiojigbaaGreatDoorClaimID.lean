/- InterpDepth returns true for every number of ticks and leaves it alone: at most MaxFrames method calls are active, and an endless recursion is stopped there or by its ticks. Conditions: none beyond those of the card: the package variables hold what the program's text lays. -/
import Derived.Test.YtjaaajmiojigbaaGreatDoorLawID
import Derived.Test.YtjaaajmiojigbaaGreatDoorFactsID
import Derived.Test.YtjaaajmiojigbaaGreatDoorCardID
import Derived.Stop.LaidErr
import Derived.Test.YtjaaajmiojigbaaGreatDoorTie
import Derived.Test.YtjaaajmiojigbaaGreatDoorCards
namespace Go.Proofs.YtjaaajmiojigbaaGreatDoor
open Go Go.ChangeShapes Go.WideShapes Go.ChangeAt Go.RowKit
open Go.ChangeMaps (open_string shut_string)

theorem own : ownKnob Tryz.prog.godebug = none := by kernel_rfl
theorem gTrm : Tryz.prog.globalNamed "telpher/typeterm.reserved" = some 2 := by kernel_rfl
theorem gHie : Tryz.prog.globalNamed "telpher/hierarchy.reserved" = some 0 := by kernel_rfl
theorem tTrm : (Tryz.prog.globals[2]?).map (·.type) = some 80 := by kernel_rfl
theorem tHie : (Tryz.prog.globals[0]?).map (·.type) = some 80 := by kernel_rfl

/-- The variables that the statement lists. -/
def laidID {H : Type} : List (String × DataW H) := [("math/bits.deBruijn32tab", Rows.laid_math_bits_deBruijn32tab), ("math/bits.deBruijn64tab", Rows.laid_math_bits_deBruijn64tab), ("internal/strconv.uint64pow10", Rows.laid_internal_strconv_uint64pow10), ("strconv.ErrRange", Rows.laid_strconv_ErrRange), ("strconv.ErrSyntax", Rows.laid_strconv_ErrSyntax), ("telpher/typeterm.reserved", Rows.laid_telpher_typeterm_reserved), ("telpher/hierarchy.reserved", Rows.laid_telpher_hierarchy_reserved)]

theorem of_laidID {W : World} (h : laidMetH Tryz.prog laidID W) : TabAt W 2 wordsTyp ∧ TabAt W 0 wordsTyp := by
  rw [MakeChecks.laidMetH_plain _ _ _ (by kernel_rfl)] at h
  obtain ⟨ps, ⟨g0, t0, cs0, f0, p0, q0, hg0, ht0, hv0, hd0, ⟨g1, t1, cs1, f1, p1, q1, hg1, ht1, hv1, hd1, _, _⟩, _⟩, _, _⟩ := h.tail.tail.tail.tail.tail
  obtain rfl := Option.some.inj (gTrm.symm.trans hg0)
  obtain rfl := Option.some.inj (gHie.symm.trans hg1)
  obtain rfl := Option.some.inj (tTrm.symm.trans ht0)
  obtain rfl := Option.some.inj (tHie.symm.trans ht1)
  refine ⟨open_table (by decide) (by decide) (fun v e => by have := World.var?_cell hg0 hv0 0; rw [e] at this; simpa using this) hd0,
    open_table (by decide) (by decide) (fun v e => by have := World.var?_cell hg1 hv1 0; rw [e] at this; simpa using this) hd1⟩

/-- The door's own heap meets the condition. -/
theorem door_metID (os : Os) (args : Array Value) : laidMetH Tryz.prog laidID ((World.doorLaid Tryz.prog 77 os).forCall (fun _ _ => 0) ⟨#[], args, []⟩).memory :=
  laidMetH_of_parts3 (fuel := 8) (laidMet_of_run' 8 (by kernel_rfl) (by kernel_rfl)) (by kernel_rfl) (by kernel_rfl)

set_option maxRecDepth 100000 in
theorem lifted_depth (os : Os) (started : os.Started) (H : Type) (enc : TypeId × Value → H) :
    ReturnsInHanded {} Tryz.checked os 3 .any (fun w args => (Rows.interpDepthSpec.pre enc Tryz.prog Tryz.f3 [] false w args ∧ laidMetH Tryz.prog laidID w) ∧ sizedMet enc Tryz.prog Tryz.f3 (OpenSpec.ofChange Rows.interpDepthSpec) false w args)
      (Rows.interpDepthSpec.post enc Tryz.prog Tryz.f3 false true false false) := by
  refine returnsInHanded_of_change_and (C := Tryz.checked) (X := fun w _ => laidMetH Tryz.prog laidID w) (fun _ _ _ hh h => h.of_heap hh) own started (by kernel_rfl) Tryz.func3
    (ChangeSpec.witness_shaped (enc := enc) (C := Tryz.checked) (os := os) (X := fun w _ => laidMetH Tryz.prog laidID w) false (World.doorLaid Tryz.prog 77 os) #[.int .i64 0] 8 rfl (World.shaped_of_RefB (by kernel_rfl) (by kernel_rfl)) (by kernel_rfl) (by kernel_rfl) (by kernel_rfl) (door_metID os _)) ?_
  intro W base args ds gs before hval0 hW _ hsz hL _
  have hval : ∀ (j : Nat) t v, Tryz.f3.params[j]? = some t → args[j]? = some v → Value.okWide Tryz.prog W .any base t v := hval0
  have hW' := hW
  obtain ⟨p, q, hA0, hV, rfl, hfz, hnd⟩ := hW
  have hA : DataW.TrodAll enc Tryz.prog W 0 (fun _ => true) true Tryz.f3.params.toList args.toList ds p := hA0
  have hsz' : (DataW.weightsEach Tryz.prog (Tryz.f3.params.toList ++ Rows.interpDepthSpec.plain.varTypes Tryz.prog) (ds ++ gs)).all (· ≤ reachBytes) = true := hsz
  rw [Tryz.params3] at hA hval hsz'
  obtain ⟨v0, d0, rfl, rfl, h0⟩ := trodAll_one hA
  obtain ⟨rfl, rfl⟩ := trodVars_none hV
  obtain ⟨n, rfl, rfl, rfl, wn⟩ := open_int Tryz.underlying3 (hval 0 3 v0 rfl rfl) h0
  clear hA0 hval0
  refine (law_depth n W (of_laidID hL).1 (of_laidID hL).2).mono fun e W' ⟨he, bel⟩ => ?_
  subst he
  exact ⟨_, rfl, _, _, _, [], _, [], hW', trodAll_mk1 (shut_bool Tryz.underlying4 _), trodAll_mk1 (shut_int Tryz.underlying3 wn), rfl, bel.frame _, fun h => by cases h⟩

theorem interpDepth_row_holds : Rows.InterpDepthSaid :=
  OpenClaim.holds_of_wide 3 Tryz.f3 rfl rfl rfl rfl rfl rfl rfl ⟨rfl, rfl, rfl, rfl, rfl⟩ rfl rfl rfl rfl rfl (by kernel_rfl) Tryz.func3 row_facts
    (of_decide_eq_true (by kernel_rfl)) (by unfold Func.isWrapper; first | (rw [if_pos (by decide +kernel)]; kernel_rfl) | (rw [if_neg (by decide +kernel)]; exact ⟨rfl, rfl⟩))
    (fun os started H enc _ => lifted_depth os started H enc)

theorem interpDepth_holds : Rows.InterpDepthCardSaid :=
  Claim7.holds_tied_plain_at .later [] [.data, .data, .data, .sentinel, .sentinel, .widerDeep, .widerDeep] true (true, "bad5b20e560c9c8e6792b5cec5a494932d2ca2ccc55ab9e206178ec38865cfd2") true
    interpDepth_row_holds (fun _ h => by cases h) card_wf (fun _ h => by cases h) interpDepth_row_tie rfl ⟨rfl, rfl⟩ card_main rfl
    (fun f fn hf hfn => by
      obtain rfl : f = 3 := Option.some.inj (card_named.symm.trans hf) |>.symm
      obtain rfl : fn = Tryz.f3 := (Option.some.inj (Tryz.func3.symm.trans hfn)).symm
      exact ⟨card_looks, fun j t ht => by
        rw [Tryz.params3] at ht
        have hm : t ∈ [3] := by have := Array.mem_of_getElem? ht; simp at this ⊢; omega
        have hall : ([3].all fun u => !Tryz.prog.wantsStandIn u) = true := by kernel_rfl
        exact (show Tryz.prog.wantsStandIn t = false by simpa using List.all_eq_true.1 hall t hm)⟩)
    card_goes
end Go.Proofs.YtjaaajmiojigbaaGreatDoor
