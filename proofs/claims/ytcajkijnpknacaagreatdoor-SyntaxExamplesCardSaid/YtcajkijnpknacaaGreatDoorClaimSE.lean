/- SyntaxExamples returns true: the faults of simple texts. It has no arguments. Conditions: none beyond those of the card: the package variables hold what the program's text lays. -/
import Derived.Test.YtcajkijnpknacaaGreatDoorLawSE
import Derived.Stop.LaidErr
import Derived.Test.YtcajkijnpknacaaGreatDoorTie
import Derived.Test.YtcajkijnpknacaaGreatDoorCards
namespace Go.Proofs.YtcajkijnpknacaaGreatDoor
open Go Go.ChangeShapes Go.WideShapes Go.ChangeAt Go.RowKit
open Go.ChangeMaps (open_string shut_string)

theorem own : ownKnob Tryz.prog.godebug = none := by kernel_rfl
theorem gTrm : Tryz.prog.globalNamed "telpher/typeterm.reserved" = some 4 := by kernel_rfl
theorem tTrm : (Tryz.prog.globals[4]?).map (·.type) = some 25 := by kernel_rfl
theorem gTtx : Tryz.prog.globalNamed "telpher/typetext.reserved" = some 7 := by kernel_rfl
theorem tTtx : (Tryz.prog.globals[7]?).map (·.type) = some 25 := by kernel_rfl
theorem gSyn : Tryz.prog.globalNamed "telpher/syntax.reserved" = some 0 := by kernel_rfl
theorem tSyn : (Tryz.prog.globals[0]?).map (·.type) = some 25 := by kernel_rfl

/-- The variables that the statement lists. -/
def laidSE {H : Type} : List (String × DataW H) := [("math/bits.deBruijn32tab", Rows.laid_math_bits_deBruijn32tab), ("math/bits.deBruijn64tab", Rows.laid_math_bits_deBruijn64tab), ("internal/strconv.uint64pow10", Rows.laid_internal_strconv_uint64pow10), ("strconv.ErrRange", Rows.laid_strconv_ErrRange), ("strconv.ErrSyntax", Rows.laid_strconv_ErrSyntax), ("telpher/typeterm.reserved", Rows.laid_telpher_typeterm_reserved), ("telpher/typetext.reserved", Rows.laid_telpher_typetext_reserved), ("telpher/syntax.primitiveNames", Rows.laid_telpher_syntax_primitiveNames), ("telpher/syntax.reserved", Rows.laid_telpher_syntax_reserved)]

theorem of_laidSE {W : World} (h : laidMetH Tryz.prog laidSE W) : TabAt W 4 wordsTyp ∧ TabAt W 7 wordsTyp ∧ TabAt W 0 wordsSyn := by
  rw [MakeChecks.laidMetH_plain _ _ _ (by kernel_rfl)] at h
  obtain ⟨ps, ⟨g0, t0, cs0, f0, p0, q0, hg0, ht0, hv0, hd0, ⟨g1, t1, cs1, f1, p1, q1, hg1, ht1, hv1, hd1, ⟨_, _, _, _, _, _, _, _, _, _, ⟨g2, t2, cs2, f2, p2, q2, hg2, ht2, hv2, hd2, _, _⟩, _⟩, _⟩, _⟩, _, _⟩ := h.tail.tail.tail.tail.tail
  obtain rfl := Option.some.inj (gTrm.symm.trans hg0)
  obtain rfl := Option.some.inj (gTtx.symm.trans hg1)
  obtain rfl := Option.some.inj (gSyn.symm.trans hg2)
  obtain rfl := Option.some.inj (tTrm.symm.trans ht0)
  obtain rfl := Option.some.inj (tTtx.symm.trans ht1)
  obtain rfl := Option.some.inj (tSyn.symm.trans ht2)
  exact ⟨open_table (by decide) (by decide) (fun v e => by have := World.var?_cell hg0 hv0 0; rw [e] at this; simpa using this) hd0,
    open_table (by decide) (by decide) (fun v e => by have := World.var?_cell hg1 hv1 0; rw [e] at this; simpa using this) hd1,
    open_table (by decide) (by decide) (fun v e => by have := World.var?_cell hg2 hv2 0; rw [e] at this; simpa using this) hd2⟩

/-- The door's own heap meets the condition. -/
theorem door_metSE (os : Os) (args : Array Value) : laidMetH Tryz.prog laidSE ((World.doorLaid Tryz.prog 77 os).forCall (fun _ _ => 0) ⟨#[], args, []⟩).memory :=
  laidMetH_of_parts3 (fuel := 8) (laidMet_of_run' 8 (by kernel_rfl) (by kernel_rfl)) (by kernel_rfl) (by kernel_rfl)

set_option maxRecDepth 100000 in
theorem lifted_examples (os : Os) (started : os.Started) (H : Type) (enc : TypeId × Value → H) :
    ReturnsInHanded {} Tryz.checked os 3 .any (fun w args => (Rows.syntaxExamplesSpec.pre enc Tryz.prog Tryz.f3 [] false w args ∧ laidMetH Tryz.prog laidSE w) ∧ sizedMet enc Tryz.prog Tryz.f3 (OpenSpec.ofChange Rows.syntaxExamplesSpec) false w args)
      (Rows.syntaxExamplesSpec.post enc Tryz.prog Tryz.f3 false true false false) := by
  refine returnsInHanded_of_change_and (C := Tryz.checked) (X := fun w _ => laidMetH Tryz.prog laidSE w) (fun _ _ _ hh h => h.of_heap hh) own started (by kernel_rfl) Tryz.func3
    (ChangeSpec.witness_shaped (enc := enc) (C := Tryz.checked) (os := os) (X := fun w _ => laidMetH Tryz.prog laidSE w) false (World.doorLaid Tryz.prog 77 os) #[] 8 rfl (World.shaped_of_RefB (by kernel_rfl) (by kernel_rfl)) (by kernel_rfl) (by kernel_rfl) (by kernel_rfl) (door_metSE os _)) ?_
  intro W base args ds gs before hval0 hW _ hsz hL _
  have hval : ∀ (j : Nat) t v, Tryz.f3.params[j]? = some t → args[j]? = some v → Value.okWide Tryz.prog W .any base t v := hval0
  have hW' := hW
  obtain ⟨p, q, hA0, hV, rfl, hfz, hnd⟩ := hW
  have hA : DataW.TrodAll enc Tryz.prog W 0 (fun _ => true) true Tryz.f3.params.toList args.toList ds p := hA0
  have hsz' : (DataW.weightsEach Tryz.prog (Tryz.f3.params.toList ++ Rows.syntaxExamplesSpec.plain.varTypes Tryz.prog) (ds ++ gs)).all (· ≤ reachBytes) = true := hsz
  rw [Tryz.params3] at hA hval hsz'
  obtain ⟨hargs, rfl, rfl⟩ := trodAll_nil hA
  obtain rfl : args = #[] := by cases args; simp_all
  obtain ⟨rfl, rfl⟩ := trodVars_none hV
  clear hA0 hval0
  refine (law_examples W (of_laidSE hL).1 (of_laidSE hL).2.1 (of_laidSE hL).2.2).mono fun e W' ⟨he, bel⟩ => ?_
  subst he
  exact ⟨_, rfl, _, _, _, [], _, [], hW', trodAll_mk1 (shut_bool Tryz.underlying4 _), trodAll_mk0, rfl, bel.frame _, fun h => by cases h⟩

theorem syntaxExamples_row_holds : Rows.SyntaxExamplesSaid :=
  OpenClaim.holds_of_wide 3 Tryz.f3 rfl rfl rfl rfl rfl rfl rfl ⟨rfl, rfl, rfl, rfl, rfl⟩ rfl rfl rfl rfl rfl (by kernel_rfl) Tryz.func3 (by kernel_rfl)
    (of_decide_eq_true (by kernel_rfl)) (by unfold Func.isWrapper; first | (rw [if_pos (by decide +kernel)]; kernel_rfl) | (rw [if_neg (by decide +kernel)]; exact ⟨rfl, rfl⟩))
    (fun os started H enc _ => lifted_examples os started H enc)

theorem syntaxExamples_holds : Rows.SyntaxExamplesCardSaid :=
  Claim7.holds_tied_plain_at .later [] [.data, .data, .data, .sentinel, .sentinel, .widerDeep, .widerDeep, .data, .widerDeep] true (true, "7d2b1d4b786b972f19724dbda4915ef721b16015f105e357285406e36ea7e7c5") true
    syntaxExamples_row_holds (fun _ h => by cases h) (by kernel_rfl) (fun _ h => by cases h) syntaxExamples_row_tie rfl ⟨rfl, rfl⟩ (by kernel_rfl) rfl
    (fun f fn hf hfn => by
      obtain rfl : f = 3 := Option.some.inj ((show Tryz.prog.funcNamed "telpher/tellaw18.SyntaxExamples" = some 3 by kernel_rfl).symm.trans hf) |>.symm
      obtain rfl : fn = Tryz.f3 := (Option.some.inj (Tryz.func3.symm.trans hfn)).symm
      exact ⟨(by kernel_rfl), fun j t ht => by
        rw [Tryz.params3] at ht
        simp at ht⟩)
    (by kernel_rfl)
end Go.Proofs.YtcajkijnpknacaaGreatDoor
