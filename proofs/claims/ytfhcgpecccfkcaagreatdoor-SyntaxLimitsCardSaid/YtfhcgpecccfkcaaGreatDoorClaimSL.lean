/- SyntaxLimits returns true for every two integers: the limits on packages, tasks, forms and arguments hold exactly. Conditions: none beyond those of the card: the package variables hold what the program's text lays. -/
import Derived.Test.YtfhcgpecccfkcaaGreatDoorLawSL
import Derived.Stop.LaidErr
import Derived.Test.YtfhcgpecccfkcaaGreatDoorTie
import Derived.Test.YtfhcgpecccfkcaaGreatDoorCards
namespace Go.Proofs.YtfhcgpecccfkcaaGreatDoor
open Go.ChangeShapes Go.WideShapes Go.ChangeAt Go.RowKit
open Go.ChangeMaps (open_string shut_string)

theorem own : ownKnob Tryz.prog.godebug = none := by kernel_rfl
theorem gSyn : Tryz.prog.globalNamed "telpher/syntax.reserved" = some 0 := by kernel_rfl
theorem gTtx : Tryz.prog.globalNamed "telpher/typetext.reserved" = some 3 := by kernel_rfl
theorem gTrm : Tryz.prog.globalNamed "telpher/typeterm.reserved" = some 2 := by kernel_rfl
theorem tSyn : (Tryz.prog.globals[0]?).map (·.type) = some 42 := by kernel_rfl
theorem tTtx : (Tryz.prog.globals[3]?).map (·.type) = some 42 := by kernel_rfl
theorem tTrm : (Tryz.prog.globals[2]?).map (·.type) = some 42 := by kernel_rfl

/-- The variables that the statement lists. -/
def laidSL {H : Type} : List (String × DataW H) := [("math/bits.deBruijn32tab", Rows.laid_math_bits_deBruijn32tab), ("math/bits.deBruijn64tab", Rows.laid_math_bits_deBruijn64tab), ("internal/strconv.uint64pow10", Rows.laid_internal_strconv_uint64pow10), ("strconv.ErrRange", Rows.laid_strconv_ErrRange), ("strconv.ErrSyntax", Rows.laid_strconv_ErrSyntax), ("telpher/typeterm.reserved", Rows.laid_telpher_typeterm_reserved), ("telpher/typetext.reserved", Rows.laid_telpher_typetext_reserved), ("telpher/syntax.reserved", Rows.laid_telpher_syntax_reserved)]

theorem of_laidSL {W : World} (h : laidMetH Tryz.prog laidSL W) : TabAt W 0 wordsSyn ∧ TabAt W 3 wordsTyp ∧ TabAt W 2 wordsTyp := by
  rw [MakeChecks.laidMetH_plain _ _ _ (by kernel_rfl)] at h
  obtain ⟨ps, ⟨g0, t0, cs0, f0, p0, q0, hg0, ht0, hv0, hd0, ⟨g1, t1, cs1, f1, p1, q1, hg1, ht1, hv1, hd1, ⟨g2, t2, cs2, f2, p2, q2, hg2, ht2, hv2, hd2, _, _⟩, _⟩, _⟩, _, _⟩ := h.tail.tail.tail.tail.tail
  obtain rfl := Option.some.inj (gTrm.symm.trans hg0)
  obtain rfl := Option.some.inj (gTtx.symm.trans hg1)
  obtain rfl := Option.some.inj (gSyn.symm.trans hg2)
  obtain rfl := Option.some.inj (tTrm.symm.trans ht0)
  obtain rfl := Option.some.inj (tTtx.symm.trans ht1)
  obtain rfl := Option.some.inj (tSyn.symm.trans ht2)
  refine ⟨open_table (by decide) (by decide) (by decide) (fun v e => by have := World.var?_cell hg2 hv2 0; rw [e] at this; simpa using this) hd2,
    open_table (by decide) (by decide) (by decide) (fun v e => by have := World.var?_cell hg1 hv1 0; rw [e] at this; simpa using this) hd1,
    open_table (by decide) (by decide) (by decide) (fun v e => by have := World.var?_cell hg0 hv0 0; rw [e] at this; simpa using this) hd0⟩

/-- The door's own heap meets the condition. -/
theorem door_metSL (os : Os) (args : Array Value) : laidMetH Tryz.prog laidSL ((World.doorLaid Tryz.prog 77 os).forCall (fun _ _ => 0) ⟨#[], args, []⟩).memory :=
  laidMetH_of_parts3 (fuel := 8) (laidMet_of_run' 8 (by kernel_rfl) (by kernel_rfl)) (by kernel_rfl) (by kernel_rfl)

set_option maxRecDepth 100000 in
theorem lifted_syntaxLimits (os : Os) (started : os.Started) (H : Type) (enc : TypeId × Value → H) :
    ReturnsInHanded {} Tryz.checked os 3 .any (fun w args => (Rows.syntaxLimitsSpec.pre enc Tryz.prog Tryz.f3 [] false w args ∧ laidMetH Tryz.prog laidSL w) ∧ sizedMet enc Tryz.prog Tryz.f3 (OpenSpec.ofChange Rows.syntaxLimitsSpec) false w args)
      (Rows.syntaxLimitsSpec.post enc Tryz.prog Tryz.f3 false true false false) := by
  refine returnsInHanded_of_change_and (C := Tryz.checked) (X := fun w _ => laidMetH Tryz.prog laidSL w) (fun _ _ _ hh h => h.of_heap hh) own started (by kernel_rfl) Tryz.func3
    (ChangeSpec.witness_shaped (enc := enc) (C := Tryz.checked) (os := os) (X := fun w _ => laidMetH Tryz.prog laidSL w) false (World.doorLaid Tryz.prog 77 os) #[.int .i64 0, .int .i64 0] 8 rfl (World.shaped_of_RefB (by kernel_rfl) (by kernel_rfl)) (by kernel_rfl) (by kernel_rfl) (by kernel_rfl) (door_metSL os _)) ?_
  intro W base args ds gs before hval0 hW _ hsz hL _
  have hval : ∀ (j : Nat) t v, Tryz.f3.params[j]? = some t → args[j]? = some v → Value.okWide Tryz.prog W .any base t v := hval0
  have hW' := hW
  obtain ⟨p, q, hA0, hV, rfl, hfz, hnd⟩ := hW
  have hA : DataW.TrodAll enc Tryz.prog W 0 (fun _ => true) true Tryz.f3.params.toList args.toList ds p := hA0
  rw [Tryz.params3] at hA hval
  obtain ⟨v0, v1, d0, d1, p0, p1, rfl, rfl, rfl, h0, h1⟩ := trodAll_two hA
  obtain ⟨rfl, rfl⟩ := trodVars_none hV
  obtain ⟨x0, rfl, rfl, rfl, w0⟩ := open_int Tryz.underlying3 (hval 0 3 v0 rfl rfl) h0
  obtain ⟨x1, rfl, rfl, rfl, w1⟩ := open_int Tryz.underlying3 (hval 1 3 v1 rfl rfl) h1
  clear hA0 hval0 hsz
  obtain ⟨k1, k2, k3⟩ := of_laidSL hL
  refine (law_limits x0 x1 W k1 k2 k3).mono fun e W' ⟨he, bel⟩ => ?_
  subst he
  exact ⟨_, rfl, _, _, _, [], _, [], hW', trodAll_mk1 (shut_bool Tryz.underlying4 _), trodAll_mk2 (shut_int Tryz.underlying3 w0) (shut_int Tryz.underlying3 w1), rfl, bel.frame _, fun h => by cases h⟩

theorem syntaxLimits_row_holds : Rows.SyntaxLimitsSaid :=
  OpenClaim.holds_of_wide 3 Tryz.f3 rfl rfl rfl rfl rfl rfl rfl ⟨rfl, rfl, rfl, rfl, rfl⟩ rfl rfl rfl rfl rfl (by kernel_rfl) Tryz.func3 (by kernel_rfl)
    (of_decide_eq_true (by kernel_rfl)) (by unfold Func.isWrapper; first | (rw [if_pos (by decide +kernel)]; kernel_rfl) | (rw [if_neg (by decide +kernel)]; exact ⟨rfl, rfl⟩))
    (fun os started H enc _ => lifted_syntaxLimits os started H enc)

theorem syntaxLimits_holds : Rows.SyntaxLimitsCardSaid :=
  Claim7.holds_tied_plain_at .later [] [.data, .data, .data, .sentinel, .sentinel, .widerDeep, .widerDeep, .widerDeep] true (true, "57c201a3f2e2b4595fa73e6fb9af61aef3fb7b1f69246a78424b26a2f05c94fe") true
    syntaxLimits_row_holds (fun _ h => by cases h) (by kernel_rfl) (fun _ h => by cases h) syntaxLimits_row_tie rfl ⟨rfl, rfl⟩ (by kernel_rfl) rfl
    (fun f fn hf hfn => by
      obtain rfl : f = 3 := Option.some.inj ((show Tryz.prog.funcNamed "telpher/tellaw18.SyntaxLimits" = some 3 by kernel_rfl).symm.trans hf) |>.symm
      obtain rfl : fn = Tryz.f3 := (Option.some.inj (Tryz.func3.symm.trans hfn)).symm
      exact ⟨by kernel_rfl, fun j t ht => by
        rw [Tryz.params3] at ht
        have hm : t ∈ [3] := by have := Array.mem_of_getElem? ht; simp at this ⊢; omega
        have hall : ([3].all fun u => !Tryz.prog.wantsStandIn u) = true := by kernel_rfl
        exact (show Tryz.prog.wantsStandIn t = false by simpa using List.all_eq_true.1 hall t hm)⟩)
    (by kernel_rfl)
end Go.Proofs.YtfhcgpecccfkcaaGreatDoor
