/- For every string, sexpr.Parse returns the nodes or the fault of telref1.ParseNodes: SexprParse returns true and leaves its argument alone. No conditions. -/
import Derived.Test.YtnaabplppfikcaaRows
import Derived.Test.YtnaabplppfikcaaCheck
import Derived.Test.YtnaabplppfikcaaRefParse
import Derived.WalkKit
import Derived.ProofKit
import Derived.OpenShut
import Derived.ShutString
import Derived.ChangeOld
import Derived.Below
namespace Go.Proofs.Ytnaabplppfikcaa
open Go.ChangeShapes Go.WideShapes Go.ChangeAt Go.RowKit
open Go.ChangeMaps (open_string shut_string)

theorem own : ownKnob Try.prog.godebug = none := by kernel_rfl

/-- What Parse and ParseNodes hand back, in one form. -/
theorem ParseDone.form {s : ByteArray} {w w' : World} {e : Ending} (h : ParseDone s w e w') : ∃ (a : Option Addr) (n c : Nat) (k o : Int) (l : Fr) (F : Fixed), e = .returned (.tuple #[.slice a n c, .agg #[.int .i64 k, .int .i64 o]]) ∧ Rd w' F 4 l.dat (.slice a n c) ∧ Below w.heap.size w w' ∧
    (match parse (bytes s) with | .ok l' => l = l' ∧ k = 0 ∧ o = 0 | .error (k', o') => l = .nil ∧ k = k' ∧ o = o') := by
  obtain ⟨hb, h⟩ := h
  cases hp : parse (bytes s) with
  | ok l =>
    rw [hp] at h
    obtain ⟨v, F, rfl, hr⟩ := h
    obtain ⟨a, n, c, rfl⟩ := hr.slice
    exact ⟨a, n, c, 0, 0, l, F, rfl, hr, hb, rfl, rfl, rfl⟩
  | error x =>
    obtain ⟨k, o⟩ := x
    rw [hp] at h
    exact ⟨none, 0, 0, k, o, .nil, fun _ _ => False, h, Rd.nil _ _ _, hb, rfl, rfl, rfl⟩

set_option maxRecDepth 100000 in
set_option maxHeartbeats 1600000 in
theorem law_parse (s : ByteArray) (w : World) (hs : s.size ≤ 9223372036854775807) : Calls Try.prog 3 #[.string s] w fun e w' => e = .returned (.bool true) ∧ Below w.heap.size w w' := by
  go_enter Try.func3, Try.ntmps3
  go_wp2_with fail
  refine (parse_any s w hs).mono ?_
  intro e w1 hd1
  obtain ⟨a, n, c, k, o, l, F, rfl, hr1, hb1, hm1⟩ := hd1.form
  have A1 := Lib.hid hr1
  have A2 := Lib.hid hb1
  have A3 := Lib.hid hm1
  clear hd1 hr1 hb1 hm1
  go_wp2_with fail
  refine (rparseAny s _ hs).mono ?_
  intro e w2 hd2
  obtain ⟨a', n', c', k', o', l', F', rfl, hr2, hb2, hm2⟩ := hd2.form
  have hsame : l = l' ∧ k = k' ∧ o = o' := by
    have h1 := A3.out
    revert h1 hm2
    cases parse (bytes s) with
    | ok x => rintro ⟨rfl, rfl, rfl⟩ ⟨rfl, rfl, rfl⟩; exact ⟨rfl, rfl, rfl⟩
    | error x => rintro ⟨rfl, rfl, rfl⟩ ⟨rfl, rfl, rfl⟩; exact ⟨rfl, rfl, rfl⟩
  obtain ⟨rfl, rfl, rfl⟩ := hsame
  have hW1 : Below w1.heap.size w1 (w1.alloc (.cells #[.int .i64 k, .int .i64 o] 25)) := (Below.refl _ _).alloc (Nat.le_refl _) _
  have x0 : w2.cell? ⟨w1.heap.size, 0, none⟩ = some (.int .i64 k) := by rw [hb2.cell (by simp)]; simp
  have x1 : w2.cell? ⟨w1.heap.size, 1, none⟩ = some (.int .i64 o) := by rw [hb2.cell (by simp)]; simp
  have hz : w1.heap.size < w2.heap.size := by have := hb2.size; simp at this; omega
  have R1 := Lib.hid ((A1.out.below hW1).below hb2)
  have R2 := Lib.hid hr2
  have B2 : Hid (Below w.heap.size w w2) := A2.out.trans ((hW1.trans (hb2.mono (by simp))).mono A2.out.size)
  clear hd2 hr2 hb2 hm2 hW1 A1 A2 A3
  go_wp2_with fail
  refine (check_any _).mono ?_
  rintro e w3 ⟨rfl, hb3⟩
  have hW2 : Below w2.heap.size w2 (w2.alloc (.cells #[.int .i64 k, .int .i64 o] 25)) := (Below.refl _ _).alloc (Nat.le_refl _) _
  have y0 : w3.cell? ⟨w1.heap.size, 0, none⟩ = some (.int .i64 k) := by rw [hb3.cell (by simp; omega), hW2.cell hz]; exact x0
  have y1 : w3.cell? ⟨w1.heap.size, 1, none⟩ = some (.int .i64 o) := by rw [hb3.cell (by simp; omega), hW2.cell hz]; exact x1
  have z0 : w3.cell? ⟨w2.heap.size, 0, none⟩ = some (.int .i64 k) := by rw [hb3.cell (by simp)]; simp
  have z1 : w3.cell? ⟨w2.heap.size, 1, none⟩ = some (.int .i64 o) := by rw [hb3.cell (by simp)]; simp
  have R3 := Lib.hid ((R1.out.below hW2).below hb3)
  have R4 := Lib.hid ((R2.out.below hW2).below hb3)
  have B3 : Hid (Below w.heap.size w w3) := B2.out.trans ((hW2.trans (hb3.mono (by simp))).mono B2.out.size)
  clear hb3 hW2 R1 R2 B2 x0 x1
  go_wp2_with fail
  refine (fault_eq _ _ _).mono ?_
  rintro e w4 ⟨rfl, hb4⟩
  have R5 := Lib.hid (R3.out.below hb4)
  have R6 := Lib.hid (R4.out.below hb4)
  have B4 : Hid (Below w.heap.size w w4) := B3.out.trans (hb4.mono B3.out.size)
  clear hb4 R3 R4 B3 y0 y1 z0 z1
  go_wp2_with fail
  refine (same_eq _ l (Nat.le_refl _) w4 F F' _ _ R5.out R6.out).mono ?_
  rintro e w5 ⟨rfl, m, rfl⟩
  go_wp2_with fail
  go_ret
  exact ⟨rfl, B4.out.trans (Below.drewN' (m := m) rfl)⟩

set_option maxRecDepth 100000 in
theorem lifted_parse (os : Os) (started : os.Started) (H : Type) (enc : TypeId × Value → H) :
    ReturnsInHanded {} Try.checked os 3 .any (Rows.sexprParseSpec.pre6 enc Try.prog Try.f3 Rows.sexprParseRow.domain false) (Rows.sexprParseSpec.post enc Try.prog Try.f3 false true false false) := by
  refine returnsInHanded_of_change (C := Try.checked) own started (by kernel_rfl) Try.func3
    (ChangeSpec.witness6 (enc := enc) (C := Try.checked) false ⟨#[], #[.string ByteArray.empty], []⟩ 8 (by kernel_rfl) (by kernel_rfl) (by kernel_rfl) (by kernel_rfl)) ?_
  intro W base args ds gs before hval0 hW hcnd _
  have hval : ∀ (j : Nat) t v, Try.f3.params[j]? = some t → args[j]? = some v → Value.okWide Try.prog W .any base t v := hval0
  have hW' := hW
  obtain ⟨p, q, hA0, hV, rfl, hfz, hnd⟩ := hW
  have hA : DataW.TrodAll enc Try.prog W 0 (fun _ => true) true Try.f3.params.toList args.toList ds p := hA0
  rw [Try.params3] at hA hval
  obtain ⟨v0, vs0, d0, ds0, p0, q0, hargs, rfl, rfl, h0, r0⟩ := trodAll_cons hA
  obtain ⟨rfl, rfl, rfl⟩ := trodAll_nil r0
  obtain rfl : args = #[v0] := by cases args; simp_all
  obtain ⟨rfl, rfl⟩ := trodVars_none hV
  obtain ⟨a0, rfl, rfl, rfl, w0⟩ := open_string Try.underlying9 (hval 0 9 v0 rfl rfl) h0
  clear hA0 hval0
  refine (law_parse a0 W (by unfold maxLen at w0; omega)).mono fun e W' ⟨he, bel⟩ => ?_
  subst he
  exact ⟨_, rfl, _, _, _, [], _, [], hW', trodAll_mk1 (shut_bool Try.underlying4 _), (trodAll_cons_mk (shut_string Try.underlying9 w0) trodAll_mk0), rfl, bel.frame _, fun h => by cases h⟩

theorem over_parse : Rows.sexprParseRow.holds Try.pinned (OpenSpec.ofChange Rows.sexprParseSpec) :=
  OpenClaim.holds_of_wide 3 Try.f3 rfl rfl rfl rfl rfl rfl rfl ⟨rfl, rfl, rfl, rfl, rfl⟩ rfl rfl rfl rfl rfl (by kernel_rfl) Try.func3 (by kernel_rfl)
    (of_decide_eq_true (by kernel_rfl)) (by unfold Func.isWrapper; first | (rw [if_pos (by decide +kernel)]; kernel_rfl) | (rw [if_neg (by decide +kernel)]; exact ⟨rfl, rfl⟩))
    (fun os started H enc _ => lifted_parse os started H enc)

/-- The statement. -/
theorem sexprParse_holds : Rows.SexprParseSaid := over_parse
end Go.Proofs.Ytnaabplppfikcaa
