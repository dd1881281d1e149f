/- The walk of SexprExamples. -/
import Derived.Test.YtnaabplppfikcaaDoorLawWords
import Derived.Test.YtnaabplppfikcaaDoorFormat
namespace Go.Proofs.YtnaabplppfikcaaDoor
open Go.RowKit

def exKids : Fr := .cons 1 [97] .nil 0 (.cons 2 [34] .nil 0 .nil)
/-- Two nodes in a block of their own. -/
theorem rd_two {W : World} {b : Nat} {T : TypeId} {fr : Nat × Nat} (h : W.heap[b]? = some (.cells #[.int .i64 1, .string ⟨#[97]⟩, .slice none 0 0, .int .i64 0, .int .i64 2, .string ⟨#[34]⟩, .slice none 0 0, .int .i64 0] T fr)) :
    Rd W (fun x _ => x = b) 4 exKids.dat (.slice (some ⟨b, 0, none⟩) 2 2) := by
  refine ⟨[.int .i64 1, .string ⟨#[97]⟩, .slice none 0 0, .int .i64 0, .int .i64 2, .string ⟨#[34]⟩, .slice none 0 0, .int .i64 0], .inr ⟨b, 0, 2, 2, rfl, Nat.le_refl _, by unfold maxLen; omega, rfl, fun j u hu => ?_⟩, ?_⟩
  · refine ⟨rfl, ?_⟩
    rw [cell_of_row W _ _ _ _ _ h, Nat.zero_add]
    simpa using hu
  · exact ⟨_, rfl, _, rfl, _, [], _, rfl, .inl ⟨rfl, rfl⟩, rfl, _, rfl, _, rfl, _, rfl, _, [], _, rfl, .inl ⟨rfl, rfl⟩, rfl, _, rfl, rfl⟩

theorem ex1 : parse (bytes (⟨#[41]⟩ : ByteArray)) = .error (2, 0) := by rfl
theorem ex2 : parse (bytes (⟨#[40, 97]⟩ : ByteArray)) = .error (2, 2) := by rfl
theorem ex3 : parse (bytes (⟨#[97, 34, 98, 34, 99]⟩ : ByteArray)) = .ok (.cons 1 [97] .nil 0 (.cons 2 [98] .nil 1 (.cons 1 [99] .nil 4 .nil))) := by rfl
theorem ex4 : parse (bytes (⟨#[34, 97, 92, 110, 34]⟩ : ByteArray)) = .error (2, 2) := by rfl
theorem ex5 : fmtOut 0 [] .nil = .tuple #[.string ⟨#[]⟩, .int .i64 2] := by rfl
theorem ex6 : fmtOut 3 [] exKids = .tuple #[.string ⟨#[40, 97, 32, 34, 92, 34, 34, 41]⟩, .int .i64 0] := by rfl
theorem ex7 : pint (bytes (⟨#[45, 57, 50, 50, 51, 51, 55, 50, 48, 51, 54, 56, 53, 52, 55, 55, 53, 56, 48, 56]⟩ : ByteArray)) = some (-9223372036854775808) := by decide +kernel
theorem ex8 : pint (bytes (⟨#[45, 48]⟩ : ByteArray)) = none := by decide +kernel
theorem ex9 : isIdent (bytes (⟨#[120, 95, 49]⟩ : ByteArray)) = true := by decide +kernel
theorem ex10 : isIdent (bytes (⟨#[49, 120]⟩ : ByteArray)) = false := by decide +kernel
theorem ex11 : isIdent (bytes (⟨#[97, 45, 98]⟩ : ByteArray)) = false := by decide +kernel

theorem parse_fail {s : ByteArray} {w w' : World} {e : Ending} {k : Int} {o : Nat} (h : ParseDone s w e w') (hp : parse (bytes s) = .error (k, o)) : e = .returned (.tuple #[.slice none 0 0, .agg #[.int .i64 k, .int .i64 o]]) ∧ w.grownBy w' none := by
  obtain ⟨hb, h⟩ := h
  rw [hp] at h
  exact ⟨h, grown_of_below hb⟩

set_option maxRecDepth 100000 in
set_option maxHeartbeats 6400000 in
theorem law_examples (w : World) (hv : IsErr w) :
    Calls Tryd.prog 9 #[] w fun e w' => e = .returned (.bool true) ∧ Below w.heap.size w w' := by
  have HV := Lib.hid hv
  clear hv
  go_enter Tryd.func9, Tryd.ntmps9
  go_wp2_with fail
  refine (parse_any _ _ (by decide)).mono ?_
  intro e W1 hd
  obtain ⟨rfl, hg⟩ := parse_fail hd ex1
  have G1 := Lib.hid hg
  clear hd hg
  go_wp2_with fail
  obtain ⟨Y1, hY⟩ : ∃ Y, W1.alloc (.cells #[.int .i64 2, .int .i64 0] 33) = Y := ⟨_, rfl⟩
  have R1 : Hid (Y1.heap[W1.heap.size]? = some (.cells #[.int .i64 2, .int .i64 0] 33 (0, 0))) := by rw [← hY]; exact heap_alloc_new W1 _
  have K1 : Hid (w.grownBy Y1 none) := by rw [← hY]; exact G1.out.trans (World.grownBy_alloc _ _ _)
  obtain ⟨b1, hb⟩ : ∃ b, W1.heap.size = b := ⟨_, rfl⟩
  rw [hY]
  rw [hb] at R1 ⊢
  clear hY hb G1
  refine (parse_any _ _ (by decide)).mono ?_
  intro e W2 hd
  obtain ⟨rfl, hg⟩ := parse_fail hd ex2
  have G2 := Lib.hid hg
  clear hd hg
  go_wp2_with fail
  obtain ⟨Y2, hY⟩ : ∃ Y, W2.alloc (.cells #[.int .i64 2, .int .i64 2] 33) = Y := ⟨_, rfl⟩
  have R2 : Hid (Y2.heap[W2.heap.size]? = some (.cells #[.int .i64 2, .int .i64 2] 33 (0, 0))) := by rw [← hY]; exact heap_alloc_new W2 _
  have K2 : Hid (Y1.grownBy Y2 none) := by rw [← hY]; exact G2.out.trans (World.grownBy_alloc _ _ _)
  obtain ⟨b2, hb⟩ : ∃ b, W2.heap.size = b := ⟨_, rfl⟩
  rw [hY]
  rw [hb] at R2 ⊢
  clear hY hb G2
  refine (parse_any _ _ (by decide)).mono ?_
  intro e W3 hd
  obtain ⟨hb3, v3, F3, rfl, hr3⟩ : Below Y2.heap.size Y2 W3 ∧ ∃ v F, e = .returned (.tuple #[v, .agg #[.int .i64 0, .int .i64 0]]) ∧ Rd W3 F 4 (Fr.cons 1 [97] .nil 0 (.cons 2 [98] .nil 1 (.cons 1 [99] .nil 4 .nil))).dat v := by
    obtain ⟨hb, h⟩ := hd
    rw [ex3] at h
    exact ⟨hb, h⟩
  obtain ⟨qa, qn, qc, rfl⟩ := hr3.slice
  have hqn : qn = 3 := hr3.form.1
  subst hqn
  have G3 := Lib.hid (grown_of_below hb3)
  clear hd hb3 hr3
  go_wp2_with fail
  obtain ⟨Y3, hY⟩ : ∃ Y, W3.alloc (.cells #[.int .i64 0, .int .i64 0] 33) = Y := ⟨_, rfl⟩
  have R3 : Hid (Y3.heap[W3.heap.size]? = some (.cells #[.int .i64 0, .int .i64 0] 33 (0, 0))) := by rw [← hY]; exact heap_alloc_new W3 _
  have K3 : Hid (Y2.grownBy Y3 none) := by rw [← hY]; exact G3.out.trans (World.grownBy_alloc _ _ _)
  obtain ⟨b3, hb⟩ : ∃ b, W3.heap.size = b := ⟨_, rfl⟩
  rw [hY]
  rw [hb] at R3 ⊢
  clear hY hb G3
  refine (parse_any _ _ (by decide)).mono ?_
  intro e W4 hd
  obtain ⟨rfl, hg⟩ := parse_fail hd ex4
  have G4 := Lib.hid hg
  clear hd hg
  go_wp2_with fail
  obtain ⟨Y4, hY⟩ : ∃ Y, W4.alloc (.cells #[.int .i64 2, .int .i64 2] 33) = Y := ⟨_, rfl⟩
  have R4 : Hid (Y4.heap[W4.heap.size]? = some (.cells #[.int .i64 2, .int .i64 2] 33 (0, 0))) := by rw [← hY]; exact heap_alloc_new W4 _
  have K4 : Hid (Y3.grownBy Y4 none) := by rw [← hY]; exact G4.out.trans (World.grownBy_alloc _ _ _)
  obtain ⟨b4, hb⟩ : ∃ b, W4.heap.size = b := ⟨_, rfl⟩
  rw [hY]
  rw [hb] at R4 ⊢
  clear hY hb G4
  refine (format_any .nil (by decide) _ (fun _ _ => False) 0 0 [] none 0 0 (by decide) trivial (by decide) (Rd.nil _ _ _)).mono ?_
  rintro e W5 ⟨rfl, hg⟩
  rw [ex5]
  have G5 := Lib.hid hg
  clear hg
  go_wp2_with fail
  refine (format_any exKids (by decide) _ _ 3 0 [] (some ⟨W5.heap.size, 0, none⟩) 2 2 (by decide) ⟨by decide, trivial, by decide, trivial, trivial⟩ (by decide) (rd_two (heap_alloc_new W5 _))).mono ?_
  rintro e W6 ⟨rfl, hg⟩
  rw [ex6]
  have K6 : Hid (Y4.grownBy W6 none) := (G5.out.trans (World.grownBy_alloc _ _ _)).trans hg
  clear hg G5
  go_wp2_with fail
  refine (pint_any _ (by decide) _ (HV.out.grown ((((K1.out.trans K2.out).trans K3.out).trans K4.out).trans K6.out))).mono ?_
  rintro e W7 ⟨rfl, hb⟩
  rw [pintOut, ex7]
  have K7 : Hid (Y4.grownBy W7 none) := K6.out.trans (grown_of_below hb)
  clear hb K6
  go_wp2_with fail
  refine (pint_any _ (by decide) _ (HV.out.grown ((((K1.out.trans K2.out).trans K3.out).trans K4.out).trans K7.out))).mono ?_
  rintro e W8 ⟨rfl, hb⟩
  rw [pintOut, ex8]
  have K8 : Hid (Y4.grownBy W8 none) := K7.out.trans (grown_of_below hb)
  clear hb K7
  go_wp2_with fail
  refine (check_any _).mono ?_
  rintro e W9 ⟨rfl, hb⟩
  have K9 : Hid (Y4.grownBy W9 none) := K8.out.trans (grown_of_below hb)
  clear hb K8
  have r4 := (K9.out.block b4 (Array.getElem?_eq_some_iff.1 R4.out).1 (by simp)).trans R4.out
  have r3 := ((K4.out.trans K9.out).block b3 (Array.getElem?_eq_some_iff.1 R3.out).1 (by simp)).trans R3.out
  have r2 := (((K3.out.trans K4.out).trans K9.out).block b2 (Array.getElem?_eq_some_iff.1 R2.out).1 (by simp)).trans R2.out
  have r1 := ((((K2.out.trans K3.out).trans K4.out).trans K9.out).block b1 (Array.getElem?_eq_some_iff.1 R1.out).1 (by simp)).trans R1.out
  have c10 : W9.cell? ⟨b1, 0, none⟩ = some (.int .i64 2) := by rw [cell_of_row _ _ _ _ _ _ r1]; rfl
  have c11 : W9.cell? ⟨b1, 1, none⟩ = some (.int .i64 0) := by rw [cell_of_row _ _ _ _ _ _ r1]; rfl
  have c20 : W9.cell? ⟨b2, 0, none⟩ = some (.int .i64 2) := by rw [cell_of_row _ _ _ _ _ _ r2]; rfl
  have c21 : W9.cell? ⟨b2, 1, none⟩ = some (.int .i64 2) := by rw [cell_of_row _ _ _ _ _ _ r2]; rfl
  have c30 : W9.cell? ⟨b3, 0, none⟩ = some (.int .i64 0) := by rw [cell_of_row _ _ _ _ _ _ r3]; rfl
  have c40 : W9.cell? ⟨b4, 0, none⟩ = some (.int .i64 2) := by rw [cell_of_row _ _ _ _ _ _ r4]; rfl
  have c41 : W9.cell? ⟨b4, 1, none⟩ = some (.int .i64 2) := by rw [cell_of_row _ _ _ _ _ _ r4]; rfl
  clear r1 r2 r3 r4
  go_wp2_with fail
  refine (isIdent_any _ (by decide) _).mono ?_
  rintro e U ⟨rfl, rfl⟩
  rw [ex9]
  go_wp2_with fail
  refine (isIdent_any _ (by decide) _).mono ?_
  rintro e U ⟨rfl, rfl⟩
  rw [ex10]
  go_wp2_with fail
  refine (isIdent_any _ (by decide) _).mono ?_
  rintro e U ⟨rfl, rfl⟩
  rw [ex11]
  go_wp2_with fail
  go_ret
  exact ⟨rfl, below_grown ((((K1.out.trans K2.out).trans K3.out).trans K4.out).trans K9.out)⟩
end Go.Proofs.YtnaabplppfikcaaDoor
