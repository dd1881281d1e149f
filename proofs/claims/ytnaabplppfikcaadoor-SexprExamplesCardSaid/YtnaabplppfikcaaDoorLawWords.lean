/- The walk of SexprWords. -/
import Derived.Test.YtnaabplppfikcaaDoorRefPint
import Derived.Test.YtnaabplppfikcaaDoorCheck
import Derived.Test.YtnaabplppfikcaaDoorMade
namespace Go.Proofs.YtnaabplppfikcaaDoor
open Go.RowKit

theorem IsErr.grown {w w' : World} (h : IsErr w) (hg : w.grownBy w' none) : IsErr w' := by
  obtain ⟨ev, h1, h2⟩ := h
  exact ⟨ev, hg.cell h1 (by simp), h2⟩
theorem out_form (s : List UInt8) : ∃ v b, pintOut s = .tuple #[.int .i64 v, .bool b] := by
  unfold pintOut
  cases pint s with
  | none => exact ⟨_, _, rfl⟩
  | some v => exact ⟨_, _, rfl⟩

set_option maxRecDepth 100000 in
set_option maxHeartbeats 3200000 in
theorem law_words (w : World) (s : ByteArray) (n : Int) (hs : s.size ≤ 281474976710656) (n0 : -9223372036854775808 ≤ n) (n1 : n ≤ 9223372036854775807) (hv : IsErr w) :
    Calls Tryd.prog 8 #[.string s, .int .i64 n] w fun e w' => e = .returned (.bool true) ∧ Below w.heap.size w w' := by
  have HV := Lib.hid hv
  clear hv
  obtain ⟨v, b, hout⟩ := out_form (bytes s)
  have HO := Lib.hid hout
  have HN := Lib.hid (pint_itoa n n0 n1)
  obtain ⟨S, hS⟩ : ∃ S : ByteArray, ⟨(Lib.itoa n).toArray⟩ = S := ⟨_, rfl⟩
  have HSB : Hid (bytes S = Lib.itoa n) := by rw [← hS]; exact bytes_mk _
  have hSs : S.size ≤ 21 := by rw [← bytes_len, HSB.out]; exact itoa_short n n0 n1
  have HON : Hid (pintOut (bytes S) = .tuple #[.int .i64 n, .bool true]) := by show _ = _; rw [HSB.out, pintOut, HN.out]
  have HS := Lib.hid hS
  clear hout hS HN
  go_enter Tryd.func8, Tryd.ntmps8
  go_wp2_with fail
  refine (pint_any s hs _ HV.out).mono ?_
  rintro e W1 ⟨rfl, hb1⟩
  have B1 := Lib.hid (grown_of_below hb1)
  clear hb1
  rw [HO.out]
  go_wp2_with fail
  refine (rint_any s (by omega) _).mono ?_
  rintro e W1' ⟨rfl, rfl⟩
  rw [HO.out]
  go_wp2_with fail
  refine (digits_any n n0 n1 _).mono ?_
  rintro e W2 ⟨rfl, hg⟩
  have B2 := Lib.hid (B1.out.trans hg)
  clear hg
  rw [HS.out]
  go_wp2_with fail
  refine (pint_any S (by omega) _ (HV.out.grown B2.out)).mono ?_
  rintro e W3 ⟨rfl, hb1⟩
  have B3 := Lib.hid (B2.out.trans (grown_of_below hb1))
  clear hb1
  rw [HON.out]
  go_wp2_with fail
  refine (check_any _).mono ?_
  rintro e W4 ⟨rfl, hb1⟩
  have B4 := Lib.hid (B3.out.trans (grown_of_below hb1))
  clear hb1
  obtain ⟨I, hI⟩ : ∃ I, isIdent (bytes s) = I := ⟨_, rfl⟩
  have HI := Lib.hid hI
  clear hI
  cases b <;> cases I <;>
  (go_wp2_with fail
   refine (isIdent_any s (by omega) _).mono ?_
   rintro e W5 ⟨rfl, rfl⟩
   rw [HI.out]
   go_wp2_with fail
   refine (rIdent_any s (by omega) _).mono ?_
   rintro e W5 ⟨rfl, rfl⟩
   rw [HI.out]
   go_wp2_with fail
   go_ret
   exact ⟨rfl, below_grown B4.out⟩)
end Go.Proofs.YtnaabplppfikcaaDoor
