/- The walk of SexprPrefix. -/
import Derived.Test.YtnaabplppfikcaaDoorPrePure
import Derived.Test.YtnaabplppfikcaaDoorAny
import Derived.Test.YtnaabplppfikcaaDoorMade
import Derived.Test.YtnaabplppfikcaaDoorCheck
import Derived.Test.YtnaabplppfikcaaDoorMod
namespace Go.Proofs.YtnaabplppfikcaaDoor
open Go.RowKit

theorem ba_size (x : ByteArray) : x.size = (bytes x).length := (bytes_len x).symm
theorem bytes_take (s : ByteArray) (j : Nat) : bytes (s.extract 0 j) = (bytes s).take j := by rw [bytes_extract]; simp
theorem long3 {k o : Int} {t : List UInt8} {c : Fr} (h : Gen false (.cons k t c o .nil) 3) : (ntxt k t c).length ≤ 5000 ∧ ((Fr.cons k t c o .nil).join true).length ≤ 5000 := by
  have h1 := join_len _ 3 true h
  have h2 : long 3 = 2046 := by decide
  simp only [Fr.len, h2] at h1
  rw [join_one] at h1 ⊢
  omega

set_option maxRecDepth 100000 in
set_option maxHeartbeats 6400000 in
theorem law_prefix (w : World) (a0 a1 : Option Addr) (l0 l1 c0 c1 wb wo wc tb to tc : Nat) (cut : Int) (h0 : IntsAt w a0 l0) (h1 : IntsAt w a1 l1) (ht : Tabs w wb wo wc tb to tc) :
    Calls Tryd.prog 3 #[.slice a0 l0 c0, .slice a1 l1 c1, .int .i64 cut] w fun e w' => e = .returned (.bool true) ∧ Below w.heap.size w w' := by
  have H0 := Lib.hid h0
  have H1 := Lib.hid h1
  have HT := Lib.hid ht
  clear h0 h1 ht
  go_enter Tryd.func3, Tryd.ntmps3
  go_wp2_with fail
  refine (new_any w a0 l0 c0 H0.out).mono ?_
  rintro e W1 ⟨rfl, hs1, hg1, _⟩
  have S1 := Lib.hid hs1
  have G1 := Lib.hid hg1
  clear hs1 hg1
  go_wp2_with fail
  refine (any_any false 3 (by omega) 3 rfl W1 w.heap.size wb wo wc tb to tc S1.out (HT.out.grown0 G1.out) HT.out.free).mono ?_
  intro e W2 hd
  obtain ⟨ka, ta, ca, oa, aa, na, ma, Fa, rfl, hmade⟩ := made hd G1.out
  have MA := Lib.hid hmade
  clear hd hmade S1 G1
  go_wp2_with fail
  have hsmall : (Fr.cons ka ta ca oa .nil).size ≤ 2000 := by have := gen_small MA.out.2.1 (by omega); simp only [Fr.size]; omega
  have HSM := Lib.hid hsmall
  clear hsmall
  refine (fmt_any 2000 (by omega) (.cons ka ta ca oa .nil) HSM.out _ _ 3 0 [] _ _ _ (by have := (long3 MA.out.2.1).2; simp only [ntxt]; rw [if_neg (by decide), if_neg (by decide)]; simp; omega) (rd_one (heap_alloc_new W2 _) (MA.out.1.below ((Below.refl _ _).alloc (Nat.le_refl _) _)))).mono ?_
  rintro e W3 ⟨rfl, hg⟩
  have GW3 := Lib.hid (MA.out.2.2.trans ((World.grownBy_alloc _ _ _).trans hg))
  obtain ⟨SA, hSA⟩ : ∃ S : ByteArray, ⟨(ntxt 3 [] (.cons ka ta ca oa .nil)).toArray⟩ = S := ⟨_, rfl⟩
  have HSA : Hid (bytes SA = 40 :: ((Fr.cons ka ta ca oa .nil).join true ++ [41])) := by rw [← hSA]; show bytes _ = _; rw [bytes_mk]; simp [ntxt]
  rw [hSA]
  clear hSA hg
  go_wp2_with fail
  refine (new_any W3 a1 l1 c1 (H1.out.grown GW3.out)).mono ?_
  rintro e W4 ⟨rfl, hs1, hg1, _⟩
  have S1 := Lib.hid hs1
  have G1 := Lib.hid hg1
  clear hs1 hg1
  go_wp2_with fail
  have HT2 := Lib.hid (HT.out.grown0 GW3.out)
  refine (any_any false 3 (by omega) 3 rfl W4 W3.heap.size wb wo wc tb to tc S1.out (HT2.out.grown0 G1.out) HT2.out.free).mono ?_
  intro e W5 hd
  obtain ⟨kb, tb', cb, ob, ab, nb, mb, Fb, rfl, hmade⟩ := made hd G1.out
  have MB := Lib.hid hmade
  clear hd hmade S1 G1 HT HT2 H0 H1
  go_wp2_with fail
  refine (fmt_any 1000 (by omega) cb (gen_small MB.out.2.1 (by omega)) _ _ kb ob tb' _ _ _ (by have := (long3 MB.out.2.1).1; omega) MB.out.1).mono ?_
  rintro e W ⟨rfl, hg⟩
  have GW := Lib.hid (GW3.out.trans (MB.out.2.2.trans hg))
  obtain ⟨SB, hSB⟩ : ∃ S : ByteArray, ⟨(ntxt kb tb' cb).toArray⟩ = S := ⟨_, rfl⟩
  have HSB : Hid (bytes SB = ntxt kb tb' cb) := by rw [← hSB]; exact bytes_mk _
  rw [hSB]
  clear hSB hg
  have HGA := Lib.hid MA.out.2.1
  have HGB := Lib.hid MB.out.2.1
  obtain ⟨L, hL⟩ : ∃ L, ((Fr.cons ka ta ca oa .nil).join true).length = L := ⟨_, rfl⟩
  have HL := Lib.hid hL
  have hL5 : L ≤ 5000 := by rw [← hL]; exact (long3 HGA.out).2
  have hsz : SA.size = L + 2 := by rw [ba_size, HSA.out]; simp [hL]
  have hszB : SB.size ≤ 5000 := by rw [ba_size, HSB.out]; exact (long3 HGB.out).1
  clear hL MA MB GW3 HSM
  obtain ⟨j, hj⟩ : ∃ j : Nat, cut % ((L : Int) + 1) = (j : Int) := Int.eq_ofNat_of_zero_le (Int.emod_nonneg _ (by omega))
  have hjL : j < L + 1 := by have := Int.emod_lt_of_pos cut (b := (L : Int) + 1) (by omega); omega
  have HJ := Lib.hid hj
  clear hj
  have e1 : (SA.size : Int) = (L : Int) + 2 := by omega
  have w1 : IntKind.i64.wrap ((L : Int) + 1) = (L : Int) + 1 := wrap_i64 (by omega) (by omega)
  have w2 : IntKind.i64.wrap ((1 : Int) + (j : Int)) = (1 : Int) + (j : Int) := wrap_i64 (by omega) (by omega)
  have w3 : IntKind.i64.wrap ((L : Int) + 2 + 1) = (L : Int) + 2 + 1 := wrap_i64 (by omega) (by omega)
  have q0 : (0 : Int) ≤ 1 + (j : Int) := by omega
  have q1 : 1 + (j : Int) ≤ (L : Int) + 2 := by omega
  go_wp2_with fail
  refine (mod_any cut _ (by omega) (by omega) _).mono ?_
  rintro e X ⟨rfl, hX⟩
  subst hX
  rw [show (L : Int) + 2 - 1 = (L : Int) + 1 by omega, HJ.out]
  go_wp2_with fail
  have hsA : SA.size ≤ 5002 := by omega
  have hsA2 : (SA ++ (⟨#[32]⟩ : ByteArray)).size ≤ 5003 := by rw [← bytes_len, bytes_app]; simp only [List.length_append, bytes_len]; show _ + 1 ≤ _; omega
  have hx1 : (SA.extract 0 (1 + j)).size ≤ 5002 := by rw [← bytes_len, bytes_take, List.length_take, bytes_len]; omega
  have hp1 : ∃ o, parse (bytes (SA.extract 0 (1 + j))) = .error (2, o) := by
    rw [bytes_take, HSA.out]
    exact prefix_cut HGA.out (by omega) (by rw [HL.out]; omega) (by rw [HL.out]; omega)
  refine (parse_any (SA.extract 0 (1 + j)) W (by omega)).mono ?_
  intro e V hd
  obtain ⟨pa, pn, pc, pk, po, pl, PF, rfl, hr, hb, hm⟩ := hd.form
  obtain ⟨oo, hp1⟩ := hp1
  rw [hp1] at hm
  obtain ⟨rfl, rfl, rfl⟩ := hm
  have GV := Lib.hid (GW.out.trans (grown_of_below hb))
  clear hd hr hb hp1 hx1 HJ
  have hp2 : ∃ x1 x2, parse (bytes (SA ++ (⟨#[32]⟩ : ByteArray) ++ SB)) = .ok (.cons 3 [] x1 0 (.cons kb tb' x2 ((L + 3 : Nat) : Int) .nil)) := by
    rw [bytes_app, bytes_app, HSA.out, HSB.out, ← HL.out]
    exact prefix_two HGA.out (by omega) (by omega) HGB.out (by rw [HL.out]; omega) (by have := (long3 HGB.out).1; omega)
  have hx2 : (SA ++ (⟨#[32]⟩ : ByteArray) ++ SB).size ≤ 10003 := by rw [← bytes_len, bytes_app]; simp only [List.length_append, bytes_len]; omega
  go_wp2_with fail
  refine (parse_any _ _ (by omega)).mono ?_
  intro e V2 hd
  obtain ⟨qa, qn, qc, qk, qo, ql, QF, rfl, hr, hb, hm⟩ := hd.form
  obtain ⟨x1, x2, hp2⟩ := hp2
  rw [hp2] at hm
  obtain ⟨rfl, rfl, rfl⟩ := hm
  have f0 : V2.cell? ⟨V.heap.size, 0, none⟩ = some (.int .i64 2) := by rw [hb.cell (by simp)]; simp
  have hVlt : V.heap.size < V2.heap.size := by have := hb.size; simp at this; omega
  have GV2 := Lib.hid (GV.out.trans ((World.grownBy_alloc _ _ _).trans (grown_of_below hb)))
  have R2 := Lib.hid hr
  clear hd hr hb hp2 hx2
  go_wp2_with fail
  refine (check_any _).mono ?_
  rintro e V3 ⟨rfl, hb⟩
  have y0 : V3.cell? ⟨V.heap.size, 0, none⟩ = some (.int .i64 2) := by
    rw [hb.cell (by simp; omega), World.cell?_of_block (Below.heap_alloc _ _ _ hVlt)]; exact f0
  have y1 : V3.cell? ⟨V2.heap.size, 0, none⟩ = some (.int .i64 0) := by rw [hb.cell (by simp)]; simp
  have R3 := (R2.out.below ((Below.refl _ _).alloc (Nat.le_refl _) (.cells #[.int .i64 0, .int .i64 0] 33))).below hb
  have hqn := R3.form.1
  obtain ⟨xb, xo, xa, xn, xm, rfl, _, _, _, z3, _⟩ := R3.elem (i := 1) (k := kb) (t := tb') (c := x2) (o := ((L + 3 : Nat) : Int)) rfl
  simp only [Fr.len] at hqn
  subst hqn
  have z3' : V3.cell? ⟨xb, xo + 7, none⟩ = some (.int .i64 ((L : Int) + 3)) := by simpa using z3
  have GV3 := Lib.hid (GV2.out.trans ((World.grownBy_alloc _ _ _).trans (grown_of_below hb)))
  clear hb R3 z3 f0 R2
  have w4 : IntKind.i64.wrap ((L : Int) + 3) = (L : Int) + 3 := wrap_i64 (by omega) (by omega)
  go_wp2_with fail
  go_ret
  refine ⟨?_, below_grown GV3.out⟩
  have hfin : ((L : Int) + 3 == (L : Int) + 2 + 1) = true := beq_int_true (by omega)
  show Ending.returned (Value.bool ((L : Int) + 3 == (L : Int) + 2 + 1)) = _
  rw [hfin]
end Go.Proofs.YtnaabplppfikcaaDoor
