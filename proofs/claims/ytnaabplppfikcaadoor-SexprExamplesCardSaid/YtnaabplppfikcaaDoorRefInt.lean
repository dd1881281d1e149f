/- telref1.ParseInt, unsignedDigits, Digits, IsIdent. -/
import Derived.Test.YtnaabplppfikcaaDoorPint
namespace Go.Proofs.YtnaabplppfikcaaDoor
open Go.RowKit

theorem valFrom_take {s : ByteArray} {i : Nat} (hi : i < s.size) : valFrom 0 ((bytes s).take (i + 1)) = valFrom 0 ((bytes s).take i) * 10 + (s[i].toNat - 48) := by
  have hl : i < (bytes s).length := by rw [bytes_len]; exact hi
  rw [List.take_succ_eq_append_getElem hl, valFrom_app, valFrom_cons, valFrom_nil]
  rfl
theorem valFrom_lt {s : ByteArray} {i : Nat} (h : allB digitB ((bytes s).take i) = true) : valFrom 0 ((bytes s).take i) < 10 ^ i := by
  have h1 := valFrom_le ((bytes s).take i) (allB_mem.1 h) 0
  refine Nat.lt_of_lt_of_le h1 ?_
  rw [Nat.zero_add, Nat.one_mul]
  exact Nat.pow_le_pow_right (by omega) (List.length_take_le _ _)

/-- One byte as a text. -/
theorem conv_one (w : World) (u : Nat) : (convert 69 9 (.slice (some ⟨w.heap.size, 0, none⟩) 1 1)).run Tryd.prog (w.alloc (.cells #[.int .u8 (48 + (u : Int) % 10)] 5)) = .ok (.string ⟨#[UInt8.ofNat (48 + u % 10)]⟩) (w.alloc (.cells #[.int .u8 (48 + (u : Int) % 10)] 5)) :=
  run_convert_bytes_back _ _ _ _ ⟨w.heap.size, 0, none⟩ 1 [UInt8.ofNat (48 + u % 10)] Tryd.underlying69 Tryd.underlying5 Tryd.underlying9 fun j hj => by
    have hj0 : j = 0 := by simp at hj; omega
    subst hj0
    rw [show (⟨w.heap.size, 0, none⟩ : Addr).add 0 = ⟨w.heap.size, 0, none⟩ from rfl, cell_of_row _ _ _ _ _ _ (heap_alloc_new w _)]
    have h2 : ∀ k, k < 10 → ((UInt8.ofNat (48 + k)).toNat : Int) = 48 + (k : Int) := by decide
    simp only [List.getElem_cons_zero]
    rw [h2 _ (Nat.mod_lt _ (by omega))]
    simp

def UDig (u : Nat) : Prop := ∀ (z : Int), z = (u : Int) → ∀ (w : World),
    Calls Tryd.prog 46 #[.int .u64 z] w fun e w' => e = .returned (.string ⟨(Lib.decDigits u).toArray⟩) ∧ w.grownBy w' none

set_option maxRecDepth 100000 in
set_option maxHeartbeats 1600000 in
theorem unsignedDigits_step (u : Nat) (h64 : u < 18446744073709551616) (ih : Hid (10 ≤ u → UDig (u / 10))) : UDig u := by
  intro z hz w
  subst hz
  have hcv := conv_one w u
  have HS := Lib.hid (decDigits_step u)
  obtain ⟨S, hS⟩ : ∃ S : ByteArray, ⟨#[UInt8.ofNat (48 + u % 10)]⟩ = S := ⟨_, rfl⟩
  have HSB : Hid (bytes S = [UInt8.ofNat (48 + u % 10)]) := by rw [← hS]; exact rfl
  rw [hS] at hcv
  clear hS
  by_cases h10 : u < 10
  · have i1 : (u : Int) < 10 := by omega
    have HS2 : Hid (S = ⟨(Lib.decDigits u).toArray⟩) := ba_of_bytes (HSB.out.trans ((by rw [HS.out, if_pos h10, Nat.mod_eq_of_lt h10] : [UInt8.ofNat (48 + u % 10)] = Lib.decDigits u).trans (bytes_mk _).symm))
    clear HS ih
    go_enter Tryd.func46, Tryd.ntmps46
    go_wp2_with fail
    go_ret
    exact ⟨by rw [← HS2.out]; rfl, World.grownBy_alloc _ _ _⟩
  · have i1 : ¬ (u : Int) < 10 := by omega
    have HS2 : Hid ((⟨(Lib.decDigits (u / 10)).toArray⟩ : ByteArray) ++ S = ⟨(Lib.decDigits u).toArray⟩) := ba_of_bytes ((bytes_app _ _).trans ((by rw [HSB.out, HS.out, if_neg h10]; rfl : bytes (⟨(Lib.decDigits (u / 10)).toArray⟩ : ByteArray) ++ bytes S = Lib.decDigits u).trans (bytes_mk _).symm))
    clear HS
    obtain ⟨T, hT⟩ : ∃ T : ByteArray, ⟨(Lib.decDigits (u / 10)).toArray⟩ = T := ⟨_, rfl⟩
    have hsz : T.size ≤ 20 := by rw [← hT]; show (Lib.decDigits (u / 10)).toArray.size ≤ 20; rw [List.size_toArray, Lib.decDigits_length]; exact Lib.nDigits_le20 _ (by omega)
    have hss : S.size ≤ 1 := by rw [← bytes_len, HSB.out]; exact Nat.le_refl _
    have HT := Lib.hid hT
    clear hT
    go_enter Tryd.func46, Tryd.ntmps46
    go_wp2_with fail
    refine (ih.out (by omega) _ (by omega) _).mono ?_
    rintro e W ⟨rfl, hg⟩
    have HG := Lib.hid hg
    clear hg
    rw [HT.out]
    go_wp2_with fail
    go_ret
    exact ⟨by rw [← HS2.out, HT.out]; rfl, (World.grownBy_alloc _ _ _).trans HG.out⟩
theorem unsignedDigits_any (u : Nat) (h64 : u < 18446744073709551616) : UDig u := by
  induction u using Nat.strongRecOn with
  | _ u ih => exact unsignedDigits_step u h64 (Lib.hid fun h => ih (u / 10) (by omega) (by omega))

set_option maxRecDepth 100000 in
set_option maxHeartbeats 800000 in
/-- telref1.Digits. -/
theorem digits_any (n : Int) (h0 : -9223372036854775808 ≤ n) (h1 : n ≤ 9223372036854775807) (w : World) :
    Calls Tryd.prog 29 #[.int .i64 n] w fun e w' => e = .returned (.string ⟨(Lib.itoa n).toArray⟩) ∧ w.grownBy w' none := by
  by_cases hn : n < 0
  · have HI : Hid ((⟨#[45]⟩ : ByteArray) ++ ⟨(Lib.decDigits n.natAbs).toArray⟩ = ⟨(Lib.itoa n).toArray⟩) := ba_of_bytes ((bytes_app _ _).trans ((by rw [Lib.itoa, if_pos hn]; rfl : (bytes (⟨#[45]⟩ : ByteArray)) ++ bytes (⟨(Lib.decDigits n.natAbs).toArray⟩ : ByteArray) = Lib.itoa n).trans (bytes_mk _).symm))
    obtain ⟨T, hT⟩ : ∃ T : ByteArray, ⟨(Lib.decDigits n.natAbs).toArray⟩ = T := ⟨_, rfl⟩
    have hsz : T.size ≤ 20 := by rw [← hT]; show (Lib.decDigits n.natAbs).toArray.size ≤ 20; rw [List.size_toArray, Lib.decDigits_length]; exact Lib.nDigits_le20 _ (by omega)
    have HT := Lib.hid hT
    have HI2 : Hid ((⟨#[45]⟩ : ByteArray) ++ T = ⟨(Lib.itoa n).toArray⟩) := by rw [← hT]; exact HI.out
    clear hT HI
    have hw : IntKind.u64.wrap (-IntKind.u64.wrap n) = (n.natAbs : Int) := by
      have e1 : IntKind.u64.wrap n = n + 18446744073709551616 := by simp [IntKind.wrap, IntKind.bits, IntKind.signed]; omega
      rw [e1]
      simp [IntKind.wrap, IntKind.bits, IntKind.signed]; omega
    go_enter Tryd.func29, Tryd.ntmps29
    go_wp2_with fail
    refine (unsignedDigits_any n.natAbs (by omega) _ rfl _).mono ?_
    rintro e W ⟨rfl, hg⟩
    have HG := Lib.hid hg
    clear hg
    rw [HT.out]
    go_wp2_with fail
    go_ret
    refine ⟨?_, HG.out⟩
    rw [← HI2.out]
    generalize (⟨#[45]⟩ : ByteArray) ++ T = R
    rfl
  · have HI : Hid (Lib.decDigits n.toNat = Lib.itoa n) := by show _ = _; rw [Lib.itoa, if_neg hn]
    go_enter Tryd.func29, Tryd.ntmps29
    go_wp2_with fail
    refine (unsignedDigits_any n.toNat (by omega) _ (by omega) _).mono ?_
    rintro e W ⟨rfl, hg⟩
    have HG := Lib.hid hg
    clear hg
    go_wp2_with fail
    go_ret
    exact ⟨by rw [← HI.out]; rfl, HG.out⟩

set_option maxRecDepth 100000 in
set_option maxHeartbeats 1600000 in
/-- telref1.IsIdent. -/
theorem rIdent_any (s : ByteArray) (hs : s.size ≤ 9223372036854775807) (w : World) : Calls Tryd.prog 31 #[.string s] w fun e w' => e = .returned (.bool (isIdent (bytes s))) ∧ w = w' := by
  by_cases h0 : s.size = 0
  · have hb : bytes s = [] := List.eq_nil_of_length_eq_zero (by rw [bytes_len]; exact h0)
    have i0 : (s.size : Int) < 1 := by omega
    have HO : Hid (isIdent (bytes s) = false) := by show _ = _; rw [hb]; rfl
    go_enter Tryd.func31, Tryd.ntmps31
    go_wp2_with fail
    go_ret
    exact ⟨by rw [HO.out]; rfl, rfl⟩
  · have hpos : 0 < s.size := by omega
    have i0 : ¬ (s.size : Int) < 1 := by omega
    have i00 : (0 : Int) < (s.size : Int) := by omega
    have HE : Hid (isIdent (bytes s) = (decide (s.size ≤ 24) && letterB (s[0].toNat : Int) && allB identB (bytes s))) := by
      show _ = _
      cases hb : bytes s with
      | nil => have := bytes_len s; rw [hb] at this; simp at this; omega
      | cons c r =>
        have hc : s[0] = c := by
          have h1 : (bytes s)[0]'(by rw [hb]; simp) = c := by simp [hb]
          exact h1
        rw [isIdent, hc, ← bytes_len, hb]
        rfl
    by_cases h24 : s.size ≤ 24
    · have i1 : ¬ (24 : Int) < (s.size : Int) := by omega
      cases hlet : letterB (s[0].toNat : Int)
      · have HL := Lib.hid hlet
        clear hlet
        go_enter Tryd.func31, Tryd.ntmps31
        go_wp2_with fail
        refine (ref_letter_any _ _).mono ?_
        rintro e w' ⟨rfl, rfl⟩
        rw [HL.out]
        go_wp2_with fail
        go_ret
        exact ⟨by rw [HE.out, HL.out, Bool.and_false, Bool.false_and]; rfl, rfl⟩
      · have HL := Lib.hid hlet
        clear hlet
        have HE2 : Hid (isIdent (bytes s) = allB identB (bytes s)) := by show _ = _; rw [HE.out, HL.out, decide_eq_true h24]; rfl
        clear HE
        go_enter Tryd.func31, Tryd.ntmps31
        go_wp2_with fail
        refine (ref_letter_any _ _).mono ?_
        rintro e w' ⟨rfl, rfl⟩
        rw [HL.out]
        go_wp2_with fail
        go_loopg [3] s.size (fun k v wr => ∃ i : Nat, k = s.size - i ∧ i ≤ s.size ∧ v = .int .i64 i ∧ wr = w ∧ allB identB ((bytes s).take i) = true)
        case atStart => exact ⟨0, rfl, Nat.zero_le _, rfl, rfl, rfl⟩
        case round =>
          obtain ⟨i, hk, hi, rfl, rfl, hall⟩ := hrel
          have A1 := Lib.hid hk
          have A2 := Lib.hid hall
          clear hk hall
          have j0 : (0 : Int) ≤ (i : Int) := by omega
          by_cases hlt : i < s.size
          · have j1 : (i : Int) < (s.size : Int) := by omega
            have hwi : IntKind.i64.wrap ((i : Int) + 1) = (i : Int) + 1 := wrap_i64 (by omega) (by omega)
            have HTk := Lib.hid (allB_take (p := identB) hlt A2.out)
            cases hp : wordB (s[i].toNat : Int)
            · have HW := Lib.hid hp
              have HP : Hid (allB identB (bytes s) = false) := allB_false (HTk.out.trans (by rw [identB, hp, Bool.and_false]))
              clear hp
              go_wp2_with fail
              refine (ref_wordByte_any _ _).mono ?_
              rintro e w' ⟨rfl, rfl⟩
              rw [HW.out]
              go_wp2_with fail
              go_ret
              exact ⟨by rw [HE2.out, HP.out]; rfl, rfl⟩
            · have HW := Lib.hid hp
              cases hq : ((s[i].toNat : Int) == 45)
              · have HP : Hid (allB identB ((bytes s).take (i + 1)) = true) := HTk.out.trans (by rw [identB, hp, bne, hq]; rfl)
                clear hp
                go_wp2_with fail
                refine (ref_wordByte_any _ _).mono ?_
                rintro e w' ⟨rfl, rfl⟩
                rw [HW.out]
                go_wp2_with fail
                go_roundg (s.size - (i + 1))
                case measure => have := A1.out; omega
                case rel => exact ⟨i + 1, rfl, by omega, by go_num, rfl, HP.out⟩
              · have HP : Hid (allB identB (bytes s) = false) := allB_false (HTk.out.trans (by rw [identB, bne, hq]; rfl))
                clear hp
                go_wp2_with fail
                refine (ref_wordByte_any _ _).mono ?_
                rintro e w' ⟨rfl, rfl⟩
                rw [HW.out]
                go_wp2_with fail
                go_ret
                exact ⟨by rw [HE2.out, HP.out]; rfl, rfl⟩
          · have hin : i = s.size := by omega
            have j1 : ¬ (i : Int) < (s.size : Int) := by omega
            have HP : Hid (allB identB (bytes s) = true) := by
              have := A2.out
              rwa [hin, List.take_of_length_le (by rw [bytes_len]; exact Nat.le_refl _)] at this
            clear hin
            go_wp2_with fail
            go_ret
            exact ⟨by rw [HE2.out, HP.out]; rfl, rfl⟩
    · have i1 : (24 : Int) < (s.size : Int) := by omega
      have HO : Hid (isIdent (bytes s) = false) := by show _ = _; rw [HE.out, decide_eq_false h24]; rfl
      clear HE
      go_enter Tryd.func31, Tryd.ntmps31
      go_wp2_with fail
      go_ret
      exact ⟨by rw [HO.out]; rfl, rfl⟩
end Go.Proofs.YtnaabplppfikcaaDoor
