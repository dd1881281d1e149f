/- sexpr.ParseInt. -/
import Derived.Test.YtnaabplppfikcaaDoorNum
import Derived.Test.YtnaabplppfikcaaDoorValid
import Derived.Test.YtnaabplppfikcaaDoorShelfN
namespace Go.Proofs.YtnaabplppfikcaaDoor
open Go.RowKit

theorem enter_digit (args : Array Value) (w : World) : (callFunc 43 args).run Tryd.prog w = .ok (.enter 43 args) w := by kernel_rfl
/-- The text behind the sign. -/
def magnS (s : ByteArray) : ByteArray := ⟨(magn (bytes s)).toArray⟩
theorem trim_magn (s : ByteArray) : (⟨(Lib.trimPrefix s.data.toList (⟨#[45]⟩ : ByteArray).data.toList).toArray⟩ : ByteArray) = magnS s := by
  unfold magnS bytes
  congr 2
  cases h : s.data.toList with
  | nil => rfl
  | cons c r =>
    rw [magn_cons]
    by_cases hc : c = 45
    · subst hc; simp [Lib.trimPrefix, Lib.hasPrefix]
    · simp [Lib.trimPrefix, Lib.hasPrefix, hc, Ne.symm hc]
theorem bytes_magnS (s : ByteArray) : bytes (magnS s) = magn (bytes s) := bytes_mk _

def pintOut (s : List UInt8) : Value := match pint s with
  | some v => .tuple #[.int .i64 v, .bool true]
  | none => .tuple #[.int .i64 0, .bool false]

def IsErr (w : World) : Prop := ∃ ev, w.cell? ⟨4, 0, none⟩ = some ev ∧ (ev = .nilIface ∨ ∃ te pe, ev = .iface te pe)

set_option maxRecDepth 100000 in
set_option maxHeartbeats 1600000 in
theorem pint_any (s : ByteArray) (hs : s.size ≤ 281474976710656) (w : World) (hv : IsErr w) :
    Calls Tryd.prog 27 #[.string s] w fun e w' => e = .returned (pintOut (bytes s)) ∧ Below w.heap.size w w' := by
  have HV := Lib.hid hv
  clear hv
  obtain ⟨D, hD⟩ : ∃ D, magnS s = D := ⟨_, rfl⟩
  have HDb : Hid (bytes D = magn (bytes s)) := by rw [← hD]; exact bytes_magnS s
  have HT : Hid (∀ w : World, Calls Tryd.prog 41 #[.string s, .string ⟨#[45]⟩] w fun e w' => e = .returned (.string D) ∧ w' = w) := by
    intro w
    have := Tryd.strings_TrimPrefix s ⟨#[45]⟩ w
    rwa [trim_magn, hD] at this
  have hDs : D.size ≤ 9223372036854775807 := by
    rw [← bytes_len, HDb.out]
    have h1 : (magn (bytes s)).length ≤ (bytes s).length := by
      cases bytes s with
      | nil => exact Nat.le_refl _
      | cons c r => rw [magn_cons]; split <;> simp
    rw [bytes_len] at h1
    omega
  clear hD
  by_cases h0 : D.size = 0
  · have hb : bytes D = [] := List.eq_nil_of_length_eq_zero (by rw [bytes_len]; exact h0)
    have hs0 : D = ⟨#[]⟩ := ba_of_bytes (by rw [hb])
    have HO : Hid (pintOut (bytes s) = .tuple #[.int .i64 0, .bool false]) := by
      have : pint (bytes s) = none := by rw [pint, canonB, ← HDb.out, hb]; rfl
      show _ = _; rw [pintOut, this]
    subst hs0
    go_enter Tryd.func27, Tryd.ntmps27
    go_wp2_with fail
    refine (HT.out _).mono ?_
    rintro e w' ⟨rfl, rfl⟩
    go_wp2_with fail
    go_ret2
    exact ⟨HO.out.symm ▸ rfl, Below.refl _ _⟩
  · have hpos : 0 < D.size := by omega
    have i0 : (0 : Int) < (D.size : Int) := by omega
    have g0 : D.toList.isEmpty = false := ba_nonempty (by intro e; have := bytes_len D; rw [e] at this; simp at this; omega)
    have HD0 : Hid (∃ r, bytes D = D[0] :: r) := by
      show ∃ r, _
      cases hb : bytes D with
      | nil => have := bytes_len D; rw [hb] at this; simp at this; omega
      | cons c r =>
        have h1 : (bytes D)[0]'(by rw [hb]; simp) = c := by simp [hb]
        exact ⟨r, by rw [← h1]; rfl⟩
    cases hall : allB digitB (bytes D)
    · have HA := Lib.hid hall
      have HO : Hid (pintOut (bytes s) = .tuple #[.int .i64 0, .bool false]) := by
        have : pint (bytes s) = none := by rw [pint, canonB, ← HDb.out, hall]; simp
        show _ = _; rw [pintOut, this]
      clear hall
      go_enter Tryd.func27, Tryd.ntmps27
      go_wp2_with fail
      refine (HT.out _).mono ?_
      rintro e w' ⟨rfl, rfl⟩
      go_wp2_with fail
      refine (every_any D hDs _ digitB enter_digit digit_any _).mono ?_
      rintro e w' ⟨rfl, rfl⟩
      rw [HA.out]
      go_wp2_with fail
      go_ret2
      exact ⟨HO.out.symm ▸ rfl, Below.refl _ _⟩
    · have HA := Lib.hid hall
      clear hall
      have hst : (s.toList == [48]) = (bytes s == [48]) := by rw [Lib.toList_data]; rfl
      have HC : Hid (canonB (bytes s) = !(((D[0].toNat : Int) == 48) && !(s.toList == [48]))) := by
        show _ = _
        obtain ⟨r, hr⟩ := HD0.out
        have e1 : (some D[0] == some (48 : UInt8)) = ((D[0].toNat : Int) == 48) := by
          have h2 : ∀ c : UInt8, (some c == some (48 : UInt8)) = ((c.toNat : Int) == 48) := by
            intro c
            by_cases h : c = 48
            · subst h; rfl
            · have h3 : ¬ (c.toNat : Int) = 48 := fun e => h (by have h4 : c.toNat = 48 := (by omega); have := UInt8.ofNat_toNat (x := c); rw [h4] at this; exact this.symm)
              rw [beq_int_false h3]
              simpa using h
          exact h2 _
        rw [canonB, ← HDb.out, HA.out, hr, hst, ← e1]
        rfl
      clear hst
      by_cases hB : (((D[0].toNat : Int) == 48) && !(s.toList == [48])) = true
      · have HO : Hid (pintOut (bytes s) = .tuple #[.int .i64 0, .bool false]) := by
          have : pint (bytes s) = none := by rw [pint, HC.out, hB]; simp
          show _ = _; rw [pintOut, this]
        obtain ⟨q0, q1⟩ : ((D[0].toNat : Int) == 48) = true ∧ (s.toList == [48]) = false := by simpa using hB
        clear hB
        go_enter Tryd.func27, Tryd.ntmps27
        go_wp2_with fail
        refine (HT.out _).mono ?_
        rintro e w' ⟨rfl, rfl⟩
        go_wp2_with fail
        refine (every_any D hDs _ digitB enter_digit digit_any _).mono ?_
        rintro e w' ⟨rfl, rfl⟩
        rw [HA.out]
        go_wp2_with fail
        go_ret2
        exact ⟨HO.out.symm ▸ rfl, Below.refl _ _⟩
      · have hm : magn (bytes s) ≠ [] := by obtain ⟨r, hr⟩ := HD0.out; rw [← HDb.out, hr]; simp
        have HP := Lib.hid (parseIntB_digits hm (allB_mem.1 (HDb.out ▸ HA.out)))
        have HC2 : Hid (canonB (bytes s) = true) := by show _ = _; rw [HC.out, Bool.eq_false_iff.2 hB]; rfl
        have hB' : ((D[0].toNat : Int) == 48) = false ∨ (((D[0].toNat : Int) == 48) = true ∧ (s.toList == [48]) = true) := by
          cases h1 : ((D[0].toNat : Int) == 48)
          · exact .inl rfl
          · cases h2 : (s.toList == [48])
            · rw [h1, h2] at hB; simp at hB
            · exact .inr ⟨rfl, rfl⟩
        clear hB hm
        by_cases hR : valFrom 0 (magn (bytes s)) < 9223372036854775808 ∨ (negB (bytes s) = true ∧ valFrom 0 (magn (bytes s)) = 9223372036854775808)
        · obtain ⟨v, hv⟩ : ∃ v, signed (bytes s) (valFrom 0 (magn (bytes s))) = v := ⟨_, rfl⟩
          have HP2 : Hid (Lib.parseIntB 64 s.data.toList = .ok v) := by have := HP.out; rw [if_pos hR, hv] at this; exact this
          have HO : Hid (pintOut (bytes s) = .tuple #[.int .i64 v, .bool true]) := by
            have : pint (bytes s) = some v := by rw [pint, HC2.out, if_pos rfl, if_pos hR, hv]
            show _ = _; rw [pintOut, this]
          clear hR hv
          rcases hB' with q0 | ⟨q0, q1⟩ <;>
          (go_enter Tryd.func27, Tryd.ntmps27
           go_wp2_with fail
           refine (HT.out _).mono ?_
           rintro e w' ⟨rfl, rfl⟩
           go_wp2_with fail
           refine (every_any D hDs _ digitB enter_digit digit_any _).mono ?_
           rintro e w' ⟨rfl, rfl⟩
           rw [HA.out]
           go_wp2_with fail
           refine (Tryd.strconv_ParseInt_10_at64_ok s (by omega) v HP2.out _).mono ?_
           rintro e w2 ⟨rfl, hw⟩
           have hb : Below w'.heap.size w' w2 := by
             rcases hw with rfl | ⟨t, rfl⟩
             · exact Below.refl _ _
             · exact Lib.bytesWorld_below _ _ _
           clear hw
           go_wp2_with fail
           go_ret2
           exact ⟨HO.out.symm ▸ rfl, hb⟩)
        · have HP2 : Hid (Lib.parseIntB 64 s.data.toList = .range) := by have := HP.out; rw [if_neg hR] at this; exact this
          have HO : Hid (pintOut (bytes s) = .tuple #[.int .i64 0, .bool false]) := by
            have : pint (bytes s) = none := by rw [pint, HC2.out, if_pos rfl, if_neg hR]
            show _ = _; rw [pintOut, this]
          clear hR
          obtain ⟨ev, hev, hev2⟩ := HV.out
          have HE := Lib.hid hev
          have HE2 := Lib.hid hev2
          clear hev hev2
          rcases hB' with q0 | ⟨q0, q1⟩ <;>
          (go_enter Tryd.func27, Tryd.ntmps27
           go_wp2_with fail
           refine (HT.out _).mono ?_
           rintro e w' ⟨rfl, rfl⟩
           go_wp2_with fail
           refine (every_any D hDs _ digitB enter_digit digit_any _).mono ?_
           rintro e w' ⟨rfl, rfl⟩
           rw [HA.out]
           go_wp2_with fail
           refine (Tryd.strconv_ParseInt_10_at64_range s hs HP2.out ev _ HE.out HE2.out).mono ?_
           rintro e w2 ⟨N, rfl, hN, _, hb⟩
           go_wp2_with fail
           go_ret2
           exact ⟨HO.out.symm ▸ rfl, hb⟩)
end Go.Proofs.YtnaabplppfikcaaDoor
