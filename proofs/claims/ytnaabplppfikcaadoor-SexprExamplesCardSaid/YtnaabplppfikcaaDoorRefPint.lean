/- telref1.ParseInt. -/
import Derived.Test.YtnaabplppfikcaaDoorRefInt
namespace Go.Proofs.YtnaabplppfikcaaDoor
open Go.RowKit

theorem neg_wrap {V : Nat} (h : V ≤ 9223372036854775808) : wrap64 (IntKind.u64.wrap (-(V : Int))) = -(V : Int) := by
  have e1 : IntKind.u64.wrap (-(V : Int)) = (-(V : Int)) % 18446744073709551616 := by simp [IntKind.wrap, IntKind.bits, IntKind.signed]
  rw [e1]
  unfold wrap64
  omega
def noInt : Value := .tuple #[.int .i64 0, .bool false]
theorem out_none {s : List UInt8} (h : rint s = none) : pintOut s = .tuple #[.int .i64 0, .bool false] := by rw [pintOut, pint_rint, h]
theorem out_some {s : List UInt8} {v : Int} (h : rint s = some v) : pintOut s = .tuple #[.int .i64 v, .bool true] := by rw [pintOut, pint_rint, h]

set_option maxRecDepth 100000 in
set_option maxHeartbeats 6400000 in
theorem rint_any (s : ByteArray) (hs : s.size ≤ 9223372036854775807) (w : World) :
    Calls Tryd.prog 28 #[.string s] w fun e w' => e = .returned (pintOut (bytes s)) ∧ w = w' := by
  by_cases h0 : s.size = 0
  · have hb : bytes s = [] := List.eq_nil_of_length_eq_zero (by rw [bytes_len]; exact h0)
    have q0 : ¬ (0 : Int) < (s.size : Int) := by omega
    have q1 : (s.size : Int) < 1 := by omega
    have HO : Hid (pintOut (bytes s) = .tuple #[.int .i64 0, .bool false]) := out_none (by rw [hb]; rfl)
    clear hb
    go_enter Tryd.func28, Tryd.ntmps28
    go_wp2_with fail
    go_ret2
    exact ⟨by rw [HO.out]; rfl, rfl⟩
  have hpos : 0 < s.size := by omega
  have q0 : (0 : Int) < (s.size : Int) := by omega
  obtain ⟨T, B, HTb, HB, hTs, hcase⟩ : ∃ (T : ByteArray) (B : Bool), Hid (bytes T = magn (bytes s)) ∧ Hid (negB (bytes s) = B) ∧ T.size ≤ s.size ∧ ((((s[0].toNat : Int) == 45) = true ∧ s.extract 1 s.size = T ∧ B = true) ∨ (((s[0].toNat : Int) == 45) = false ∧ s = T ∧ B = false)) := by
    have hc0 : ∃ r, bytes s = s[0] :: r := by
      cases hb : bytes s with
      | nil => have := bytes_len s; rw [hb] at this; simp at this; omega
      | cons c r =>
        have h1 : (bytes s)[0]'(by rw [hb]; simp) = c := by simp [hb]
        exact ⟨r, by rw [← h1]; rfl⟩
    obtain ⟨r, hr⟩ := hc0
    by_cases h45 : s[0] = 45
    · refine ⟨s.extract 1 s.size, true, ?_, ?_, ?_, .inl ⟨?_, rfl, rfl⟩⟩
      · show _ = _
        rw [bytes_extract, hr, magn_cons, if_pos h45]
        have : r.length + 1 = s.size := by rw [← bytes_len, hr]; rfl
        simp only [List.drop_succ_cons, List.drop_zero]
        exact List.take_of_length_le (by omega)
      · show _ = _; rw [hr, negB_cons]; simp [h45]
      · rw [← bytes_len, ← bytes_len, bytes_extract]; simp
      · rw [h45]; rfl
    · refine ⟨s, false, ?_, ?_, Nat.le_refl _, .inr ⟨?_, rfl, rfl⟩⟩
      · show _ = _; rw [hr, magn_cons, if_neg h45]
      · show _ = _; rw [hr, negB_cons]; simp [h45]
      · refine beq_int_false fun e => h45 ?_
        have h4 : s[0].toNat = 45 := by omega
        have := UInt8.ofNat_toNat (x := s[0]); rw [h4] at this; exact this.symm
  by_cases ha : T.size < 1
  · have HO : Hid (pintOut (bytes s) = .tuple #[.int .i64 0, .bool false]) := out_none (by rw [rint, ← HTb.out, bytes_len, if_pos (.inl ha)])
    have t0 : (T.size : Int) < 1 := by omega
    rcases hcase with ⟨q1, hext, rfl⟩ | ⟨q1, rfl, rfl⟩ <;>
    (go_enter Tryd.func28, Tryd.ntmps28
     go_wp2_with fail
     go_ret2
     exact ⟨by rw [HO.out]; rfl, rfl⟩)
  have t0 : ¬ (T.size : Int) < 1 := by omega
  have t00 : (0 : Int) < (T.size : Int) := by omega
  have htp : 0 < T.size := by omega
  by_cases hb : 19 < T.size
  · have HO : Hid (pintOut (bytes s) = .tuple #[.int .i64 0, .bool false]) := out_none (by rw [rint, ← HTb.out, bytes_len, if_pos (.inr (.inl hb))])
    have t1 : (19 : Int) < (T.size : Int) := by omega
    rcases hcase with ⟨q1, hext, rfl⟩ | ⟨q1, rfl, rfl⟩ <;>
    (go_enter Tryd.func28, Tryd.ntmps28
     go_wp2_with fail
     go_ret2
     exact ⟨by rw [HO.out]; rfl, rfl⟩)
  have t1 : ¬ (19 : Int) < (T.size : Int) := by omega
  have hc0 : ∃ r, bytes T = T[0] :: r := by
    cases hb : bytes T with
    | nil => have := bytes_len T; rw [hb] at this; simp at this; omega
    | cons c r =>
      have h1 : (bytes T)[0]'(by rw [hb]; simp) = c := by simp [hb]
      exact ⟨r, by rw [← h1]; rfl⟩
  have H48 : Hid ((bytes T).head? = some 48 ↔ ((T[0].toNat : Int) == 48) = true) := by
    obtain ⟨r, hr⟩ := hc0
    show _ ↔ _
    rw [hr]
    show some T[0] = some 48 ↔ _
    have h2 : ∀ c : UInt8, some c = some 48 ↔ ((c.toNat : Int) == 48) = true := by
      intro c
      constructor
      · intro e; injection e with e; rw [e]; rfl
      · intro e
        have h3 : (c.toNat : Int) = 48 := by simpa using e
        have h4 : c.toNat = 48 := by omega
        have := UInt8.ofNat_toNat (x := c); rw [h4] at this; rw [← this]; rfl
    exact h2 _
  clear hc0
  by_cases hc : ((T[0].toNat : Int) == 48) = true ∧ (1 < T.size ∨ B = true)
  · have HO : Hid (pintOut (bytes s) = .tuple #[.int .i64 0, .bool false]) := out_none (by rw [rint, HB.out, ← HTb.out, bytes_len, if_pos (.inr (.inr ⟨H48.out.2 hc.1, hc.2⟩))])
    obtain ⟨t2, t3⟩ := hc
    rcases hcase with ⟨q1, hext, rfl⟩ | ⟨q1, rfl, rfl⟩
    · clear t3
      by_cases t4 : (1 : Int) < (T.size : Int) <;>
      (go_enter Tryd.func28, Tryd.ntmps28
       go_wp2_with fail
       go_ret2
       exact ⟨by rw [HO.out]; rfl, rfl⟩)
    · have t4 : (1 : Int) < (s.size : Int) := by rcases t3 with t3 | t3; omega; cases t3
      clear t3
      go_enter Tryd.func28, Tryd.ntmps28
      go_wp2_with fail
      go_ret2
      exact ⟨by rw [HO.out]; rfl, rfl⟩
  have HR : Hid (rint (bytes s) = if allB digitB (bytes T) = true then (if B = true then (if valFrom 0 (bytes T) ≤ 9223372036854775808 then some (-(valFrom 0 (bytes T) : Int)) else none) else if valFrom 0 (bytes T) < 9223372036854775808 then some (valFrom 0 (bytes T)) else none) else none) := by
    show _ = _
    rw [rint, HB.out, ← HTb.out, bytes_len, if_neg]
    rintro (h | h | h)
    · exact ha h
    · exact hb h
    · exact hc ⟨H48.out.1 h.1, h.2⟩
  have hc' : ((T[0].toNat : Int) == 48) = false ∨ (((T[0].toNat : Int) == 48) = true ∧ (¬ (1 : Int) < (T.size : Int)) ∧ B = false) := by
    cases h1 : ((T[0].toNat : Int) == 48)
    · exact .inl rfl
    · refine .inr ⟨rfl, fun h2 => hc ⟨h1, .inl (by omega)⟩, ?_⟩
      cases B
      · rfl
      · exact absurd ⟨h1, .inr rfl⟩ hc
  clear hc H48 HB HTb ha hb
  have hend : Hid (∀ (x : Value), (if B = true then (if valFrom 0 (bytes T) ≤ 9223372036854775808 then some (-(valFrom 0 (bytes T) : Int)) else none) else if valFrom 0 (bytes T) < 9223372036854775808 then some (valFrom 0 (bytes T) : Int) else none) = none → allB digitB (bytes T) = true → x = .tuple #[.int .i64 0, .bool false] → x = pintOut (bytes s)) :=
    fun x h1 h2 h3 => by rw [h3, out_none (by rw [HR.out, if_pos h2, h1])]
  have hend2 : Hid (∀ (x : Value) (v : Int), (if B = true then (if valFrom 0 (bytes T) ≤ 9223372036854775808 then some (-(valFrom 0 (bytes T) : Int)) else none) else if valFrom 0 (bytes T) < 9223372036854775808 then some (valFrom 0 (bytes T) : Int) else none) = some v → allB digitB (bytes T) = true → x = .tuple #[.int .i64 v, .bool true] → x = pintOut (bytes s)) :=
    fun x v h1 h2 h3 => by rw [h3, out_some (by rw [HR.out, if_pos h2, h1])]
  have hend3 : Hid (∀ (x : Value), allB digitB (bytes T) = false → x = .tuple #[.int .i64 0, .bool false] → x = pintOut (bytes s)) :=
    fun x h2 h3 => by rw [h3, out_none (by rw [HR.out, h2]; rfl)]
  clear HR
  have hall : (((s[0].toNat : Int) == 45) = true ∧ s.extract 1 s.size = T ∧ B = true ∧ ((T[0].toNat : Int) == 48) = false) ∨ (((s[0].toNat : Int) == 45) = false ∧ s = T ∧ B = false ∧ ((T[0].toNat : Int) == 48) = false) ∨ (((s[0].toNat : Int) == 45) = false ∧ s = T ∧ B = false ∧ ((T[0].toNat : Int) == 48) = true ∧ (¬ (1 : Int) < (T.size : Int))) := by
    rcases hcase with ⟨a1, a2, a3⟩ | ⟨a1, a2, a3⟩
    · rcases hc' with b1 | ⟨b1, b2, b3⟩
      · exact .inl ⟨a1, a2, a3, b1⟩
      · rw [a3] at b3; cases b3
    · rcases hc' with b1 | ⟨b1, b2, b3⟩
      · exact .inr (.inl ⟨a1, a2, a3, b1⟩)
      · exact .inr (.inr ⟨a1, a2, a3, b1, b2⟩)
  clear hcase hc'
  rcases hall with ⟨q1, hext, rfl, t2⟩ | ⟨q1, rfl, rfl, t2⟩ | ⟨q1, rfl, rfl, t2, t3⟩
  · go_enter Tryd.func28, Tryd.ntmps28
    go_wp2_with fail
    go_loopg [6, 7] T.size (fun kk n v wr => ∃ i : Nat, kk = T.size - i ∧ i ≤ T.size ∧ n = .int .u64 ((valFrom 0 ((bytes T).take i) : Nat) : Int) ∧ v = .int .i64 i ∧ wr = w ∧ allB digitB ((bytes T).take i) = true)
    case atStart => exact ⟨0, rfl, Nat.zero_le _, by simp [valFrom_nil], rfl, rfl, rfl⟩
    case round =>
      obtain ⟨i, hk, hi, rfl, rfl, rfl, hall⟩ := hrel
      have A1 := Lib.hid hk
      have A2 := Lib.hid hall
      clear hk hall
      have j0 : (0 : Int) ≤ (i : Int) := by omega
      have hVlt := valFrom_lt A2.out
      by_cases hlt : i < T.size
      · have j1 : (i : Int) < (T.size : Int) := by omega
        have hwi : IntKind.i64.wrap ((i : Int) + 1) = (i : Int) + 1 := wrap_i64 (by omega) (by omega)
        have HTk := Lib.hid (allB_take (p := digitB) hlt A2.out)
        have HVk := Lib.hid (valFrom_take hlt)
        have h18 : 10 ^ i ≤ 10 ^ 18 := Nat.pow_le_pow_right (by omega) (by omega)
        have hV18 : valFrom 0 ((bytes T).take i) < 1000000000000000000 := Nat.lt_of_lt_of_le hVlt h18
        clear hVlt h18
        obtain ⟨V, hV⟩ : ∃ V, valFrom 0 ((bytes T).take i) = V := ⟨_, rfl⟩
        rw [hV] at hV18 HVk ⊢
        clear hV
        cases hp : digitB (T[i].toNat : Int)
        · have HW := Lib.hid hp
          have HP : Hid (allB digitB (bytes T) = false) := allB_false (HTk.out.trans hp)
          clear hp
          go_wp2_with fail
          refine (ref_digit_any _ _).mono ?_
          rintro e w' ⟨rfl, rfl⟩
          rw [HW.out]
          go_wp2_with fail
          go_ret2
          exact ⟨congrArg _ (hend3.out _ HP.out rfl), rfl⟩
        · have HW := Lib.hid hp
          have HP : Hid (allB digitB ((bytes T).take (i + 1)) = true) := HTk.out.trans hp
          have hd := (digitB_iff _).1 hp
          obtain ⟨hd1, hd2⟩ := hd
          have hv0 : (0 : Int) ≤ (V : Int) := by omega
          have hv1 : (V : Int) < 1000000000000000000 := by omega
          have HE : Hid ((10 : Int) * (V : Int) + ((T[i].toNat : Int) - 48) = ((valFrom 0 ((bytes T).take (i + 1)) : Nat) : Int)) := by show _ = _; rw [HVk.out]; omega
          clear hp
          go_wp2_with fail
          refine (ref_digit_any _ _).mono ?_
          rintro e w' ⟨rfl, rfl⟩
          rw [HW.out]
          go_wp2_with fail
          go_roundg (T.size - (i + 1))
          case measure => have := A1.out; omega
          case rel => exact ⟨i + 1, rfl, by omega, by rw [← HE.out], by go_num, rfl, HP.out⟩
      · have hin : i = T.size := by omega
        have j1 : ¬ (i : Int) < (T.size : Int) := by omega
        have HP : Hid (allB digitB (bytes T) = true) := by
          have := A2.out
          rwa [hin, List.take_of_length_le (by rw [bytes_len]; exact Nat.le_refl _)] at this
        have hV19 : valFrom 0 ((bytes T).take i) < 10000000000000000000 := Nat.lt_of_lt_of_le hVlt (Nat.pow_le_pow_right (by omega) (by omega : i ≤ 19))
        have hVV : valFrom 0 ((bytes T).take i) = valFrom 0 (bytes T) := by rw [hin, List.take_of_length_le (by rw [bytes_len]; exact Nat.le_refl _)]
        obtain ⟨V, hV⟩ : ∃ V, valFrom 0 (bytes T) = V := ⟨_, rfl⟩
        rw [hVV, hV] at hV19 ⊢
        rw [hV] at hend hend2
        clear hV hVV hVlt hin
        have hv0 : (0 : Int) ≤ (V : Int) := by omega
        by_cases hv : V ≤ 9223372036854775808
        · have hv1 : (V : Int) ≤ 9223372036854775808 := by omega
          go_wp2_with fail
          go_ret2
          exact ⟨congrArg _ (hend2.out _ (wrap64 (IntKind.u64.wrap (-(V : Int)))) (by rw [neg_wrap hv]; simp [hv]) HP.out rfl), rfl⟩
        · have hv1 : ¬ (V : Int) ≤ 9223372036854775808 := by omega
          go_wp2_with fail
          go_ret2
          exact ⟨congrArg _ (hend.out _ (by simp [hv]) HP.out rfl), rfl⟩
  · go_enter Tryd.func28, Tryd.ntmps28
    go_wp2_with fail
    go_loopg [6, 7] s.size (fun kk n v wr => ∃ i : Nat, kk = s.size - i ∧ i ≤ s.size ∧ n = .int .u64 ((valFrom 0 ((bytes s).take i) : Nat) : Int) ∧ v = .int .i64 i ∧ wr = w ∧ allB digitB ((bytes s).take i) = true)
    case atStart => exact ⟨0, rfl, Nat.zero_le _, by simp [valFrom_nil], rfl, rfl, rfl⟩
    case round =>
      obtain ⟨i, hk, hi, rfl, rfl, rfl, hall⟩ := hrel
      have A1 := Lib.hid hk
      have A2 := Lib.hid hall
      clear hk hall
      have j0 : (0 : Int) ≤ (i : Int) := by omega
      have hVlt := valFrom_lt A2.out
      by_cases hlt : i < s.size
      · have j1 : (i : Int) < (s.size : Int) := by omega
        have hwi : IntKind.i64.wrap ((i : Int) + 1) = (i : Int) + 1 := wrap_i64 (by omega) (by omega)
        have HTk := Lib.hid (allB_take (p := digitB) hlt A2.out)
        have HVk := Lib.hid (valFrom_take hlt)
        have h18 : 10 ^ i ≤ 10 ^ 18 := Nat.pow_le_pow_right (by omega) (by omega)
        have hV18 : valFrom 0 ((bytes s).take i) < 1000000000000000000 := Nat.lt_of_lt_of_le hVlt h18
        clear hVlt h18
        obtain ⟨V, hV⟩ : ∃ V, valFrom 0 ((bytes s).take i) = V := ⟨_, rfl⟩
        rw [hV] at hV18 HVk ⊢
        clear hV
        cases hp : digitB (s[i].toNat : Int)
        · have HW := Lib.hid hp
          have HP : Hid (allB digitB (bytes s) = false) := allB_false (HTk.out.trans hp)
          clear hp
          go_wp2_with fail
          refine (ref_digit_any _ _).mono ?_
          rintro e w' ⟨rfl, rfl⟩
          rw [HW.out]
          go_wp2_with fail
          go_ret2
          exact ⟨congrArg _ (hend3.out _ HP.out rfl), rfl⟩
        · have HW := Lib.hid hp
          have HP : Hid (allB digitB ((bytes s).take (i + 1)) = true) := HTk.out.trans hp
          have hd := (digitB_iff _).1 hp
          obtain ⟨hd1, hd2⟩ := hd
          have hv0 : (0 : Int) ≤ (V : Int) := by omega
          have hv1 : (V : Int) < 1000000000000000000 := by omega
          have HE : Hid ((10 : Int) * (V : Int) + ((s[i].toNat : Int) - 48) = ((valFrom 0 ((bytes s).take (i + 1)) : Nat) : Int)) := by show _ = _; rw [HVk.out]; omega
          clear hp
          go_wp2_with fail
          refine (ref_digit_any _ _).mono ?_
          rintro e w' ⟨rfl, rfl⟩
          rw [HW.out]
          go_wp2_with fail
          go_roundg (s.size - (i + 1))
          case measure => have := A1.out; omega
          case rel => exact ⟨i + 1, rfl, by omega, by rw [← HE.out], by go_num, rfl, HP.out⟩
      · have hin : i = s.size := by omega
        have j1 : ¬ (i : Int) < (s.size : Int) := by omega
        have HP : Hid (allB digitB (bytes s) = true) := by
          have := A2.out
          rwa [hin, List.take_of_length_le (by rw [bytes_len]; exact Nat.le_refl _)] at this
        have hV19 : valFrom 0 ((bytes s).take i) < 10000000000000000000 := Nat.lt_of_lt_of_le hVlt (Nat.pow_le_pow_right (by omega) (by omega : i ≤ 19))
        have hVV : valFrom 0 ((bytes s).take i) = valFrom 0 (bytes s) := by rw [hin, List.take_of_length_le (by rw [bytes_len]; exact Nat.le_refl _)]
        obtain ⟨V, hV⟩ : ∃ V, valFrom 0 (bytes s) = V := ⟨_, rfl⟩
        rw [hVV, hV] at hV19 ⊢
        rw [hV] at hend hend2
        clear hV hVV hVlt hin
        have hv0 : (0 : Int) ≤ (V : Int) := by omega
        by_cases hv : V < 9223372036854775808
        · have hv1 : (V : Int) < 9223372036854775808 := by omega
          go_wp2_with fail
          go_ret2
          exact ⟨congrArg _ (hend2.out _ (V : Int) (by simp [hv]) HP.out rfl), rfl⟩
        · have hv1 : ¬ (V : Int) < 9223372036854775808 := by omega
          go_wp2_with fail
          go_ret2
          exact ⟨congrArg _ (hend.out _ (by simp [hv]) HP.out rfl), rfl⟩
  · go_enter Tryd.func28, Tryd.ntmps28
    go_wp2_with fail
    go_loopg [6, 7] s.size (fun kk n v wr => ∃ i : Nat, kk = s.size - i ∧ i ≤ s.size ∧ n = .int .u64 ((valFrom 0 ((bytes s).take i) : Nat) : Int) ∧ v = .int .i64 i ∧ wr = w ∧ allB digitB ((bytes s).take i) = true)
    case atStart => exact ⟨0, rfl, Nat.zero_le _, by simp [valFrom_nil], rfl, rfl, rfl⟩
    case round =>
      obtain ⟨i, hk, hi, rfl, rfl, rfl, hall⟩ := hrel
      have A1 := Lib.hid hk
      have A2 := Lib.hid hall
      clear hk hall
      have j0 : (0 : Int) ≤ (i : Int) := by omega
      have hVlt := valFrom_lt A2.out
      by_cases hlt : i < s.size
      · have j1 : (i : Int) < (s.size : Int) := by omega
        have hwi : IntKind.i64.wrap ((i : Int) + 1) = (i : Int) + 1 := wrap_i64 (by omega) (by omega)
        have HTk := Lib.hid (allB_take (p := digitB) hlt A2.out)
        have HVk := Lib.hid (valFrom_take hlt)
        have h18 : 10 ^ i ≤ 10 ^ 18 := Nat.pow_le_pow_right (by omega) (by omega)
        have hV18 : valFrom 0 ((bytes s).take i) < 1000000000000000000 := Nat.lt_of_lt_of_le hVlt h18
        clear hVlt h18
        obtain ⟨V, hV⟩ : ∃ V, valFrom 0 ((bytes s).take i) = V := ⟨_, rfl⟩
        rw [hV] at hV18 HVk ⊢
        clear hV
        cases hp : digitB (s[i].toNat : Int)
        · have HW := Lib.hid hp
          have HP : Hid (allB digitB (bytes s) = false) := allB_false (HTk.out.trans hp)
          clear hp
          go_wp2_with fail
          refine (ref_digit_any _ _).mono ?_
          rintro e w' ⟨rfl, rfl⟩
          rw [HW.out]
          go_wp2_with fail
          go_ret2
          exact ⟨congrArg _ (hend3.out _ HP.out rfl), rfl⟩
        · have HW := Lib.hid hp
          have HP : Hid (allB digitB ((bytes s).take (i + 1)) = true) := HTk.out.trans hp
          have hd := (digitB_iff _).1 hp
          obtain ⟨hd1, hd2⟩ := hd
          have hv0 : (0 : Int) ≤ (V : Int) := by omega
          have hv1 : (V : Int) < 1000000000000000000 := by omega
          have HE : Hid ((10 : Int) * (V : Int) + ((s[i].toNat : Int) - 48) = ((valFrom 0 ((bytes s).take (i + 1)) : Nat) : Int)) := by show _ = _; rw [HVk.out]; omega
          clear hp
          go_wp2_with fail
          refine (ref_digit_any _ _).mono ?_
          rintro e w' ⟨rfl, rfl⟩
          rw [HW.out]
          go_wp2_with fail
          go_roundg (s.size - (i + 1))
          case measure => have := A1.out; omega
          case rel => exact ⟨i + 1, rfl, by omega, by rw [← HE.out], by go_num, rfl, HP.out⟩
      · have hin : i = s.size := by omega
        have j1 : ¬ (i : Int) < (s.size : Int) := by omega
        have HP : Hid (allB digitB (bytes s) = true) := by
          have := A2.out
          rwa [hin, List.take_of_length_le (by rw [bytes_len]; exact Nat.le_refl _)] at this
        have hV19 : valFrom 0 ((bytes s).take i) < 10000000000000000000 := Nat.lt_of_lt_of_le hVlt (Nat.pow_le_pow_right (by omega) (by omega : i ≤ 19))
        have hVV : valFrom 0 ((bytes s).take i) = valFrom 0 (bytes s) := by rw [hin, List.take_of_length_le (by rw [bytes_len]; exact Nat.le_refl _)]
        obtain ⟨V, hV⟩ : ∃ V, valFrom 0 (bytes s) = V := ⟨_, rfl⟩
        rw [hVV, hV] at hV19 ⊢
        rw [hV] at hend hend2
        clear hV hVV hVlt hin
        have hv0 : (0 : Int) ≤ (V : Int) := by omega
        by_cases hv : V < 9223372036854775808
        · have hv1 : (V : Int) < 9223372036854775808 := by omega
          go_wp2_with fail
          go_ret2
          exact ⟨congrArg _ (hend2.out _ (V : Int) (by simp [hv]) HP.out rfl), rfl⟩
        · have hv1 : ¬ (V : Int) < 9223372036854775808 := by omega
          go_wp2_with fail
          go_ret2
          exact ⟨congrArg _ (hend.out _ (by simp [hv]) HP.out rfl), rfl⟩
end Go.Proofs.YtnaabplppfikcaaDoor
