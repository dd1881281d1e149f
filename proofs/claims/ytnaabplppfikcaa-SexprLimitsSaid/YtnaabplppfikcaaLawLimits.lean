/- SexprLimits returns true for every integer: the limits of words, strings, nesting and the whole text hold exactly. No conditions. -/
import Derived.Test.YtnaabplppfikcaaLawParse
import Derived.Test.YtnaabplppfikcaaMod
import Derived.Test.YtnaabplppfikcaaRepeat
import Derived.Test.YtnaabplppfikcaaLimPure
import Derived.Test.YtnaabplppfikcaaEvery
namespace Go.Proofs.Ytnaabplppfikcaa
open Go.ChangeShapes Go.WideShapes Go.ChangeAt Go.RowKit

theorem repeat_int (c : UInt8) (k : Int) (n : Nat) (hk : k = n) (hn : n ≤ 70000) (w : World) : Calls Try.prog 12 #[.string ⟨#[c]⟩, .int .i64 k] w fun e w' => e = .returned (.string (rep n c)) ∧ Below w.heap.size w w' := by
  subst hk; exact repeat_any c n hn w
theorem deep_int (k : Int) (n : Nat) (hk : k = n) (hn : n ≤ 1000) (w : World) : Calls Try.prog 13 #[.int .i64 k] w fun e w' => e = .returned (.string (rep n 40 ++ rep n 41)) ∧ Below w.heap.size w w' := by
  subst hk; exact deep_any n hn w

/-- Parse at a text whose outcome is known. -/
theorem parse_known (s : ByteArray) (w : World) (hs : s.size ≤ 9223372036854775807) (k : Int) (o : Int) (hp : (∃ l, parse (bytes s) = .ok l ∧ k = 0 ∧ o = 0) ∨ ∃ o' : Nat, parse (bytes s) = .error (k, o') ∧ o = o') :
    Calls Try.prog 6 #[.string s] w fun e w' => (∃ a n c, e = .returned (.tuple #[.slice a n c, .agg #[.int .i64 k, .int .i64 o]])) ∧ Below w.heap.size w w' :=
  (parse_any s w hs).mono fun e w' h => by
    obtain ⟨a, n, c, k', o', l, F, rfl, _, hb, hm⟩ := h.form
    refine ⟨⟨a, n, c, ?_⟩, hb⟩
    rcases hp with ⟨l', hp, rfl, rfl⟩ | ⟨o'', hp, rfl⟩
    · rw [hp] at hm; obtain ⟨_, rfl, rfl⟩ := hm; rfl
    · rw [hp] at hm; obtain ⟨_, rfl, rfl⟩ := hm; rfl

/-- The four outcomes, and whether the word is an identifier. -/
structure Outcomes (n1 n2 n3 n4 : Nat) (k1 o1 k2 o2 k3 o3 k4 o4 : Int) (b : Bool) : Prop where
  h1 : (∃ l, parse (bytes ((⟨#[32]⟩ : ByteArray) ++ rep n1 119)) = .ok l ∧ k1 = 0 ∧ o1 = 0) ∨ ∃ o' : Nat, parse (bytes ((⟨#[32]⟩ : ByteArray) ++ rep n1 119)) = .error (k1, o') ∧ o1 = o'
  h2 : (∃ l, parse (bytes ((⟨#[32]⟩ : ByteArray) ++ ((⟨#[34]⟩ : ByteArray) ++ rep n2 115 ++ (⟨#[34]⟩ : ByteArray)))) = .ok l ∧ k2 = 0 ∧ o2 = 0) ∨ ∃ o' : Nat, parse (bytes ((⟨#[32]⟩ : ByteArray) ++ ((⟨#[34]⟩ : ByteArray) ++ rep n2 115 ++ (⟨#[34]⟩ : ByteArray)))) = .error (k2, o') ∧ o2 = o'
  h3 : (∃ l, parse (bytes (rep n3 40 ++ rep n3 41)) = .ok l ∧ k3 = 0 ∧ o3 = 0) ∨ ∃ o' : Nat, parse (bytes (rep n3 40 ++ rep n3 41)) = .error (k3, o') ∧ o3 = o'
  h4 : (∃ l, parse (bytes (rep n4 32)) = .ok l ∧ k4 = 0 ∧ o4 = 0) ∨ ∃ o' : Nat, parse (bytes (rep n4 32)) = .error (k4, o') ∧ o4 = o'
  h5 : isIdent (bytes (rep n1 119)) = b

theorem bytes_lit (a : Array UInt8) : bytes ⟨a⟩ = a.toList := rfl
theorem ident_rep (n : Nat) : isIdent (List.replicate (n + 1) 119) = decide (n + 1 ≤ 24) := by
  rw [List.replicate_succ]
  simp only [isIdent, List.length_cons, List.length_replicate]
  have h1 : letterB (bt 119) = true := by rfl
  have h2 : allB identB (119 :: List.replicate n 119) = true := by
    rw [allB, List.all_eq_true]
    intro x hx
    have : x = 119 := by
      rcases List.mem_cons.1 hx with h | h
      · exact h
      · exact (List.mem_replicate.1 h).2
    subst this
    rfl
  rw [h1, h2]; simp

theorem outcomes_low (m1 : Nat) (n2 n3 n4 : Nat) (hm : m1 + 1 ≤ 24) (h2 : n2 ≤ 2000) (h3 : n3 = 39 ∨ n3 = 40) (h4 : n4 ≤ 65536) : Outcomes (m1 + 1) n2 n3 n4 0 0 0 0 0 0 0 0 true := by
  refine ⟨.inl ⟨.cons 1 (List.replicate (m1 + 1) 119) .nil 1 .nil, ?_, rfl, rfl⟩, .inl ⟨.cons 2 (List.replicate n2 115) .nil 1 .nil, ?_, rfl, rfl⟩, ?_, .inl ⟨.nil, ?_, rfl, rfl⟩, ?_⟩
  rotate_left 1
  · have := parse_text n2 (by omega)
    rw [if_pos h2] at this
    simpa [bytes_append, bytes_rep, bytes_lit] using this
  · left
    rcases h3 with rfl | rfl
    · obtain ⟨l, hl⟩ := parse_deep39
      exact ⟨l, by rw [bytes_append, bytes_rep, bytes_rep]; exact hl, rfl, rfl⟩
    · obtain ⟨l, hl⟩ := parse_deep40
      exact ⟨l, by rw [bytes_append, bytes_rep, bytes_rep]; exact hl, rfl, rfl⟩
  · have := parse_spaces n4
    rw [if_pos h4] at this
    rw [bytes_rep]; exact this
  · rw [bytes_rep, ident_rep]; simpa using hm
  · have := parse_word m1 (by omega)
    rw [if_pos hm] at this
    simpa [bytes_append, bytes_rep, bytes_lit] using this
theorem outcomes_high (m1 n2 n4 : Nat) (hm : ¬ m1 + 1 ≤ 24) (hm' : m1 ≤ 100) (h2 : ¬ n2 ≤ 2000) (h2' : n2 ≤ 3000) (h4 : ¬ n4 ≤ 65536) : Outcomes (m1 + 1) n2 41 n4 4 1 4 1 9 40 4 0 false := by
  refine ⟨.inr ⟨1, ?_, rfl⟩, .inr ⟨1, ?_, rfl⟩, .inr ⟨40, ?_, rfl⟩, .inr ⟨0, ?_, rfl⟩, ?_⟩
  · have := parse_word m1 (by omega)
    rw [if_neg hm] at this
    simpa [bytes_append, bytes_rep, bytes_lit] using this
  · have := parse_text n2 (by omega)
    rw [if_neg h2] at this
    simpa [bytes_append, bytes_rep, bytes_lit] using this
  · rw [bytes_append, bytes_rep, bytes_rep]; exact parse_deep
  · have := parse_spaces n4
    rw [if_neg h4] at this
    rw [bytes_rep]; exact this
  · rw [bytes_rep, ident_rep]; simpa using hm

set_option maxRecDepth 100000 in
set_option maxHeartbeats 1600000 in
theorem limits_walk (z d : Int) (n1 n2 n3 n4 : Nat) (k1 o1 k2 o2 k3 o3 k4 o4 : Int) (b : Bool) (hz : z % 3 - 1 = d) (e1 : 24 + d = n1) (e2 : 2000 + d = n2) (e3 : 40 + d = n3) (e4 : 65536 + d = n4) (hd : -1 ≤ d) (hd' : d ≤ 1) (H : Outcomes n1 n2 n3 n4 k1 o1 k2 o2 k3 o3 k4 o4 b)
    (hfin : (d ≤ 0 ∧ k1 = 0 ∧ k2 = 0 ∧ k3 = 0 ∧ k4 = 0 ∧ b = true) ∨ (0 < d ∧ k1 = 4 ∧ o1 = 1 ∧ k2 = 4 ∧ o2 = 1 ∧ k3 = 9 ∧ o3 = 40 ∧ k4 = 4 ∧ o4 = 0 ∧ b = false)) (w : World) :
    Calls Try.prog 5 #[.int .i64 z] w fun e w' => e = .returned (.bool true) ∧ Below w.heap.size w w' := by
  have HH := Lib.hid H
  have E1 := Lib.hid e1
  have E2 := Lib.hid e2
  have E3 := Lib.hid e3
  have E4 := Lib.hid e4
  have HZ := Lib.hid hz
  have HF := Lib.hid hfin
  have HM : Hid (z % 3 = d + 1) := by have := hz; show z % 3 = d + 1; omega
  have s1 : (rep n1 119).size ≤ 100 := by rw [rep_size]; omega
  have s2 : (rep n2 115).size ≤ 3000 := by rw [rep_size]; omega
  clear H e1 e2 e3 e4 hz hfin
  go_enter Try.func5, Try.ntmps5
  go_wp2_with fail
  refine (mod_any z 3 (by omega) (by omega) w).mono ?_
  rintro e w' ⟨rfl, rfl⟩
  rw [HM.out]
  go_wp2_with fail
  refine (repeat_int 119 _ n1 (by have := E1.out; omega) (by have := E1.out; omega) w).mono ?_
  rintro e w1 ⟨rfl, hb1⟩
  have B1 := Lib.hid hb1
  clear hb1
  go_wp2_with fail
  refine (repeat_int 115 _ n2 (by have := E2.out; omega) (by have := E2.out; omega) w1).mono ?_
  rintro e w2 ⟨rfl, hb2⟩
  have B2 := Lib.hid (B1.out.trans (hb2.mono B1.out.size))
  clear hb2 B1
  go_wp2_with fail
  have z1 : ((⟨#[32]⟩ : ByteArray) ++ rep n1 119).size ≤ 9223372036854775807 := by rw [ByteArray.size_append]; show 1 + _ ≤ _; omega
  refine (parse_known _ w2 z1 k1 o1 HH.out.h1).mono ?_
  rintro e v1 ⟨⟨a1, c1, m1, rfl⟩, hb⟩
  have hV1 := (Below.refl v1.heap.size v1).alloc (Nat.le_refl _) (.cells #[.int .i64 k1, .int .i64 o1] 25)
  have C1 := Lib.hid (B2.out.trans (hb.mono B2.out.size))
  clear hb B2 z1
  go_wp2_with fail
  have z2 : ((⟨#[32]⟩ : ByteArray) ++ ((⟨#[34]⟩ : ByteArray) ++ rep n2 115 ++ (⟨#[34]⟩ : ByteArray))).size ≤ 9223372036854775807 := by rw [ByteArray.size_append, ByteArray.size_append, ByteArray.size_append]; show 1 + (1 + _ + 1) ≤ _; omega
  refine (parse_known _ _ z2 k2 o2 HH.out.h2).mono ?_
  rintro e v2 ⟨⟨a2, c2, m2, rfl⟩, hb⟩
  have f10 : v2.cell? ⟨v1.heap.size, 0, none⟩ = some (.int .i64 k1) := by rw [hb.cell (by simp)]; simp
  have f11 : v2.cell? ⟨v1.heap.size, 1, none⟩ = some (.int .i64 o1) := by rw [hb.cell (by simp)]; simp
  have l1 : v1.heap.size < v2.heap.size := by have := hb.size; simp at this; omega
  have C2 := Lib.hid (C1.out.trans ((hV1.trans (hb.mono (by simp))).mono C1.out.size))
  have hV2 := (Below.refl v2.heap.size v2).alloc (Nat.le_refl _) (.cells #[.int .i64 k2, .int .i64 o2] 25)
  clear hb C1 hV1 z2
  go_wp2_with fail
  refine (deep_int _ n3 (by have := E3.out; omega) (by have := E3.out; omega) _).mono ?_
  rintro e u3 ⟨rfl, hb⟩
  have g10 : u3.cell? ⟨v1.heap.size, 0, none⟩ = some (.int .i64 k1) := by rw [hb.cell (by simp; omega), hV2.cell l1]; exact f10
  have g11 : u3.cell? ⟨v1.heap.size, 1, none⟩ = some (.int .i64 o1) := by rw [hb.cell (by simp; omega), hV2.cell l1]; exact f11
  have g20 : u3.cell? ⟨v2.heap.size, 0, none⟩ = some (.int .i64 k2) := by rw [hb.cell (by simp)]; simp
  have g21 : u3.cell? ⟨v2.heap.size, 1, none⟩ = some (.int .i64 o2) := by rw [hb.cell (by simp)]; simp
  have l2 : v2.heap.size < u3.heap.size := by have := hb.size; simp at this; omega
  have C3 := Lib.hid (C2.out.trans ((hV2.trans (hb.mono (by simp))).mono C2.out.size))
  clear hb C2 hV2 f10 f11
  go_wp2_with fail
  have z3 : (rep n3 40 ++ rep n3 41).size ≤ 9223372036854775807 := by rw [ByteArray.size_append, rep_size, rep_size]; have := E3.out; omega
  refine (parse_known _ _ z3 k3 o3 HH.out.h3).mono ?_
  rintro e v3 ⟨⟨a3, c3, m3, rfl⟩, hb⟩
  have f10 : v3.cell? ⟨v1.heap.size, 0, none⟩ = some (.int .i64 k1) := by rw [hb.cell (p := ⟨v1.heap.size, 0, none⟩) (by show v1.heap.size < _; omega)]; exact g10
  have f11 : v3.cell? ⟨v1.heap.size, 1, none⟩ = some (.int .i64 o1) := by rw [hb.cell (p := ⟨v1.heap.size, 1, none⟩) (by show v1.heap.size < _; omega)]; exact g11
  have f20 : v3.cell? ⟨v2.heap.size, 0, none⟩ = some (.int .i64 k2) := by rw [hb.cell (p := ⟨v2.heap.size, 0, none⟩) l2]; exact g20
  have f21 : v3.cell? ⟨v2.heap.size, 1, none⟩ = some (.int .i64 o2) := by rw [hb.cell (p := ⟨v2.heap.size, 1, none⟩) l2]; exact g21
  have l3 : v2.heap.size < v3.heap.size := by have := hb.size; omega
  have C4 := Lib.hid (C3.out.trans (hb.mono C3.out.size))
  have hV3 := (Below.refl v3.heap.size v3).alloc (Nat.le_refl _) (.cells #[.int .i64 k3, .int .i64 o3] 25)
  clear hb C3 g10 g11 g20 g21 z3 l2
  go_wp2_with fail
  refine (repeat_int 32 _ n4 (by have := E4.out; omega) (by have := E4.out; omega) _).mono ?_
  rintro e u4 ⟨rfl, hb⟩
  have g10 : u4.cell? ⟨v1.heap.size, 0, none⟩ = some (.int .i64 k1) := by rw [hb.cell (by simp; omega), hV3.cell (by show v1.heap.size < _; omega)]; exact f10
  have g11 : u4.cell? ⟨v1.heap.size, 1, none⟩ = some (.int .i64 o1) := by rw [hb.cell (by simp; omega), hV3.cell (by show v1.heap.size < _; omega)]; exact f11
  have g20 : u4.cell? ⟨v2.heap.size, 0, none⟩ = some (.int .i64 k2) := by rw [hb.cell (by simp; omega), hV3.cell l3]; exact f20
  have g21 : u4.cell? ⟨v2.heap.size, 1, none⟩ = some (.int .i64 o2) := by rw [hb.cell (by simp; omega), hV3.cell l3]; exact f21
  have g30 : u4.cell? ⟨v3.heap.size, 0, none⟩ = some (.int .i64 k3) := by rw [hb.cell (by simp)]; simp
  have g31 : u4.cell? ⟨v3.heap.size, 1, none⟩ = some (.int .i64 o3) := by rw [hb.cell (by simp)]; simp
  have l4 : v3.heap.size < u4.heap.size := by have := hb.size; simp at this; omega
  have C5 := Lib.hid (C4.out.trans ((hV3.trans (hb.mono (by simp))).mono C4.out.size))
  clear hb C4 hV3 f10 f11 f20 f21
  go_wp2_with fail
  have z4 : (rep n4 32).size ≤ 9223372036854775807 := by rw [rep_size]; have := E4.out; omega
  refine (parse_known _ _ z4 k4 o4 HH.out.h4).mono ?_
  rintro e v4 ⟨⟨a4, c4, m4, rfl⟩, hb⟩
  have f10 : v4.cell? ⟨v1.heap.size, 0, none⟩ = some (.int .i64 k1) := by rw [hb.cell (p := ⟨v1.heap.size, 0, none⟩) (by show v1.heap.size < _; omega)]; exact g10
  have f11 : v4.cell? ⟨v1.heap.size, 1, none⟩ = some (.int .i64 o1) := by rw [hb.cell (p := ⟨v1.heap.size, 1, none⟩) (by show v1.heap.size < _; omega)]; exact g11
  have f20 : v4.cell? ⟨v2.heap.size, 0, none⟩ = some (.int .i64 k2) := by rw [hb.cell (p := ⟨v2.heap.size, 0, none⟩) (by show v2.heap.size < _; omega)]; exact g20
  have f21 : v4.cell? ⟨v2.heap.size, 1, none⟩ = some (.int .i64 o2) := by rw [hb.cell (p := ⟨v2.heap.size, 1, none⟩) (by show v2.heap.size < _; omega)]; exact g21
  have f30 : v4.cell? ⟨v3.heap.size, 0, none⟩ = some (.int .i64 k3) := by rw [hb.cell (p := ⟨v3.heap.size, 0, none⟩) l4]; exact g30
  have f31 : v4.cell? ⟨v3.heap.size, 1, none⟩ = some (.int .i64 o3) := by rw [hb.cell (p := ⟨v3.heap.size, 1, none⟩) l4]; exact g31
  have l5 : v3.heap.size < v4.heap.size := by have := hb.size; omega
  have C6 := Lib.hid (C5.out.trans (hb.mono C5.out.size))
  have hV4 := (Below.refl v4.heap.size v4).alloc (Nat.le_refl _) (.cells #[.int .i64 k4, .int .i64 o4] 25)
  clear hb C5 g10 g11 g20 g21 g30 g31 z4 l4
  go_wp2_with fail
  refine (check_any _).mono ?_
  rintro e w9 ⟨rfl, hb⟩
  have g10 : w9.cell? ⟨v1.heap.size, 0, none⟩ = some (.int .i64 k1) := by rw [hb.cell (by simp; omega), hV4.cell (by show v1.heap.size < _; omega)]; exact f10
  have g11 : w9.cell? ⟨v1.heap.size, 1, none⟩ = some (.int .i64 o1) := by rw [hb.cell (by simp; omega), hV4.cell (by show v1.heap.size < _; omega)]; exact f11
  have g20 : w9.cell? ⟨v2.heap.size, 0, none⟩ = some (.int .i64 k2) := by rw [hb.cell (by simp; omega), hV4.cell (by show v2.heap.size < _; omega)]; exact f20
  have g21 : w9.cell? ⟨v2.heap.size, 1, none⟩ = some (.int .i64 o2) := by rw [hb.cell (by simp; omega), hV4.cell (by show v2.heap.size < _; omega)]; exact f21
  have g30 : w9.cell? ⟨v3.heap.size, 0, none⟩ = some (.int .i64 k3) := by rw [hb.cell (by simp; omega), hV4.cell l5]; exact f30
  have g31 : w9.cell? ⟨v3.heap.size, 1, none⟩ = some (.int .i64 o3) := by rw [hb.cell (by simp; omega), hV4.cell l5]; exact f31
  have g40 : w9.cell? ⟨v4.heap.size, 0, none⟩ = some (.int .i64 k4) := by rw [hb.cell (by simp)]; simp
  have g41 : w9.cell? ⟨v4.heap.size, 1, none⟩ = some (.int .i64 o4) := by rw [hb.cell (by simp)]; simp
  have C7 := Lib.hid (C6.out.trans ((hV4.trans (hb.mono (by simp))).mono C6.out.size))
  have HI := Lib.hid HH.out.h5
  clear hb C6 hV4 f10 f11 f20 f21 f30 f31
  rcases HF.out with ⟨hdd, rfl, rfl, rfl, rfl, rfl⟩ | ⟨hdd, rfl, rfl, rfl, rfl, rfl, rfl, rfl, rfl, rfl⟩
  · go_wp2_with fail
    refine (isIdent_any _ (by omega) _).mono ?_
    rintro e w' ⟨rfl, rfl⟩
    rw [HI.out]
    go_wp2_with fail
    go_ret
    exact ⟨rfl, C7.out⟩
  · go_wp2_with fail
    refine (isIdent_any _ (by omega) _).mono ?_
    rintro e w' ⟨rfl, rfl⟩
    rw [HI.out]
    go_wp2_with fail
    go_ret
    exact ⟨rfl, C7.out⟩

theorem law_limits (z : Int) (w : World) : Calls Try.prog 5 #[.int .i64 z] w fun e w' => e = .returned (.bool true) ∧ Below w.heap.size w w' := by
  have h0 := Int.emod_nonneg z (show (3 : Int) ≠ 0 by omega)
  have h3 := Int.emod_lt_of_pos z (show (0 : Int) < 3 by omega)
  have hc : z % 3 = 0 ∨ z % 3 = 1 ∨ z % 3 = 2 := by omega
  rcases hc with h | h | h
  · exact limits_walk z (-1) 23 1999 39 65535 0 0 0 0 0 0 0 0 true (by omega) (by omega) (by omega) (by omega) (by omega) (by omega) (by omega) (outcomes_low 22 1999 39 65535 (by omega) (by omega) (.inl rfl) (by omega)) (.inl ⟨by omega, rfl, rfl, rfl, rfl, rfl⟩) w
  · exact limits_walk z 0 24 2000 40 65536 0 0 0 0 0 0 0 0 true (by omega) (by omega) (by omega) (by omega) (by omega) (by omega) (by omega) (outcomes_low 23 2000 40 65536 (by omega) (by omega) (.inr rfl) (by omega)) (.inl ⟨by omega, rfl, rfl, rfl, rfl, rfl⟩) w
  · exact limits_walk z 1 25 2001 41 65537 4 1 4 1 9 40 4 0 false (by omega) (by omega) (by omega) (by omega) (by omega) (by omega) (by omega) (outcomes_high 24 2001 65537 (by omega) (by omega) (by omega) (by omega) (by omega)) (.inr ⟨by omega, rfl, rfl, rfl, rfl, rfl, rfl, rfl, rfl, rfl⟩) w

set_option maxRecDepth 100000 in
theorem lifted_limits (os : Os) (started : os.Started) (H : Type) (enc : TypeId × Value → H) :
    ReturnsInHanded {} Try.checked os 5 .any (Rows.sexprLimitsSpec.pre6 enc Try.prog Try.f5 Rows.sexprLimitsRow.domain false) (Rows.sexprLimitsSpec.post enc Try.prog Try.f5 false true false false) := by
  refine returnsInHanded_of_change (C := Try.checked) own started (by kernel_rfl) Try.func5
    (ChangeSpec.witness6 (enc := enc) (C := Try.checked) false ⟨#[], #[.int .i64 0], []⟩ 8 (by kernel_rfl) (by kernel_rfl) (by kernel_rfl) (by kernel_rfl)) ?_
  intro W base args ds gs before hval0 hW hcnd _
  have hval : ∀ (j : Nat) t v, Try.f5.params[j]? = some t → args[j]? = some v → Value.okWide Try.prog W .any base t v := hval0
  have hW' := hW
  obtain ⟨p, q, hA0, hV, rfl, hfz, hnd⟩ := hW
  have hA : DataW.TrodAll enc Try.prog W 0 (fun _ => true) true Try.f5.params.toList args.toList ds p := hA0
  rw [Try.params5] at hA hval
  obtain ⟨v0, vs0, d0, ds0, p0, q0, hargs, rfl, rfl, h0, r0⟩ := trodAll_cons hA
  obtain ⟨rfl, rfl, rfl⟩ := trodAll_nil r0
  obtain rfl : args = #[v0] := by cases args; simp_all
  obtain ⟨rfl, rfl⟩ := trodVars_none hV
  obtain ⟨a0, rfl, rfl, rfl, w0⟩ := open_int Try.underlying3 (hval 0 3 v0 rfl rfl) h0
  clear hA0 hval0
  refine (law_limits a0 W).mono fun e W' ⟨he, bel⟩ => ?_
  subst he
  exact ⟨_, rfl, _, _, _, [], _, [], hW', trodAll_mk1 (shut_bool Try.underlying4 _), (trodAll_cons_mk (shut_int Try.underlying3 w0) trodAll_mk0), rfl, bel.frame _, fun h => by cases h⟩

theorem over_limits : Rows.sexprLimitsRow.holds Try.pinned (OpenSpec.ofChange Rows.sexprLimitsSpec) :=
  OpenClaim.holds_of_wide 5 Try.f5 rfl rfl rfl rfl rfl rfl rfl ⟨rfl, rfl, rfl, rfl, rfl⟩ rfl rfl rfl rfl rfl (by kernel_rfl) Try.func5 (by kernel_rfl)
    (of_decide_eq_true (by kernel_rfl)) (by unfold Func.isWrapper; first | (rw [if_pos (by decide +kernel)]; kernel_rfl) | (rw [if_neg (by decide +kernel)]; exact ⟨rfl, rfl⟩))
    (fun os started H enc _ => lifted_limits os started H enc)

/-- The statement. -/
theorem sexprLimits_holds : Rows.SexprLimitsSaid := over_limits
end Go.Proofs.Ytnaabplppfikcaa
