/- Integers in canonical decimal form, plainly. -/
import Derived.Test.YtnaabplppfikcaaDoorEvery
import Derived.Lib.ParseIntB
import Derived.Lib.ItoaLen
namespace Go.Proofs.YtnaabplppfikcaaDoor

/-- The number that digits spell, behind a number that stands ahead of them. -/
def valFrom (acc : Nat) (l : List UInt8) : Nat := l.foldl (fun a c => a * 10 + (c.toNat - 48)) acc
theorem valFrom_nil (acc : Nat) : valFrom acc [] = acc := List.foldl_nil
theorem valFrom_cons (acc : Nat) (c : UInt8) (r : List UInt8) : valFrom acc (c :: r) = valFrom (acc * 10 + (c.toNat - 48)) r := List.foldl_cons ..
theorem valFrom_app (a b : List UInt8) : ∀ acc, valFrom acc (a ++ b) = valFrom (valFrom acc a) b := by
  induction a with
  | nil => intro acc; simp [valFrom_nil]
  | cons c r ih => intro acc; rw [List.cons_append, valFrom_cons, valFrom_cons, ih]
theorem valFrom_ge (l : List UInt8) : ∀ acc, acc * 10 ^ l.length ≤ valFrom acc l := by
  induction l with
  | nil => intro acc; simp [valFrom_nil]
  | cons c r ih =>
    intro acc
    rw [valFrom_cons, List.length_cons, Nat.pow_succ, Nat.mul_comm (10 ^ _) 10, ← Nat.mul_assoc]
    exact Nat.le_trans (Nat.mul_le_mul_right _ (Nat.le_add_right _ _)) (ih _)
theorem valFrom_le (l : List UInt8) (h : ∀ c ∈ l, digitB (bt c) = true) : ∀ acc, valFrom acc l < (acc + 1) * 10 ^ l.length := by
  induction l with
  | nil => intro acc; simp [valFrom_nil]
  | cons c r ih =>
    intro acc
    have hc := (digitB_iff _).1 (h c (by simp))
    have hd : c.toNat - 48 ≤ 9 := by unfold bt at hc; omega
    rw [valFrom_cons, List.length_cons, Nat.pow_succ, Nat.mul_comm (10 ^ _) 10, ← Nat.mul_assoc]
    refine Nat.lt_of_lt_of_le (ih (fun x hx => h x (by simp [hx])) _) (Nat.mul_le_mul_right _ (by omega))

theorem digit_nat {c : UInt8} : digitB (bt c) = true ↔ 48 ≤ c.toNat ∧ c.toNat ≤ 57 := by
  rw [digitB_iff]; unfold bt; omega
theorem allB_mem {p : Int → Bool} {l : List UInt8} : allB p l = true ↔ ∀ c ∈ l, p (bt c) = true := by simp [allB]

/-- The library's reader on digits. -/
theorem parseUintM_digits (l : List UInt8) (h : ∀ c ∈ l, digitB (bt c) = true) : ∀ acc, acc ≤ 18446744073709551615 → Lib.parseUintM 18446744073709551615 acc l = if valFrom acc l ≤ 18446744073709551615 then .ok (valFrom acc l) else .range := by
  induction l with
  | nil => intro acc ha; simp [Lib.parseUintM, valFrom_nil, ha]
  | cons c r ih =>
    intro acc ha
    have hc := digit_nat.1 (h c (by simp))
    have hge := valFrom_ge r (acc * 10 + (c.toNat - 48))
    have h1 : acc * 10 + (c.toNat - 48) ≤ valFrom (acc * 10 + (c.toNat - 48)) r := Nat.le_trans (Nat.le_mul_of_pos_right _ (Nat.pow_pos (by omega))) hge
    rw [Lib.parseUintM, if_pos hc, valFrom_cons]
    by_cases ha1 : 1844674407370955162 ≤ acc
    · rw [if_pos ha1, if_neg (by omega)]
    · rw [if_neg ha1]
      by_cases ha2 : 18446744073709551615 < acc * 10 + (c.toNat - 48)
      · rw [if_pos ha2, if_neg (by omega)]
      · rw [if_neg ha2, ih (fun x hx => h x (by simp [hx])) _ (by omega)]

/-- A sign ahead. -/
def negB : List UInt8 → Bool
  | 45 :: _ => true
  | _ => false
def magn : List UInt8 → List UInt8
  | 45 :: r => r
  | l => l
theorem negB_cons (c : UInt8) (r : List UInt8) : negB (c :: r) = decide (c = 45) := by
  by_cases h : c = 45
  · subst h; rfl
  · unfold negB
    split
    · rename_i e; injection e with e; exact absurd e h
    · simp [h]
theorem magn_cons (c : UInt8) (r : List UInt8) : magn (c :: r) = if c = 45 then r else c :: r := by
  by_cases h : c = 45
  · subst h; rfl
  · unfold magn
    split
    · rename_i e; injection e with e; exact absurd e h
    · simp [h]

/-- Digits in canonical form behind an optional sign. -/
def canonB (s : List UInt8) : Bool := !(magn s).isEmpty && allB digitB (magn s) && !((magn s).head? == some 48 && !(s == [48]))
def signed (s : List UInt8) (u : Nat) : Int := if negB s then -(u : Int) else u
/-- The integer that a text spells. -/
def pint (s : List UInt8) : Option Int :=
  if canonB s then (if valFrom 0 (magn s) < 9223372036854775808 ∨ (negB s = true ∧ valFrom 0 (magn s) = 9223372036854775808) then some (signed s (valFrom 0 (magn s))) else none) else none

theorem parseIntB_digits {s : List UInt8} (h0 : magn s ≠ []) (h : ∀ c ∈ magn s, digitB (bt c) = true) :
    Lib.parseIntB 64 s = if valFrom 0 (magn s) < 9223372036854775808 ∨ (negB s = true ∧ valFrom 0 (magn s) = 9223372036854775808) then .ok (signed s (valFrom 0 (magn s))) else .range := by
  cases s with
  | nil => exact absurd rfl h0
  | cons c r =>
    have e45 : c.toNat = 45 ↔ c = 45 := by
      constructor
      · intro e; have := UInt8.ofNat_toNat (x := c); rw [e] at this; exact this.symm
      · rintro rfl; rfl
    have hneg : negB (c :: r) = decide (c = 45) := negB_cons c r
    have hmag := magn_cons c r
    have hif : (if c.toNat = 43 ∨ c.toNat = 45 then r else c :: r) = magn (c :: r) := by
      rw [hmag]
      by_cases hc : c = 45
      · rw [if_pos hc, if_pos (.inr (e45.2 hc))]
      · rw [if_neg hc, if_neg]
        rintro (e | e)
        · have := digit_nat.1 (h c (by rw [hmag, if_neg hc]; simp)); omega
        · exact hc (e45.1 e)
    have hU : Lib.parseUintB 64 (magn (c :: r)) = if valFrom 0 (magn (c :: r)) ≤ 18446744073709551615 then .ok (valFrom 0 (magn (c :: r))) else .range := by
      rw [Lib.parseUintB, if_neg h0]
      exact parseUintM_digits _ h 0 (by omega)
    obtain ⟨V, hV⟩ : ∃ V, valFrom 0 (magn (c :: r)) = V := ⟨_, rfl⟩
    rw [hV] at hU ⊢
    simp only [Lib.parseIntB, hif, hU, signed, hneg]
    by_cases hv : V ≤ 18446744073709551615
    · rw [if_pos hv]
      by_cases hc : c = 45
      · simp only [hc]
        by_cases h1 : V < 9223372036854775808 ∨ (decide ((45 : UInt8) = 45) = true ∧ V = 9223372036854775808)
        · have : ¬ 9223372036854775808 < V := by omega
          simp [this]; omega
        · have h9 : 9223372036854775808 < V := by simp at h1; omega
          have h8 : 9223372036854775808 ≤ V ∧ ¬ V = 9223372036854775808 := by omega
          simp [h9, h8]
      · have hc' : ¬ c.toNat = 45 := fun e => hc (e45.1 e)
        by_cases h1 : V < 9223372036854775808
        · have : ¬ 9223372036854775808 ≤ V := by omega
          simp [hc, hc', h1, this]
        · have : 9223372036854775808 ≤ V := by omega
          simp [hc, hc', h1, this]
    · rw [if_neg hv]
      have : ¬ (V < 9223372036854775808 ∨ (decide (c = 45) = true ∧ V = 9223372036854775808)) := by omega
      rw [if_neg this]

/-- How the reference decides. -/
def rint (s : List UInt8) : Option Int :=
  if (magn s).length < 1 ∨ 19 < (magn s).length ∨ ((magn s).head? = some 48 ∧ (1 < (magn s).length ∨ negB s = true)) then none
  else if allB digitB (magn s) = true then
    (if negB s = true then (if valFrom 0 (magn s) ≤ 9223372036854775808 then some (-(valFrom 0 (magn s) : Int)) else none)
     else if valFrom 0 (magn s) < 9223372036854775808 then some (valFrom 0 (magn s)) else none)
  else none

theorem valFrom_big {c : UInt8} {r : List UInt8} (hc : digitB (bt c) = true) (h0 : c ≠ 48) (hl : 19 < (c :: r).length) : 9223372036854775808 < valFrom 0 (c :: r) := by
  have h1 := digit_nat.1 hc
  have h2 : 1 ≤ c.toNat - 48 := by
    have : c.toNat ≠ 48 := fun e => h0 (by have := UInt8.ofNat_toNat (x := c); rw [e] at this; exact this.symm)
    omega
  have h3 := valFrom_ge r (0 * 10 + (c.toNat - 48))
  have h4 : 10 ^ 19 ≤ 10 ^ r.length := Nat.pow_le_pow_right (by omega) (by simp at hl; omega)
  rw [valFrom_cons]
  have h5 : 1 * 10 ^ 19 ≤ (0 * 10 + (c.toNat - 48)) * 10 ^ r.length := Nat.mul_le_mul (by omega) h4
  omega

theorem pint_rint (s : List UInt8) : pint s = rint s := by
  unfold pint rint canonB
  cases hm : magn s with
  | nil => simp
  | cons c r =>
    by_cases hall : allB digitB (c :: r) = true
    · have hall' := allB_mem.1 hall
      rw [hall]
      simp only [List.isEmpty_cons, Bool.not_false, Bool.true_and, List.head?_cons, Bool.and_true, if_true]
      by_cases h48 : c = 48
      · subst h48
        by_cases hs : s = [48]
        · subst hs
          have : r = [] := by simp [magn] at hm; exact hm
          subst this
          rfl
        · have : 1 < (48 :: r).length ∨ negB s = true := by
            cases s with
            | nil => cases hm
            | cons x y =>
              rw [magn_cons] at hm
              by_cases hx : x = 45
              · right; rw [negB_cons]; simp [hx]
              · rw [if_neg hx] at hm
                injection hm with e1 e2
                subst e1 e2
                left
                cases y with
                | nil => exact absurd rfl hs
                | cons _ _ => simp
          have hs' : (s == [48]) = false := by simpa using hs
          rw [hs']
          rw [if_neg (by simp), if_pos (.inr (.inr ⟨rfl, this⟩))]
      · have e1 : (!(some c == some (48 : UInt8) && !(s == [48]))) = true := by simp [h48]
        rw [if_pos e1]
        by_cases hl : 19 < (c :: r).length
        · have hb := valFrom_big (hall' c (by simp)) h48 hl
          rw [if_neg (by omega), if_pos (.inr (.inl hl))]
        · have hn : ¬ ((c :: r).length < 1 ∨ 19 < (c :: r).length ∨ (some c = some 48 ∧ (1 < (c :: r).length ∨ negB s = true))) := by
            rintro (h | h | h)
            · simp at h
            · exact hl h
            · exact h48 (Option.some.inj h.1)
          rw [if_neg hn]
          unfold signed
          cases hneg : negB s
          · simp
          · simp only [true_and, if_true]
            by_cases hv : valFrom 0 (c :: r) ≤ 9223372036854775808
            · rw [if_pos hv, if_pos (by omega)]
            · rw [if_neg hv, if_neg (by omega)]
    · have hall' : allB digitB (c :: r) = false := by simpa using hall
      rw [hall']
      simp

/-- The decimal digits of a number. -/
theorem decDigits_step (u : Nat) : Lib.decDigits u = if u < 10 then [UInt8.ofNat (48 + u)] else Lib.decDigits (u / 10) ++ [UInt8.ofNat (48 + u % 10)] := by
  rw [Lib.decDigits]
  split <;> rfl
theorem decDigits_digit (u : Nat) : ∀ c ∈ Lib.decDigits u, digitB (bt c) = true := by
  induction u using Nat.strongRecOn with
  | _ u ih =>
    rw [decDigits_step]
    have hd : ∀ k, k < 10 → digitB (bt (UInt8.ofNat (48 + k))) = true := by decide
    split
    · rename_i h; intro c hc; simp only [List.mem_singleton] at hc; subst hc; exact hd u h
    · rename_i h
      intro c hc
      rw [List.mem_append, List.mem_singleton] at hc
      rcases hc with hc | rfl
      · exact ih (u / 10) (by omega) c hc
      · exact hd _ (Nat.mod_lt _ (by omega))
theorem decDigits_val (u : Nat) : valFrom 0 (Lib.decDigits u) = u := by
  induction u using Nat.strongRecOn with
  | _ u ih =>
    rw [decDigits_step]
    have hd : ∀ k, k < 10 → (UInt8.ofNat (48 + k)).toNat - 48 = k := by decide
    split
    · rename_i h; rw [valFrom_cons, valFrom_nil, hd u h]; omega
    · rename_i h
      rw [valFrom_app, ih (u / 10) (by omega)]
      simp only [valFrom_cons, valFrom_nil]
      rw [hd _ (Nat.mod_lt _ (by omega))]
      omega
theorem decDigits_head (u : Nat) (h : u ≠ 0) : (Lib.decDigits u).head? ≠ some 48 ∧ Lib.decDigits u ≠ [] := by
  induction u using Nat.strongRecOn with
  | _ u ih =>
    rw [decDigits_step]
    have hd : ∀ k, k < 10 → k ≠ 0 → UInt8.ofNat (48 + k) ≠ 48 := by decide
    split
    · rename_i h1; exact ⟨fun e => hd u h1 h (Option.some.inj e), by simp⟩
    · rename_i h1
      obtain ⟨h2, h3⟩ := ih (u / 10) (by omega) (by omega)
      refine ⟨?_, by simp⟩
      cases hq : Lib.decDigits (u / 10) with
      | nil => exact absurd hq h3
      | cons a b => rw [hq] at h2; simpa using h2
theorem magn_digits (u : Nat) : magn (Lib.decDigits u) = Lib.decDigits u ∧ negB (Lib.decDigits u) = false := by
  have h := decDigits_digit u
  cases hq : Lib.decDigits u with
  | nil => exact ⟨rfl, rfl⟩
  | cons c r =>
    have hc : c ≠ 45 := by
      rintro rfl
      have := h 45 (by rw [hq]; simp)
      cases this
    rw [magn_cons, negB_cons]
    simp [hc]

/-- A number's text spells it. -/
theorem pint_itoa (n : Int) (h0 : -9223372036854775808 ≤ n) (h1 : n ≤ 9223372036854775807) : pint (Lib.itoa n) = some n := by
  unfold Lib.itoa
  by_cases hn : n < 0
  · rw [if_pos hn]
    have hne : n.natAbs ≠ 0 := by omega
    obtain ⟨h2, h3⟩ := decDigits_head _ hne
    have hv := decDigits_val n.natAbs
    have hc : canonB (45 :: Lib.decDigits n.natAbs) = true := by
      have hall : allB digitB (Lib.decDigits n.natAbs) = true := allB_mem.2 (decDigits_digit _)
      have e1 : ((Lib.decDigits n.natAbs).head? == some 48) = false := by simpa using h2
      have e2 : (Lib.decDigits n.natAbs).isEmpty = false := by simpa using h3
      simp only [canonB, magn, hall, e1, e2]
      rfl
    have hm : magn (45 :: Lib.decDigits n.natAbs) = Lib.decDigits n.natAbs := rfl
    have hg : negB (45 :: Lib.decDigits n.natAbs) = true := rfl
    rw [pint, if_pos hc, hm, hv, hg, if_pos (by simp; omega)]
    simp only [signed, hg, if_true]
    congr 1
    omega
  · rw [if_neg hn]
    obtain ⟨hm, hg⟩ := magn_digits n.toNat
    have hv := decDigits_val n.toNat
    have hc : canonB (Lib.decDigits n.toNat) = true := by
      by_cases h0 : n.toNat = 0
      · rw [h0, decDigits_step]; decide
      · obtain ⟨h2, h3⟩ := decDigits_head _ h0
        have hall : allB digitB (Lib.decDigits n.toNat) = true := allB_mem.2 (decDigits_digit _)
        have e1 : ((Lib.decDigits n.toNat).head? == some 48) = false := by simpa using h2
        have e2 : (Lib.decDigits n.toNat).isEmpty = false := by simpa using h3
        simp only [canonB, hm, hall, e1, e2]
        rfl
    rw [pint, if_pos hc, hm, hv, hg, if_pos (.inl (by omega))]
    simp only [signed, hg]
    congr 1
    simp
    omega
theorem itoa_short (n : Int) (h0 : -9223372036854775808 ≤ n) (h1 : n ≤ 9223372036854775807) : (Lib.itoa n).length ≤ 21 := Lib.itoa_length_le n h0 h1
end Go.Proofs.YtnaabplppfikcaaDoor
