/- sexpr.every, sexpr.IsIdent. -/
import Derived.Test.YtnaabplppfikcaaDoorStep
import Derived.Deep.LoopGhost
import Derived.Lib.Strings
namespace Go.Proofs.YtnaabplppfikcaaDoor
open Go.RowKit

/-- Whether a test of bytes holds for every byte of a text. -/
def allB (p : Int → Bool) (l : List UInt8) : Bool := l.all fun c => p (bt c)

theorem allB_take {p : Int → Bool} {s : ByteArray} {i : Nat} (hi : i < s.size) (h : allB p ((bytes s).take i) = true) : allB p ((bytes s).take (i + 1)) = p (s[i].toNat : Int) := by
  have hl : i < (bytes s).length := by rw [bytes_len]; exact hi
  rw [allB, List.take_succ_eq_append_getElem hl, List.all_append]
  rw [allB] at h
  rw [h]
  simp
  rfl
theorem allB_false {p : Int → Bool} {s : ByteArray} {i : Nat} (h : allB p ((bytes s).take i) = false) : allB p (bytes s) = false := by
  rw [allB, List.all_eq_false] at h ⊢
  obtain ⟨x, hx, hp⟩ := h
  exact ⟨x, List.mem_of_mem_take hx, hp⟩

set_option maxRecDepth 100000 in
set_option maxHeartbeats 800000 in
theorem every_any (s : ByteArray) (hs : s.size ≤ 9223372036854775807) (f : FuncId) (p : Int → Bool) (hcall : ∀ (args : Array Value) (w : World), (callFunc f args).run Tryd.prog w = .ok (.enter f args) w) (hf : ∀ (c : Int) (w : World), Calls Tryd.prog f #[.int .u8 c] w fun e w' => e = .returned (.bool (p c)) ∧ w = w') (w : World) :
    Calls Tryd.prog 42 #[.string s, .func (.func f) #[] #[]] w fun e w' => e = .returned (.bool (allB p (bytes s))) ∧ w = w' := by
  have HF := Lib.hid hf
  clear hf
  go_enter Tryd.func42, Tryd.ntmps42
  go_wp2_with fail
  go_loopg [5] s.size (fun k v wr => ∃ i : Nat, k = s.size - i ∧ i ≤ s.size ∧ v = .int .i64 i ∧ wr = w ∧ allB p ((bytes s).take i) = true)
  case atStart => exact ⟨0, rfl, Nat.zero_le _, rfl, rfl, rfl⟩
  case round =>
    obtain ⟨i, hk, hi, rfl, rfl, hall⟩ := hrel
    have A1 := Lib.hid hk
    have A2 := Lib.hid hall
    clear hk hall
    have i0 : (0 : Int) ≤ (i : Int) := by omega
    by_cases hlt : i < s.size
    · have i1 : (i : Int) < (s.size : Int) := by omega
      have HT := Lib.hid (allB_take (p := p) hlt A2.out)
      go_wp2_with fail
      refine (HF.out _ _).mono ?_
      rintro e w' ⟨rfl, rfl⟩
      cases hp : p (s[i].toNat : Int)
      · have HP : Hid (allB p (bytes s) = false) := allB_false (HT.out.trans hp)
        clear hp
        go_wp2_with fail
        go_ret
        exact ⟨by rw [HP.out]; rfl, rfl⟩
      · have HP : Hid (allB p ((bytes s).take (i + 1)) = true) := HT.out.trans hp
        clear hp
        go_wp2_with fail
        go_roundg (s.size - (i + 1))
        case measure => have := A1.out; omega
        case rel => exact ⟨i + 1, rfl, by omega, by go_num, rfl, HP.out⟩
    · have hin : i = s.size := by omega
      have i1 : ¬ (i : Int) < (s.size : Int) := by omega
      have HP : Hid (allB p (bytes s) = true) := by
        have := A2.out
        rwa [hin, List.take_of_length_le (by rw [bytes_len]; exact Nat.le_refl _)] at this
      clear hin
      go_wp2_with fail
      go_ret
      exact ⟨by rw [HP.out]; rfl, rfl⟩

def identB (c : Int) : Bool := (c != 45) && wordB c

theorem identByte_any (c : Int) (w : World) : Calls Tryd.prog 48 #[.int .u8 c] w fun e w' => e = .returned (.bool (identB c)) ∧ w = w' := by
  cases h : (c != 45)
  · go_enter Tryd.func48, Tryd.ntmps48
    go_wp2_with fail
    go_ret
    exact ⟨by simp [identB, h], rfl⟩
  · go_enter Tryd.func48, Tryd.ntmps48
    go_wp2_with fail
    refine (wordByte_any _ _).mono ?_
    rintro e w' ⟨rfl, rfl⟩
    go_wp2_with fail
    go_ret
    exact ⟨by simp [identB, h], rfl⟩

theorem letter_is (c : Int) (b : Bool) (hb : Hid (letterB c = b)) (w : World) : Calls Tryd.prog 47 #[.int .u8 c] w fun e w' => e = .returned (.bool b) ∧ w = w' :=
  (letter_any c w).mono fun _ _ ⟨h1, h2⟩ => ⟨by rw [h1, hb.out], h2⟩

/-- Whether a text is an identifier. -/
def isIdent (l : List UInt8) : Bool :=
  match l with
  | [] => false
  | c :: _ => decide (l.length ≤ 24) && letterB (bt c) && allB identB l

theorem enter_ident (args : Array Value) (w : World) : (callFunc 48 args).run Tryd.prog w = .ok (.enter 48 args) w := by kernel_rfl

set_option maxHeartbeats 800000 in
theorem isIdent_any (s : ByteArray) (hs : s.size ≤ 9223372036854775807) (w : World) : Calls Tryd.prog 30 #[.string s] w fun e w' => e = .returned (.bool (isIdent (bytes s))) ∧ w = w' := by
  by_cases h0 : s.size = 0
  · have hb : bytes s = [] := List.eq_nil_of_length_eq_zero (by rw [bytes_len]; exact h0)
    have hs0 : s = ⟨#[]⟩ := by
      cases s with
      | mk d =>
        have : d.toList = [] := hb
        have : d = #[] := by cases d; simp_all
        rw [this]
    subst hs0
    go_enter Tryd.func30, Tryd.ntmps30
    go_wp2_with fail
    go_ret
    exact ⟨rfl, rfl⟩
  · have hpos : 0 < s.size := by omega
    have hl : 0 < (bytes s).length := by rw [bytes_len]; exact hpos
    have he : isIdent (bytes s) = (decide (s.size ≤ 24) && letterB (s[0].toNat : Int) && allB identB (bytes s)) := by
      cases hb : bytes s with
      | nil => rw [hb] at hl; simp at hl
      | cons c r =>
        have hc : s[0] = c := by
          have h1 : (bytes s)[0] = c := by simp [hb]
          exact h1
        rw [isIdent, hc, ← bytes_len, hb]
        rfl
    have HE := Lib.hid he
    have g0 : s.toList.isEmpty = false := by
      rw [Lib.toList_data]
      cases hb : s.data.toList with
      | nil =>
        have : (bytes s).length = 0 := by rw [bytes, hb]; rfl
        omega
      | cons => rfl
    have i0 : (0 : Int) < (s.size : Int) := by omega
    clear he
    by_cases h24 : s.size ≤ 24
    · have i1 : (s.size : Int) ≤ 24 := by omega
      cases hlet : letterB (s[0].toNat : Int)
      · have HL := Lib.hid hlet
        clear hlet
        go_enter Tryd.func30, Tryd.ntmps30
        go_wp2_with fail
        refine (letter_is _ _ HL _).mono ?_
        rintro e w' ⟨rfl, rfl⟩
        go_wp2_with fail
        go_ret
        exact ⟨by rw [HE.out, HL.out, Bool.and_false, Bool.false_and]; rfl, rfl⟩
      · have HL := Lib.hid hlet
        clear hlet
        go_enter Tryd.func30, Tryd.ntmps30
        go_wp2_with fail
        refine (letter_is _ _ HL _).mono ?_
        rintro e w' ⟨rfl, rfl⟩
        go_wp2_with fail
        refine (every_any s hs _ identB enter_ident identByte_any _).mono ?_
        rintro e w' ⟨rfl, rfl⟩
        go_wp2_with fail
        go_ret
        exact ⟨by rw [HE.out, HL.out, decide_eq_true h24, Bool.and_self, Bool.true_and]; rfl, rfl⟩
    · have i1 : ¬ (s.size : Int) ≤ 24 := by omega
      have H24 := Lib.hid h24
      clear h24
      go_enter Tryd.func30, Tryd.ntmps30
      go_wp2_with fail
      go_ret
      exact ⟨by rw [HE.out, decide_eq_false H24.out, Bool.false_and, Bool.false_and]; rfl, rfl⟩
end Go.Proofs.YtnaabplppfikcaaDoor
