/- telref1.Quote. -/
import Derived.Test.YtnaabplppfikcaaDoorText
import Derived.Test.YtnaabplppfikcaaDoorQuoted
namespace Go.Proofs.YtnaabplppfikcaaDoor
open Go.RowKit

theorem esc_append : ∀ (a b : List UInt8), esc (a ++ b) = esc a ++ esc b
  | [], _ => rfl
  | c :: a, b => by
    simp only [List.cons_append, esc]
    split <;> simp [esc_append a b]
theorem esc_one {c : UInt8} (h : ¬ (c = 34 ∨ c = 92)) : esc [c] = [c] := by simp [esc, h]
theorem esc_two {c : UInt8} (h : c = 34 ∨ c = 92) : esc [c] = [92, c] := by simp [esc, h]
theorem esc_len (t : List UInt8) : (esc t).length ≤ 2 * t.length := by
  induction t with
  | nil => simp [esc]
  | cons c t ih => simp only [esc]; split <;> simp <;> omega

/-- The loop of Quote. -/
def QuoteRel (w : World) (s : ByteArray) (k : Nat) (bv iv : Value) (wr : World) : Prop :=
  ∃ (i : Nat) (acc : List UInt8), k = s.size - i ∧ i ≤ s.size ∧ iv = .int .i64 (i : Nat) ∧ acc = 34 :: esc ((bytes s).take i) ∧ wr.ownsRow w.heap.size 5 1 bv acc.length (acc.map byteV) ∧ Below w.heap.size w wr
theorem quote_next {s : ByteArray} {i : Nat} {acc x : List UInt8} (h : acc = 34 :: esc ((bytes s).take i)) (hi : i < s.size) (hx : x = acc ++ esc [s[i]]) : x = 34 :: esc ((bytes s).take (i + 1)) := by
  rw [hx, h, List.take_add_one, List.getElem?_eq_getElem (by rw [bytes_len]; exact hi), bytes_get s i hi, esc_append]
  rfl
theorem own_one {w : World} {v : Value} {T : TypeId} : (w.alloc (.cells #[v] T (0, 0))).ownsRow w.heap.size T 1 (.slice (some ⟨w.heap.size, 0, none⟩) 1 1) 1 [v] :=
  ⟨rfl, .inr ⟨w.heap.size, 1, #[v], rfl, Nat.le_refl _, heap_alloc_new w _, Nat.le_refl _, by unfold maxLen; omega, rfl, rfl⟩⟩
theorem byte_eq {c : UInt8} {n : Nat} (hn : n < 256) : (c.toNat : Int) = (n : Int) ↔ c = UInt8.ofNat n := bt_eq hn

set_option maxRecDepth 100000 in
set_option maxHeartbeats 3200000 in
theorem quote_any (s : ByteArray) (w : World) (hs : s.size ≤ 1000000) : Calls Tryd.prog 32 #[.string s] w fun e w' => e = .returned (.string ⟨(quote (bytes s)).toArray⟩) ∧ Below w.heap.size w w' := by
  obtain ⟨ti, hi0, hz0, hz1, hz2⟩ := info_parts infoByte
  have Hz0 := Lib.hid hz0
  have Hz1 := Lib.hid hz1
  have Hz2 := Lib.hid hz2
  have Hi0 := Lib.hid hi0
  clear hz0 hz1 hz2 hi0
  go_enter Tryd.func32, Tryd.ntmps32
  go_wp2_with fail
  go_loopg [3, 4] s.size (fun k bv iv wr => QuoteRel w s k bv iv wr)
  case atStart => exact ⟨0, [34], rfl, Nat.zero_le _, rfl, by simp [esc], own_one, (Below.refl _ _).alloc (Nat.le_refl _) _⟩
  case round =>
    obtain ⟨i, acc, hk, hi, rfl, hacc, hown, hbel⟩ := hrel
    obtain ⟨ba, bc, hbv⟩ := ownsRow_slice hown
    subst hbv
    have A1 := Lib.hid hk
    have A2 := Lib.hid hbel
    have HE := Lib.hid hacc
    have A3 : Hid (acc.length ≤ 2 * i + 1) := by
      show _ ≤ _
      rw [hacc]
      have := esc_len ((bytes s).take i)
      simp only [List.length_cons, List.length_take] at this ⊢
      omega
    have i0 : (0 : Int) ≤ (i : Int) := by omega
    clear hk hbel hacc
    by_cases hlt : i < s.size
    · have i1 : (i : Int) < (s.size : Int) := by omega
      by_cases h34 : (s[i].toNat : Int) = 34
      · have g34 := beq_int_true h34
        have hsp : s[i] = 34 ∨ s[i] = 92 := .inl ((byte_eq (n := 34) (by omega)).1 h34)
        clear h34
        go_wp2_with (at_builtin; refine wpList_append_fix _ rfl _ _ 69 rfl w.heap.size 5 ti (.int .u8 0) 1 1 Tryd.underlying69 Hi0.out Hz0.out Hz1.out Hz2.out rfl (by omega) (.slice ba acc.length bc) acc.length (acc.map byteV) rfl (World.ownsRow.alloc hown _) ⟨wr.heap.size, 0, none⟩ 1 1 [.int .u8 92] rfl rfl ?c1 ?c2 ?c3 ?c4 ?c5 ?c6 ?_)
        case c1 => exact cell_one_new _ _ _
        case c2 => simp [Value.oneCell']
        case c3 => omega
        case c4 => have := A3.out; unfold maxLen; omega
        case c5 => have := A3.out; omega
        case c6 => have := A2.out.size; simp; omega
        intro g c2 w1 hA
        have hown1 : w1.ownsRow w.heap.size 5 1 (.slice (some ⟨g, 0, none⟩) (acc ++ [92]).length c2) (acc ++ [92]).length ((acc ++ [92]).map byteV) := by simpa [byteV] using hA.own
        have A4 := Lib.hid (A2.out.trans ((((Below.refl _ _).alloc (Nat.le_refl _) _).mono A2.out.size).grown hA.grown (by have := A2.out.size; simp; omega) (fun k e => (hown.lt k e).1)))
        have hq : acc.length + 1 = (acc ++ [92]).length := by simp
        rw [hq]
        obtain ⟨acc2, hacc2⟩ : ∃ a, acc ++ [92] = a := ⟨_, rfl⟩
        rw [hacc2] at hown1 ⊢
        have A5 := Lib.hid hacc2
        have A6 : Hid (acc2.length = acc.length + 1) := by show _ = _; rw [← hacc2]; simp
        clear hA hown hq hacc2
        go_wp2_with (at_builtin; refine wpList_append_fix _ rfl _ _ 69 rfl w.heap.size 5 ti (.int .u8 0) 1 1 Tryd.underlying69 Hi0.out Hz0.out Hz1.out Hz2.out rfl (by omega) (.slice (some ⟨g, 0, none⟩) acc2.length c2) acc2.length (acc2.map byteV) rfl (World.ownsRow.alloc hown1 _) ⟨w1.heap.size, 0, none⟩ 1 1 [(.int .u8 (s[i].toNat : Int))] rfl rfl ?c1 ?c2 ?c3 ?c4 ?c5 ?c6 ?_)
        case c1 => exact cell_one_new _ _ _
        case c2 => simp [Value.oneCell']
        case c3 => omega
        case c4 => have := A3.out; unfold maxLen; have := A6.out;omega
        case c5 => have := A3.out; have := A6.out;omega
        case c6 => have := A4.out.size; simp; omega
        intro g' c2' w2 hA
        have hrel' : QuoteRel w s (s.size - (i + 1)) (.slice (some ⟨g', 0, none⟩) (acc2.length + 1) c2') (.int .i64 ((i + 1 : Nat) : Int)) w2 :=
          ⟨i + 1, acc2 ++ [s[i]], rfl, by omega, rfl, quote_next HE.out hlt (by rw [← A5.out, esc_two hsp]; simp), by simpa [byteV] using hA.own, A4.out.trans ((((Below.refl _ _).alloc (Nat.le_refl _) _).mono A4.out.size).grown hA.grown (by have := A4.out.size; simp; omega) (fun k e => (hown1.lt k e).1))⟩
        have HR2 := Lib.hid hrel'
        clear hrel' hA hown1
        go_wp2_with fail
        go_roundg (s.size - (i + 1))
        case measure => have := A1.out; omega
        case rel => exact HR2.out

      · have g34 := beq_int_false h34
        by_cases h92 : (s[i].toNat : Int) = 92
        · have g92 := beq_int_true h92
          have hsp : s[i] = 34 ∨ s[i] = 92 := .inr ((byte_eq (n := 92) (by omega)).1 h92)
          clear h34 h92
          go_wp2_with (at_builtin; refine wpList_append_fix _ rfl _ _ 69 rfl w.heap.size 5 ti (.int .u8 0) 1 1 Tryd.underlying69 Hi0.out Hz0.out Hz1.out Hz2.out rfl (by omega) (.slice ba acc.length bc) acc.length (acc.map byteV) rfl (World.ownsRow.alloc hown _) ⟨wr.heap.size, 0, none⟩ 1 1 [.int .u8 92] rfl rfl ?c1 ?c2 ?c3 ?c4 ?c5 ?c6 ?_)
          case c1 => exact cell_one_new _ _ _
          case c2 => simp [Value.oneCell']
          case c3 => omega
          case c4 => have := A3.out; unfold maxLen; omega
          case c5 => have := A3.out; omega
          case c6 => have := A2.out.size; simp; omega
          intro g c2 w1 hA
          have hown1 : w1.ownsRow w.heap.size 5 1 (.slice (some ⟨g, 0, none⟩) (acc ++ [92]).length c2) (acc ++ [92]).length ((acc ++ [92]).map byteV) := by simpa [byteV] using hA.own
          have A4 := Lib.hid (A2.out.trans ((((Below.refl _ _).alloc (Nat.le_refl _) _).mono A2.out.size).grown hA.grown (by have := A2.out.size; simp; omega) (fun k e => (hown.lt k e).1)))
          have hq : acc.length + 1 = (acc ++ [92]).length := by simp
          rw [hq]
          obtain ⟨acc2, hacc2⟩ : ∃ a, acc ++ [92] = a := ⟨_, rfl⟩
          rw [hacc2] at hown1 ⊢
          have A5 := Lib.hid hacc2
          have A6 : Hid (acc2.length = acc.length + 1) := by show _ = _; rw [← hacc2]; simp
          clear hA hown hq hacc2
          go_wp2_with (at_builtin; refine wpList_append_fix _ rfl _ _ 69 rfl w.heap.size 5 ti (.int .u8 0) 1 1 Tryd.underlying69 Hi0.out Hz0.out Hz1.out Hz2.out rfl (by omega) (.slice (some ⟨g, 0, none⟩) acc2.length c2) acc2.length (acc2.map byteV) rfl (World.ownsRow.alloc hown1 _) ⟨w1.heap.size, 0, none⟩ 1 1 [(.int .u8 (s[i].toNat : Int))] rfl rfl ?c1 ?c2 ?c3 ?c4 ?c5 ?c6 ?_)
          case c1 => exact cell_one_new _ _ _
          case c2 => simp [Value.oneCell']
          case c3 => omega
          case c4 => have := A3.out; unfold maxLen; have := A6.out;omega
          case c5 => have := A3.out; have := A6.out;omega
          case c6 => have := A4.out.size; simp; omega
          intro g' c2' w2 hA
          have hrel' : QuoteRel w s (s.size - (i + 1)) (.slice (some ⟨g', 0, none⟩) (acc2.length + 1) c2') (.int .i64 ((i + 1 : Nat) : Int)) w2 :=
            ⟨i + 1, acc2 ++ [s[i]], rfl, by omega, rfl, quote_next HE.out hlt (by rw [← A5.out, esc_two hsp]; simp), by simpa [byteV] using hA.own, A4.out.trans ((((Below.refl _ _).alloc (Nat.le_refl _) _).mono A4.out.size).grown hA.grown (by have := A4.out.size; simp; omega) (fun k e => (hown1.lt k e).1))⟩
          have HR2 := Lib.hid hrel'
          clear hrel' hA hown1
          go_wp2_with fail
          go_roundg (s.size - (i + 1))
          case measure => have := A1.out; omega
          case rel => exact HR2.out

        · have g92 := beq_int_false h92
          have hne : ¬ (s[i] = 34 ∨ s[i] = 92) := fun h => by
            rcases h with h | h
            · exact h34 ((byte_eq (n := 34) (by omega)).2 h)
            · exact h92 ((byte_eq (n := 92) (by omega)).2 h)
          clear h34 h92
          go_wp2_with (at_builtin; refine wpList_append_fix _ rfl _ _ 69 rfl w.heap.size 5 ti (.int .u8 0) 1 1 Tryd.underlying69 Hi0.out Hz0.out Hz1.out Hz2.out rfl (by omega) (.slice ba acc.length bc) acc.length (acc.map byteV) rfl (World.ownsRow.alloc hown _) ⟨wr.heap.size, 0, none⟩ 1 1 [(.int .u8 (s[i].toNat : Int))] rfl rfl ?c1 ?c2 ?c3 ?c4 ?c5 ?c6 ?_)
          case c1 => exact cell_one_new _ _ _
          case c2 => simp [Value.oneCell']
          case c3 => omega
          case c4 => have := A3.out; unfold maxLen; omega
          case c5 => have := A3.out; omega
          case c6 => have := A2.out.size; simp; omega
          intro g c2 w1 hA
          have hrel' : QuoteRel w s (s.size - (i + 1)) (.slice (some ⟨g, 0, none⟩) (acc.length + 1) c2) (.int .i64 ((i + 1 : Nat) : Int)) w1 :=
            ⟨i + 1, acc ++ [s[i]], rfl, by omega, rfl, quote_next HE.out hlt (by rw [esc_one hne]), by simpa [byteV] using hA.own, A2.out.trans ((((Below.refl _ _).alloc (Nat.le_refl _) _).mono A2.out.size).grown hA.grown (by have := A2.out.size; simp; omega) (fun k e => (hown.lt k e).1))⟩
          have HR2 := Lib.hid hrel'
          clear hrel' hA hown
          go_wp2_with fail
          go_roundg (s.size - (i + 1))
          case measure => have := A1.out; omega
          case rel => exact HR2.out

    · have hin : i = s.size := by omega
      subst hin
      go_wp2_with (at_builtin; refine wpList_append_fix _ rfl _ _ 69 rfl w.heap.size 5 ti (.int .u8 0) 1 1 Tryd.underlying69 Hi0.out Hz0.out Hz1.out Hz2.out rfl (by omega) (.slice ba acc.length bc) acc.length (acc.map byteV) rfl (World.ownsRow.alloc hown _) ⟨wr.heap.size, 0, none⟩ 1 1 [.int .u8 34] rfl rfl ?c1 ?c2 ?c3 ?c4 ?c5 ?c6 ?_)
      case c1 => exact cell_one_new _ _ _
      case c2 => simp [Value.oneCell']
      case c3 => omega
      case c4 => have := A3.out; unfold maxLen; omega
      case c5 => have := A3.out; omega
      case c6 => have := A2.out.size; simp; omega
      intro g c2 w1 hA
      have hown1 : w1.ownsRow w.heap.size 5 1 (.slice (some ⟨g, 0, none⟩) (acc ++ [34]).length c2) (acc ++ [34]).length ((acc ++ [34]).map byteV) := by simpa [byteV] using hA.own
      have A4 := Lib.hid (A2.out.trans ((((Below.refl _ _).alloc (Nat.le_refl _) _).mono A2.out.size).grown hA.grown (by have := A2.out.size; simp; omega) (fun k e => (hown.lt k e).1)))
      have hq : acc.length + 1 = (acc ++ [34]).length := by simp
      have hfin : acc ++ [34] = quote (bytes s) := by rw [HE.out, ← bytes_len, List.take_length]; rfl
      rw [hfin] at hown1 hq
      rw [hq]
      have hcv := convert_own (W := w1) hown1 (fun _ _ => rfl) _ _ Tryd.underlying69 Tryd.underlying5 Tryd.underlying9
      clear hA hown hown1 hq
      go_wp2_with fail
      go_ret
      exact ⟨rfl, A4.out⟩
end Go.Proofs.YtnaabplppfikcaaDoor
