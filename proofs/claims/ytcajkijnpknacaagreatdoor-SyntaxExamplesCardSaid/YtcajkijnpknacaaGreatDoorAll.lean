/- (*parser).all. -/
import Derived.Test.YtcajkijnpknacaaGreatDoorQuoted
namespace Go.Proofs.YtcajkijnpknacaaGreatDoor
open Go.RowKit

/-- What the whole parse comes to. -/
def Parsed (base pb : Nat) (s : ByteArray) (w : World) (e : Ending) (w' : World) : Prop :=
  Below base w w' ∧ ((e = .returned (.tuple #[]) ∧ ∃ F' p l pos', PState w' F' base pb s pos' [(p, l)] ∧ parse (bytes s) = .ok l) ∨
    ∃ k o, e = .panicked (faultOf k o) ∧ parse (bytes s) = .error (k, o))

section
variable {w : World} {F : Fixed} {base pb : Nat} {s : ByteArray}

/-- A text that is too long. -/
theorem all_long (h : PState w F base pb s 0 [(0, .nil)]) (hs : ¬ s.size ≤ 65536) (hs' : s.size ≤ 9223372036854775807) :
    Calls Tryz.prog 34 #[.pointer (some ⟨pb, 0, none⟩)] w (Parsed base pb s w) := by
  obtain ⟨ob, cap, cur, cvs, h⟩ := h
  have p0 := h.p0
  have hR : parse (bytes s) = .error (4, 0) := by rw [parse, bytes_len, if_neg hs]
  have i1 : (65536 : Int) < (s.size : Int) := by omega
  have HR := Lib.hid hR
  clear h hR
  go_enter Tryz.func34, Tryz.ntmps34
  go_wp2_with fail
  refine (fail_any _ _ _).mono ?_
  rintro e w' ⟨rfl, rfl⟩
  exact ⟨rfl, Below.refl _ _, .inr ⟨4, 0, rfl, HR.out⟩⟩

def AllRel (base pb : Nat) (s : ByteArray) (w : World) (k : Nat) (wr : World) : Prop :=
  ∃ q st F, k = s.size - q ∧ PState wr F base pb s q st ∧ Lens q st ∧ q ≤ s.size ∧ Below base w wr ∧ go ((bytes s).drop q) q .plain st = parse (bytes s)

theorem all_next {k q : Nat} {st : Stack} {wr w' : World} {e : Ending} (hk : k = s.size - q) (hb : Below base w wr) (hgo : go ((bytes s).drop q) q .plain st = parse (bytes s))
    (h : Stepped base pb s q (go ((bytes s).drop q) q .plain st) wr e w') : (e = .returned (.tuple #[]) ∧ ∃ k', k' < k ∧ AllRel base pb s w k' w') ∨ (∃ k o, e = .panicked (faultOf k o) ∧ Below base w w' ∧ parse (bytes s) = .error (k, o)) := by
  obtain ⟨h1, h2⟩ := h
  rcases h2 with ⟨rfl, F', q', st', h3, h4, h5, h6, h7⟩ | ⟨k, o, rfl, h3⟩
  · exact .inl ⟨rfl, s.size - q', by omega, q', st', F', rfl, h3, h6, h5, hb.trans h1, h7.trans hgo⟩
  · exact .inr ⟨k, o, rfl, hb.trans h1, hgo ▸ h3⟩

theorem PState.drewN {w : World} {F : Fixed} {base pb : Nat} {s : ByteArray} {pos : Nat} {st : Stack} (h : PState w F base pb s pos st) (m : Nat) : PState (w.drewN m) F base pb s pos st :=
  let ⟨ob, cap, cur, cvs, h⟩ := h; ⟨ob, cap, cur, cvs, h.ext (Nat.le_refl _) fun _ _ => rfl⟩

theorem all_space {q : Nat} {st : Stack} {F : Fixed} {wr : World} (h : PState wr F base pb s q st) (hL : Lens q st) (hb : Below base w wr) (hgo : go ((bytes s).drop q) q .plain st = parse (bytes s)) (hlt : q < s.size) (hc : bt s[q] = 32 ∨ bt s[q] = 10) (m : Nat) :
    AllRel base pb s w (s.size - (q + 1)) ((wr.drewN m).setCell ⟨pb, 1, none⟩ (.int .i64 ((q : Int) + 1))) := by
  obtain ⟨ob, cap, cur, cvs, h⟩ := h
  have h2 := (h.ext (w' := wr.drewN m) (Nat.le_refl _) fun _ _ => rfl).setPos (q + 1)
  rw [Int.natCast_add] at h2
  refine ⟨q + 1, st, F, rfl, ⟨ob, cap, cur, cvs, h2⟩, hL.mono (by omega), by omega, hb.trans ((Below.drewN' (m := m) rfl).setCell h.bp _), ?_⟩
  rw [← hgo, go_plain (s := bytes s) (pos := q) (by rw [bytes_len]; exact hlt), act_space (show bt ((bytes s)[q]'(by rw [bytes_len]; exact hlt)) = 32 ∨ bt ((bytes s)[q]'(by rw [bytes_len]; exact hlt)) = 10 from hc)]

theorem endOf_more {p : Nat} {st : Stack} (h : ¬ st.length = 1) : endOf p st = .error (2, p) := by
  match st, h with
  | [], _ => rfl
  | [_], h => exact (h rfl).elim
  | _ :: _ :: _, _ => rfl

theorem all_end {q : Nat} {st : Stack} {F : Fixed} {wr : World} (h : PState wr F base pb s q st) (hb : Below base w wr) (ho : st.length = 1) (he : endOf s.size st = parse (bytes s)) (m : Nat) :
    Parsed base pb s w (.returned (.tuple #[])) (wr.drewN m) := by
  match st, ho, h with
  | [(p, l)], _, h =>
    exact ⟨hb.trans (Below.drewN' (m := m) rfl), .inl ⟨rfl, F, p, l, q, h.drewN m, he.symm⟩⟩

set_option maxRecDepth 100000 in
set_option maxHeartbeats 3200000 in
theorem all_any (h : PState w F base pb s 0 [(0, .nil)]) (hs : s.size ≤ 65536) :
    Calls Tryz.prog 34 #[.pointer (some ⟨pb, 0, none⟩)] w (Parsed base pb s w) := by
  have hR : go ((bytes s).drop 0) 0 .plain [(0, .nil)] = parse (bytes s) := by rw [parse, bytes_len, if_pos hs, List.drop_zero]
  have H := Lib.hid h
  obtain ⟨ob, cap, cur, cvs, h⟩ := h
  have p0 := h.p0
  have i1 : ¬ (65536 : Int) < (s.size : Int) := by omega
  have HR := Lib.hid hR
  clear h hR
  go_enter Tryz.func34, Tryz.ntmps34
  go_wp2_with fail
  go_loopg [] s.size (fun k wr => AllRel base pb s w k wr)
  case atStart => exact ⟨0, _, F, rfl, H.out, ⟨by simp, by simp, fun x hx => by simp at hx; subst hx; exact Nat.le_refl _⟩, Nat.zero_le _, Below.refl _ _, HR.out⟩
  case round =>
    obtain ⟨q, st, F, hk, hps, hL, hq, hbl, hgo⟩ := hrel
    have HP := Lib.hid hps
    obtain ⟨ob, cap, cur, cvs, hps⟩ := hps
    have q0 := hps.p0
    have q1 := hps.p1
    have q2 := hps.p2
    have qf := hps.pf 1
    have i0 : (0 : Int) ≤ (q : Int) := by omega
    have HL := Lib.hid hL
    have HK := Lib.hid hk
    have HB := Lib.hid hbl
    have HG := Lib.hid hgo
    have hcap := hps.hcap
    unfold maxLen at hcap
    have hle := hps.hle
    clear hk hL hbl hgo hps
    by_cases hlt : q < s.size
    · have i2 : (q : Int) < (s.size : Int) := by omega
      by_cases ha : (s[q].toNat : Int) = 32
      · have ga := beq_int_true ha
        have HE := Lib.hid (show bt s[q] = 32 ∨ bt s[q] = 10 from .inl ha)
        clear ha
        go_wp2_with fail
        go_quiet (fail)
        rename Nat => m1
        go_wp2_with fail
        go_quiet (fail)
        rename Nat => m2
        go_wp2_with fail
        go_roundg (s.size - (q + 1))
        case measure => have := HK.out; omega
        case rel => exact all_space HP.out HL.out HB.out HG.out hlt (HE.out) (m1 + m2)
      have ga := beq_int_false ha
      by_cases hb : (s[q].toNat : Int) = 10
      · have gb := beq_int_true hb
        have HE := Lib.hid (show bt s[q] = 32 ∨ bt s[q] = 10 from .inr hb)
        clear ha hb
        go_wp2_with fail
        go_quiet (fail)
        rename Nat => m1
        go_wp2_with fail
        go_quiet (fail)
        rename Nat => m2
        go_wp2_with fail
        go_roundg (s.size - (q + 1))
        case measure => have := HK.out; omega
        case rel => exact all_space HP.out HL.out HB.out HG.out hlt (HE.out) (m1 + m2)
      have gb := beq_int_false hb
      by_cases hc : (s[q].toNat : Int) = 59
      · have gc := beq_int_true hc
        have HE := Lib.hid hc
        clear ha hb hc
        go_wp2_with fail
        go_quiet (fail)
        rename Nat => m1
        go_wp2_with fail
        go_quiet (fail)
        rename Nat => m2
        go_wp2_with fail
        have hPV : PState (wr.drewN (m1 + m2)) F base pb s q st := HP.out.drewN (m1 + m2)
        have hBV : Below base w (wr.drewN (m1 + m2)) := HB.out.trans (Below.drewN' (m := m1 + m2) rfl)
        refine (comment_step hPV HL.out hlt hs HE.out).mono ?_
        intro e w' hst
        rcases all_next HK.out hBV HG.out hst with ⟨rfl, k', hk', hrel'⟩ | ⟨k, o, rfl, hb', hp'⟩
        · have HR2 := Lib.hid hrel'
          clear hrel' hst hPV hBV
          go_wp2_with fail
          go_roundg k'
          case measure => exact hk'
          case rel => exact HR2.out
        · exact ⟨rfl, hb', .inr ⟨k, o, rfl, hp'⟩⟩
      have gc := beq_int_false hc
      by_cases hd : (s[q].toNat : Int) = 40
      · have gd := beq_int_true hd
        have HE := Lib.hid hd
        clear ha hb hc hd
        go_wp2_with fail
        go_quiet (fail)
        rename Nat => m1
        go_wp2_with fail
        go_quiet (fail)
        rename Nat => m2
        go_wp2_with fail
        have hPV : PState (wr.drewN (m1 + m2)) F base pb s q st := HP.out.drewN (m1 + m2)
        have hBV : Below base w (wr.drewN (m1 + m2)) := HB.out.trans (Below.drewN' (m := m1 + m2) rfl)
        refine (paren_step hPV HL.out hlt hs (.inl HE.out)).mono ?_
        intro e w' hst
        rcases all_next HK.out hBV HG.out hst with ⟨rfl, k', hk', hrel'⟩ | ⟨k, o, rfl, hb', hp'⟩
        · have HR2 := Lib.hid hrel'
          clear hrel' hst hPV hBV
          go_wp2_with fail
          go_roundg k'
          case measure => exact hk'
          case rel => exact HR2.out
        · exact ⟨rfl, hb', .inr ⟨k, o, rfl, hp'⟩⟩
      have gd := beq_int_false hd
      by_cases he : (s[q].toNat : Int) = 41
      · have ge := beq_int_true he
        have HE := Lib.hid he
        clear ha hb hc hd he
        go_wp2_with fail
        go_quiet (fail)
        rename Nat => m1
        go_wp2_with fail
        go_quiet (fail)
        rename Nat => m2
        go_wp2_with fail
        have hPV : PState (wr.drewN (m1 + m2)) F base pb s q st := HP.out.drewN (m1 + m2)
        have hBV : Below base w (wr.drewN (m1 + m2)) := HB.out.trans (Below.drewN' (m := m1 + m2) rfl)
        refine (paren_step hPV HL.out hlt hs (.inr HE.out)).mono ?_
        intro e w' hst
        rcases all_next HK.out hBV HG.out hst with ⟨rfl, k', hk', hrel'⟩ | ⟨k, o, rfl, hb', hp'⟩
        · have HR2 := Lib.hid hrel'
          clear hrel' hst hPV hBV
          go_wp2_with fail
          go_roundg k'
          case measure => exact hk'
          case rel => exact HR2.out
        · exact ⟨rfl, hb', .inr ⟨k, o, rfl, hp'⟩⟩
      have ge := beq_int_false he
      by_cases hf : (s[q].toNat : Int) = 34
      · have gf := beq_int_true hf
        have HE := Lib.hid hf
        clear ha hb hc hd he hf
        go_wp2_with fail
        go_quiet (fail)
        rename Nat => m1
        go_wp2_with fail
        go_quiet (fail)
        rename Nat => m2
        go_wp2_with fail
        have hPV : PState (wr.drewN (m1 + m2)) F base pb s q st := HP.out.drewN (m1 + m2)
        have hBV : Below base w (wr.drewN (m1 + m2)) := HB.out.trans (Below.drewN' (m := m1 + m2) rfl)
        refine (quoted_step hPV HL.out hlt hs HE.out).mono ?_
        intro e w' hst
        rcases all_next HK.out hBV HG.out hst with ⟨rfl, k', hk', hrel'⟩ | ⟨k, o, rfl, hb', hp'⟩
        · have HR2 := Lib.hid hrel'
          clear hrel' hst hPV hBV
          go_wp2_with fail
          go_roundg k'
          case measure => exact hk'
          case rel => exact HR2.out
        · exact ⟨rfl, hb', .inr ⟨k, o, rfl, hp'⟩⟩
      have gf := beq_int_false hf
      cases hw : wordB (s[q].toNat : Int)
      · have HE := Lib.hid (act_bad (c := (bytes s)[q]'(by rw [bytes_len]; exact hlt)) (pos := q) (st := st) hw ha hb hc hd he hf)
        have HW := Lib.hid hw
        clear ha hb hc hd he hf hw
        go_wp2_with fail
        go_quiet (fail)
        rename Nat => m1
        go_wp2_with fail
        go_quiet (fail)
        rename Nat => m2
        go_wp2_with fail
        refine (wordByte_is _ _ HW _).mono ?_
        rintro e w' ⟨rfl, rfl⟩
        go_wp2_with fail
        refine (fail_any _ _ _).mono ?_
        rintro e w' ⟨rfl, rfl⟩
        refine ⟨rfl, HB.out.trans (Below.drewN' (m := m1 + m2) rfl), .inr ⟨2, q, rfl, ?_⟩⟩
        rw [← HG.out, go_plain (by rw [bytes_len]; exact hlt), HE.out]
      · have HW := Lib.hid hw
        clear ha hb hc hd he hf hw
        go_wp2_with fail
        go_quiet (fail)
        rename Nat => m1
        go_wp2_with fail
        go_quiet (fail)
        rename Nat => m2
        go_wp2_with fail
        refine (wordByte_is _ _ HW _).mono ?_
        rintro e w' ⟨rfl, rfl⟩
        go_wp2_with fail
        have hPV : PState (wr.drewN (m1 + m2)) F base pb s q st := HP.out.drewN (m1 + m2)
        have hBV : Below base w (wr.drewN (m1 + m2)) := HB.out.trans (Below.drewN' (m := m1 + m2) rfl)
        refine (word_step hPV HL.out hlt hs HW.out).mono ?_
        intro e w' hst
        rcases all_next HK.out hBV HG.out hst with ⟨rfl, k', hk', hrel'⟩ | ⟨k, o, rfl, hb', hp'⟩
        · have HR2 := Lib.hid hrel'
          clear hrel' hst hPV hBV
          go_wp2_with fail
          go_roundg k'
          case measure => exact hk'
          case rel => exact HR2.out
        · exact ⟨rfl, hb', .inr ⟨k, o, rfl, hp'⟩⟩
    · have i2 : ¬ (q : Int) < (s.size : Int) := by omega
      have i3 : decide (q < s.size) = false := by simp; omega
      have hqs : q = s.size := by omega
      have HE : Hid (endOf s.size st = parse (bytes s)) := by
        have := HG.out
        rwa [go_end (by rw [bytes_len]; omega), hqs] at this
      clear hqs
      by_cases hone : st.length = 1
      · have i4 : ¬ (1 : Int) < (st.length : Int) := by omega
        have HO := Lib.hid hone
        clear hone
        go_wp2_with fail
        go_quiet (fail)
        rename Nat => m1
        go_wp2_with fail
        go_end0
        exact all_end HP.out HB.out HO.out HE.out m1
      · have hpos : 0 < st.length := List.length_pos_iff.2 HL.out.1
        have i4 : (1 : Int) < (st.length : Int) := by omega
        have HO := Lib.hid hone
        clear hone
        go_wp2_with fail
        go_quiet (fail)
        rename Nat => m1
        go_wp2_with fail
        refine (fail_any _ _ _).mono ?_
        rintro e w' ⟨rfl, rfl⟩
        exact ⟨rfl, HB.out.trans (Below.drewN' (m := m1) rfl), .inr ⟨2, s.size, rfl, by rw [← HE.out, endOf_more (by have := HO.out; omega)]⟩⟩
end
end Go.Proofs.YtcajkijnpknacaaGreatDoor
