/- (*parser).skipComment, (*parser).word. -/
import Derived.Test.YtcajkijnpknacaaGreatDoorStep
import Derived.Deep.LoopGhost
import Derived.StillTailTactics
import Derived.LoopTactic
namespace Go.Proofs.YtcajkijnpknacaaGreatDoor
open Go.RowKit
attribute [local go_sem ↓] Go.wp_at_zero Go.wp_at_succ

/-- The bytes behind a place. -/
theorem bytes_extract (s : ByteArray) (a b : Nat) : bytes (s.extract a b) = ((bytes s).drop a).take (b - a) := by
  simp [bytes, ByteArray.data_extract]

theorem indexByte_tail (s : ByteArray) (pos : Nat) (c : UInt8) : Lib.indexByte (s.extract pos s.size).data.toList c = Lib.indexByte ((bytes s).drop pos) c := by
  have h := bytes_extract s pos s.size
  rw [List.take_of_length_le (by rw [List.length_drop, bytes_len]; exact Nat.le_refl _)] at h
  rw [← h]; rfl

/-- A comment that ends at a line's end, or with the text. -/
theorem go_comment_index (st : Stack) : ∀ (l : List UInt8) (pos : Nat), go l pos .comment st = if 0 ≤ Lib.indexByte l 10 then go (l.drop (Lib.indexByte l 10).toNat) (pos + (Lib.indexByte l 10).toNat) .plain st else go [] (pos + l.length) .plain st
  | [], _ => by simp [Lib.indexByte, go]
  | c :: l, pos => by
    have ih := go_comment_index st l (pos + 1)
    by_cases hc : c = 10
    · subst hc
      simp [Lib.indexByte, go, bt, act]
    · have hb : (bt c == 10) = false := by
        simp only [bt, beq_eq_false_iff_ne, ne_eq]
        intro h
        exact hc (UInt8.toNat.inj (by have h' : (c.toNat : Int) = 10 := h; show c.toNat = 10; omega))
      have hge := Lib.indexByte_ge l 10
      simp only [go, hb, Bool.false_eq_true, if_false]
      rw [ih]
      have hcc : (c == 10) = false := by simpa using hc
      by_cases hi : Lib.indexByte l 10 = -1
      · have hx : Lib.indexByte (c :: l) 10 = -1 := by simp [Lib.indexByte, hcc, hi]
        rw [hi, hx, if_neg (by omega), if_neg (by omega), List.length_cons, show pos + 1 + l.length = pos + (l.length + 1) by omega]
        rfl
      · have hx : Lib.indexByte (c :: l) 10 = Lib.indexByte l 10 + 1 := by simp [Lib.indexByte, hcc, hi]
        have h1 : (Lib.indexByte l 10 + 1).toNat = (Lib.indexByte l 10).toNat + 1 := by omega
        rw [hx, if_pos (by omega), if_pos (by omega), h1, List.drop_succ_cons, show pos + 1 + (Lib.indexByte l 10).toNat = pos + ((Lib.indexByte l 10).toNat + 1) by omega]

section
variable {w : World} {F : Fixed} {base pb : Nat} {s : ByteArray} {pos : Nat} {st : Stack}

theorem indexByte_call (s : ByteArray) (pos : Nat) (i : Int) (hi : Hid (Lib.indexByte ((bytes s).drop pos) 10 = i)) (w : World) :
    Calls Tryz.prog 87 #[.string (s.extract pos s.size), .int .u8 10] w fun e w' => e = .returned (.int .i64 i) ∧ w' = w := by
  refine (Tryz.strings_IndexByte (s.extract pos s.size) 10 w).mono ?_
  rintro e w' ⟨rfl, rfl⟩
  refine ⟨?_, rfl⟩
  have h2 := indexByte_tail s pos 10
  rw [hi.out] at h2
  rw [← h2]
  rfl

theorem indexByte_lt : ∀ (l : List UInt8) (c : UInt8), Lib.indexByte l c < l.length ∨ (Lib.indexByte l c = -1 ∧ l = [])
  | [], _ => .inr ⟨rfl, rfl⟩
  | b :: l, c => by
    left
    have := indexByte_lt l c
    simp only [Lib.indexByte, List.length_cons]
    split
    · omega
    · split
      · omega
      · rcases this with h | h
        · omega
        · omega

theorem comment_end {ob cap : Nat} {cur : Array Value} {cvs : List Value} (h : PS w F base pb s pos st ob cap cur cvs) (hL : Lens pos st) (m : Nat) {n : Nat} (hn : 0 < n) (hl : pos + n ≤ s.size) :
    Stepped base pb s pos (go ((bytes s).drop (pos + n)) (pos + n) .plain st) w (.returned (.tuple #[])) ((w.drewN m).setCell ⟨pb, 1, none⟩ (.int .i64 ((pos : Int) + n))) := by
  have h2 := (h.ext (w' := w.drewN m) (Nat.le_refl _) fun _ _ => rfl).setPos (pos + n)
  rw [Int.natCast_add] at h2
  exact ⟨(Below.drewN' (m := m) rfl).setCell h.bp _, .inl ⟨rfl, F, pos + n, st, ⟨ob, cap, cur, cvs, h2⟩, by omega, hl, hL.mono (by omega), rfl⟩⟩
theorem comment_end' {ob cap : Nat} {cur : Array Value} {cvs : List Value} (h : PS w F base pb s pos st ob cap cur cvs) (hL : Lens pos st) (m : Nat) (hl : pos < s.size) :
    Stepped base pb s pos (go ((bytes s).drop s.size) s.size .plain st) w (.returned (.tuple #[])) ((w.drewN m).setCell ⟨pb, 1, none⟩ (.int .i64 (s.size : Int))) := by
  have h2 := (h.ext (w' := w.drewN m) (Nat.le_refl _) fun _ _ => rfl).setPos s.size
  exact ⟨(Below.drewN' (m := m) rfl).setCell h.bp _, .inl ⟨rfl, F, s.size, st, ⟨ob, cap, cur, cvs, h2⟩, by omega, by omega, hL.mono (by omega), rfl⟩⟩

set_option maxHeartbeats 800000 in
theorem comment_step (h : PState w F base pb s pos st) (hL : Lens pos st) (hlt : pos < s.size) (hs : s.size ≤ 65536) (hc : (s[pos].toNat : Int) = 59) :
    Calls Tryz.prog 52 #[.pointer (some ⟨pb, 0, none⟩)] w (Stepped base pb s pos (go ((bytes s).drop pos) pos .plain st) w) := by
  have hlt' : pos < (bytes s).length := by rw [bytes_len]; exact hlt
  have hb : bt (bytes s)[pos] = 59 := hc
  obtain ⟨i, hi⟩ : ∃ i, Lib.indexByte ((bytes s).drop pos) 10 = i := ⟨_, rfl⟩
  have hge := Lib.indexByte_ge ((bytes s).drop pos) 10
  have hil := indexByte_lt ((bytes s).drop pos) 10
  have hne : ¬ (bytes s)[pos] = 10 := by
    intro h; rw [h] at hb; simp [bt] at hb
  have hgo : go ((bytes s).drop pos) pos .plain st = if 0 ≤ i then go ((bytes s).drop (pos + i.toNat)) (pos + i.toNat) .plain st else go ((bytes s).drop s.size) s.size .plain st := by
    have hx : go ((bytes s).drop pos) pos .plain st = go ((bytes s).drop pos) pos .comment st := by
      rw [go_plain hlt', act_comment hb, go_comment_more hlt' (beq_int_false (by omega))]
    rw [hx, go_comment_index, hi]
    split
    · rw [List.drop_drop]
    · rw [List.drop_of_length_le (i := s.size) (by rw [bytes_len]; exact Nat.le_refl _), List.length_drop, bytes_len, show pos + (s.size - pos) = s.size by omega]
  have hi0 : ¬ i = 0 := by
    intro h0
    have := (Lib.indexByte_some (l := (bytes s).drop pos) (c := 10) (o := 0) (by rw [hi, h0]; rfl)).1
    rw [List.getElem?_drop] at this
    rw [Nat.add_zero, List.getElem?_eq_getElem hlt'] at this
    exact hne (by injection this)
  rw [hgo]
  rw [hi] at hge hil
  rw [List.length_drop, bytes_len] at hil
  have hil' : i < (s.size : Int) - pos := by
    rcases hil with h | h
    · omega
    · omega
  have HI := Lib.hid hi
  clear hi hgo hil hne hb hlt'
  obtain ⟨ob, cap, cur, cvs, h⟩ := h
  have p0 := h.p0
  have p1 := h.p1
  have pf := h.pf 1
  have H := Lib.hid h
  have HL := Lib.hid hL
  clear h hL
  have i0 : (0 : Int) ≤ (pos : Int) := by omega
  have i1 : (pos : Int) ≤ (s.size : Int) := by omega
  by_cases hpos : 0 ≤ i
  · obtain ⟨n, rfl⟩ := Int.eq_ofNat_of_zero_le hpos
    rw [if_pos hpos, Int.toNat_natCast]
    go_enter Tryz.func52, Tryz.ntmps52
    go_wp2_with fail
    go_quiet ((go_at_call 87; exact Calls.quiet_of_same (indexByte_call _ _ _ HI _)))
    rename Nat => m1
    go_wp2_with fail
    refine bodyPost_ret (results_none rfl _ _ _) rfl ?_
    exact comment_end H.out HL.out m1 (by omega) (by omega)
  · have hm : i = -1 := by omega
    subst hm
    rw [if_neg (by omega)]
    go_enter Tryz.func52, Tryz.ntmps52
    go_wp2_with fail
    go_quiet ((go_at_call 87; exact Calls.quiet_of_same (indexByte_call _ _ _ HI _)))
    rename Nat => m1
    go_wp2_with fail
    go_end0
    exact comment_end' H.out HL.out m1 hlt

theorem wordByte_is (c : Int) (b : Bool) (hb : Hid (wordB c = b)) (w : World) : Calls Tryz.prog 55 #[.int .u8 c] w fun e w' => e = .returned (.bool b) ∧ w' = w :=
  (wordByte_any c w).mono fun _ _ ⟨h1, h2⟩ => ⟨by rw [h1, hb.out], h2.symm⟩

/-- A piece of the text. -/
def piece (s : ByteArray) (a b : Nat) : List UInt8 := ((bytes s).drop a).take (b - a)
theorem piece_len {s : ByteArray} {a b : Nat} (h : b ≤ s.size) : (piece s a b).length = b - a := by
  rw [piece, List.length_take, List.length_drop, bytes_len]; omega
theorem piece_snoc {s : ByteArray} {a b : Nat} (h : b < s.size) (hab : a ≤ b) : piece s a (b + 1) = piece s a b ++ [s[b]] := by
  have hl : b < (bytes s).length := by rw [bytes_len]; exact h
  rw [piece, piece, show b + 1 - a = (b - a) + 1 by omega, List.take_succ_eq_append_getElem (by rw [List.length_drop]; omega), List.getElem_drop]
  congr 1
  simp only [show a + (b - a) = b by omega]
  rfl
theorem piece_self (s : ByteArray) (a : Nat) : piece s a a = [] := by simp [piece]

theorem go_word_step {s : ByteArray} {pos q : Nat} {st : Stack} (h : q < s.size) (hab : pos ≤ q) (hw : wordB (s[q].toNat : Int) = true) :
    go ((bytes s).drop q) q (.word pos (piece s pos q)) st = go ((bytes s).drop (q + 1)) (q + 1) (.word pos (piece s pos (q + 1))) st := by
  have hl : q < (bytes s).length := by rw [bytes_len]; exact h
  rw [go_word_more pos _ hl hw, piece_snoc h hab]
  rfl

/-- The loop of 'word'. -/
def WordRel (base pb : Nat) (s : ByteArray) (pos : Nat) (st : Stack) (F : Fixed) (ob cap : Nat) (cur : Array Value) (cvs : List Value) (R : Res) (w : World) (k q : Nat) (wr : World) : Prop :=
  k = s.size - q ∧ PS wr F base pb s q st ob cap cur cvs ∧ pos ≤ q ∧ q ≤ s.size ∧ Below base w wr ∧ go ((bytes s).drop q) q (.word pos (piece s pos q)) st = R

theorem word_over {R : Res} {q : Nat} (hq : q ≤ s.size) (hw : ∀ h : q < s.size, wordB (s[q].toNat : Int) = false) (hgo : go ((bytes s).drop q) q (.word pos (piece s pos q)) st = R) :
    (¬ q - pos ≤ 24 → R = .error (4, pos)) ∧ (q - pos ≤ 24 → go ((bytes s).drop q) q .plain (addTop 1 (piece s pos q) .nil pos st) = R) := by
  have h := go_word_done (s := bytes s) (pos := q) (st := st) pos (piece s pos q) (fun hl => hw (by rw [bytes_len] at hl; exact hl))
  rw [hgo] at h
  have hl := piece_len (s := s) (a := pos) hq
  refine ⟨fun h1 => ?_, fun h1 => ?_⟩
  · rw [h, wordAt, if_neg (by omega)]
  · rw [h, wordAt, if_pos (by omega)]

theorem extract_piece (s : ByteArray) (a b : Nat) : s.extract a b = ⟨(piece s a b).toArray⟩ := by
  have h := bytes_extract s a b
  have h2 : (s.extract a b).data = (piece s a b).toArray := by
    apply Array.ext'
    exact h
  rw [← h2]

set_option maxRecDepth 100000 in
set_option maxHeartbeats 1600000 in
theorem word_step (h : PState w F base pb s pos st) (hL : Lens pos st) (hlt : pos < s.size) (hs : s.size ≤ 65536) (hc : wordB (s[pos].toNat : Int) = true) :
    Calls Tryz.prog 56 #[.pointer (some ⟨pb, 0, none⟩)] w (Stepped base pb s pos (go ((bytes s).drop pos) pos .plain st) w) := by
  have hlt' : pos < (bytes s).length := by rw [bytes_len]; exact hlt
  obtain ⟨R, hR⟩ : ∃ R, go ((bytes s).drop pos) pos .plain st = R := ⟨_, rfl⟩
  have hR' : go ((bytes s).drop pos) pos (.word pos (piece s pos pos)) st = R := by
    rw [← hR, go_plain hlt', act_word (show wordB (bt (bytes s)[pos]) = true from hc), piece_self, go_word_more pos [] hlt' hc]
    rfl
  rw [hR]
  obtain ⟨ob, cap, cur, cvs, h⟩ := h
  have p1 := h.p1
  have H := Lib.hid h
  have HL := Lib.hid hL
  have HC := Lib.hid hc
  have HR := Lib.hid hR'
  clear h hL hc hR hR' hlt'
  go_enter Tryz.func56, Tryz.ntmps56
  go_wp2_with fail
  go_loopg [] (s.size - pos) (fun k wr => ∃ q, WordRel base pb s pos st F ob cap cur cvs R w k q wr)
  case atStart => exact ⟨pos, rfl, H.out, Nat.le_refl _, by omega, Below.refl _ _, HR.out⟩
  case round =>
    obtain ⟨q, hk, hps, hq1, hq2, hbl, hgo⟩ := hrel
    have q0 := hps.p0
    have q1 := hps.p1
    have qf := hps.pf 1
    have A1 := Lib.hid hk
    have A2 := Lib.hid hps
    have A3 := Lib.hid hbl
    have A4 := Lib.hid hgo
    clear hk hps hbl hgo
    have i0 : (0 : Int) ≤ (q : Int) := by omega
    by_cases hlt2 : q < s.size
    · have i1 : (q : Int) < (s.size : Int) := by omega
      cases hwb : wordB (s[q].toNat : Int)
      · have HO := Lib.hid (word_over hq2 (fun _ => hwb) A4.out)
        have HW := Lib.hid hwb
        have hpq : pos < q := by
          rcases Nat.lt_or_eq_of_le hq1 with h | h
          · exact h
          · subst h; have := HC.out; rw [hwb] at this; cases this
        clear hwb A4
        by_cases hlen : q - pos ≤ 24
        · have i2 : ¬ (24 : Int) < (q : Int) - (pos : Int) := by omega
          go_wp2_with fail
          go_quiet ((go_at_call 55; exact Calls.quiet_of_same (wordByte_is _ _ HW _)))
          rename Nat => m1
          go_wp2_with fail
          obtain ⟨W, hW⟩ : ∃ W, wr.drewN m1 = W := ⟨_, rfl⟩
          rw [hW]
          have v0 : W.cell? ⟨pb, 0, none⟩ = some (.string s) := by rw [← hW]; exact q0
          have v1 : W.cell? ⟨pb, 1, none⟩ = some (.int .i64 q) := by rw [← hW]; exact q1
          have hPW : PS W F base pb s q st ob cap cur cvs := by rw [← hW]; exact A2.out.ext (Nat.le_refl _) fun _ _ => rfl
          have hBW : Below base w W := by rw [← hW]; exact A3.out.trans (Below.drewN' (m := m1) rfl)
          have HPW := Lib.hid hPW
          have HBW := Lib.hid hBW
          have i3 : (pos : Int) ≤ (q : Int) := by omega
          have i4 : (q : Int) ≤ (s.size : Int) := by omega
          clear hW hPW hBW q0 q1 qf A2 A3
          go_still_tail 13, (by kernel_rfl)
          change wpList _ _ _ _ _ W.drew
          have hPD : PS W.drew F base pb s q st ob cap cur cvs := HPW.out.ext (Nat.le_refl _) fun _ _ => rfl
          have hBD : Below base w W.drew := HBW.out.drew
          have HPD := Lib.hid hPD
          have HBD := Lib.hid hBD
          clear hPD hBD HPW HBW v0 v1
          generalize W.drew = V at *
          go_wp2_with fail
          rw [extract_piece]
          have hLL := HL.out
          match st, cvs, hLL, HPD.out, HPD.out.ok.len with
          | (p, l) :: st, cv :: cvs, hLL, hPV, _ =>
            have hl := hLL.2.2 (p, l) (by simp)
            refine (add_ps (kids := .nil) hPV (Rd.nil _ _ _) (by simp at hl; omega)).mono ?_
            rintro e w2 ⟨rfl, ⟨F2, hP2⟩, hB2⟩
            go_wp2_with fail
            go_end0
            exact ⟨HBD.out.trans hB2, .inl ⟨rfl, F2, q, _, hP2, by omega, hq2, hLL.addTop (k := 1) (t := piece s pos q) (kids := .nil) (o := pos) (by omega), HO.out.2 hlen⟩⟩
        · have i2 : (24 : Int) < (q : Int) - (pos : Int) := by omega
          go_wp2_with fail
          go_quiet ((go_at_call 55; exact Calls.quiet_of_same (wordByte_is _ _ HW _)))
          rename Nat => m1
          go_wp2_with fail
          refine (fail_any _ _ _).mono ?_
          rintro e w' ⟨rfl, rfl⟩
          exact ⟨rfl, A3.out.trans (Below.drewN' (m := m1) rfl), .inr ⟨4, pos, rfl, HO.out.1 hlen⟩⟩
      · have HW := Lib.hid hwb
        clear hwb
        go_wp2_with fail
        go_quiet ((go_at_call 55; exact Calls.quiet_of_same (wordByte_is _ _ HW _)))
        rename Nat => m1
        go_wp2_with fail
        go_roundg (s.size - (q + 1))
        case measure => have := A1.out; omega
        case rel =>
          have h2 := (A2.out.ext (w' := wr.drewN m1) (Nat.le_refl _) fun _ _ => rfl).setPos (q + 1)
          rw [Int.natCast_add] at h2
          exact ⟨q + 1, rfl, h2, by omega, by omega, A3.out.trans ((Below.drewN' (m := m1) rfl).setCell A2.out.bp _), by rw [← go_word_step hlt2 hq1 HW.out]; exact A4.out⟩
    · have i1 : decide (q < s.size) = false := by simp; omega
      have HO := Lib.hid (word_over hq2 (fun h => absurd h hlt2) A4.out)
      clear A4
      have hpq : pos < q := by omega
      by_cases hlen : q - pos ≤ 24
      · have i2 : ¬ (24 : Int) < (q : Int) - (pos : Int) := by omega
        go_wp2_with fail
        go_quiet (fail)
        rename Nat => m1
        go_wp2_with fail
        obtain ⟨W, hW⟩ : ∃ W, wr.drewN m1 = W := ⟨_, rfl⟩
        rw [hW]
        have v0 : W.cell? ⟨pb, 0, none⟩ = some (.string s) := by rw [← hW]; exact q0
        have v1 : W.cell? ⟨pb, 1, none⟩ = some (.int .i64 q) := by rw [← hW]; exact q1
        have hPW : PS W F base pb s q st ob cap cur cvs := by rw [← hW]; exact A2.out.ext (Nat.le_refl _) fun _ _ => rfl
        have hBW : Below base w W := by rw [← hW]; exact A3.out.trans (Below.drewN' (m := m1) rfl)
        have HPW := Lib.hid hPW
        have HBW := Lib.hid hBW
        have i3 : (pos : Int) ≤ (q : Int) := by omega
        have i4 : (q : Int) ≤ (s.size : Int) := by omega
        clear hW hPW hBW q0 q1 qf A2 A3
        go_still_tail 13, (by kernel_rfl)
        change wpList _ _ _ _ _ W.drew
        have hPD : PS W.drew F base pb s q st ob cap cur cvs := HPW.out.ext (Nat.le_refl _) fun _ _ => rfl
        have hBD : Below base w W.drew := HBW.out.drew
        have HPD := Lib.hid hPD
        have HBD := Lib.hid hBD
        clear hPD hBD HPW HBW v0 v1
        generalize W.drew = V at *
        go_wp2_with fail
        rw [extract_piece]
        have hLL := HL.out
        match st, cvs, hLL, HPD.out, HPD.out.ok.len with
        | (p, l) :: st, cv :: cvs, hLL, hPV, _ =>
          have hl := hLL.2.2 (p, l) (by simp)
          refine (add_ps (kids := .nil) hPV (Rd.nil _ _ _) (by simp at hl; omega)).mono ?_
          rintro e w2 ⟨rfl, ⟨F2, hP2⟩, hB2⟩
          go_wp2_with fail
          go_end0
          exact ⟨HBD.out.trans hB2, .inl ⟨rfl, F2, q, _, hP2, by omega, hq2, hLL.addTop (k := 1) (t := piece s pos q) (kids := .nil) (o := pos) (by omega), HO.out.2 hlen⟩⟩
      · have i2 : (24 : Int) < (q : Int) - (pos : Int) := by omega
        go_wp2_with fail
        go_quiet (fail)
        rename Nat => m1
        go_wp2_with fail
        refine (fail_any _ _ _).mono ?_
        rintro e w' ⟨rfl, rfl⟩
        exact ⟨rfl, A3.out.trans (Below.drewN' (m := m1) rfl), .inr ⟨4, pos, rfl, HO.out.1 hlen⟩⟩
end
end Go.Proofs.YtcajkijnpknacaaGreatDoor
