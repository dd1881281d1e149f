/- (*parser).quoted. -/
import Derived.Test.YtcajkijnpknacaaGreatDoorWord
import Derived.Test.YtcajkijnpknacaaGreatDoorBuf
namespace Go.Proofs.YtcajkijnpknacaaGreatDoor
open Go.RowKit

theorem infoByte : (Tryz.prog.info? 5).map (fun i => (i.zero, i.size, i.bytes)) = some (some (.int .u8 0), 1, 1) := by kernel_rfl

/-- Below the blocks of the running call, only the position has turned. -/
structure Low (w wr : World) (pb : Nat) (s : ByteArray) (q ob n cap : Nat) : Prop where
  size : w.heap.size ≤ wr.heap.size
  head : wr.heap[pb]? = some (.cells #[.string s, .int .i64 q, .slice (some ⟨ob, 0, none⟩) n cap] 87 (0, 0))
  other : ∀ b, b < w.heap.size → b ≠ pb → wr.heap[b]? = w.heap[b]?
  os : wr.os = w.os
  tape : wr.tape = w.tape
  output : wr.output = w.output

section
variable {w wr w1 : World} {F : Fixed} {base pb : Nat} {s : ByteArray} {pos q : Nat} {st : Stack} {ob cap n : Nat} {cur : Array Value} {cvs : List Value}

theorem Low.start (h : PS w F base pb s pos st ob cap cur cvs) : Low w w pb s pos ob st.length cap := ⟨Nat.le_refl _, h.hp, fun _ _ _ => rfl, rfl, rfl, rfl⟩
theorem Low.lp (h : Low w wr pb s q ob n cap) : pb < wr.heap.size := (Array.getElem?_eq_some_iff.1 h.head).1
theorem Low.drewN (h : Low w wr pb s q ob n cap) (m : Nat) : Low w (wr.drewN m) pb s q ob n cap := ⟨h.size, h.head, h.other, h.os, h.tape, h.output⟩
theorem Low.setPos (h : Low w wr pb s q ob n cap) (q' : Nat) : Low w (wr.setCell ⟨pb, 1, none⟩ (.int .i64 q')) pb s q' ob n cap :=
  ⟨by rw [(setCell_same wr _ _).1]; exact h.size, by rw [setCell_row h.head]; rfl, fun b hb hne => (setCell_far hne).trans (h.other b hb hne), h.os, h.tape, h.output⟩
theorem Low.grown (h : Low w wr pb s q ob n cap) (lp : pb < w.heap.size) {row : Option Nat} (hg : wr.grownBy w1 row) (hr : ∀ k, row = some k → w.heap.size ≤ k) : Low w w1 pb s q ob n cap :=
  ⟨Nat.le_trans h.size hg.size, (hg.block pb h.lp (fun e => by have := hr pb e.symm; omega)).trans h.head,
    fun b hb hne => (hg.block b (Nat.lt_of_lt_of_le hb h.size) (fun e => by have := hr b e.symm; omega)).trans (h.other b hb hne), hg.os.trans h.os, hg.tape.trans h.tape, hg.output.trans h.output⟩
theorem Low.below (h : Low w wr pb s q ob n cap) (hp : base ≤ pb) (hb : base ≤ w.heap.size) : Below base w wr :=
  ⟨h.os, h.tape, h.output, h.size, fun b hlt => h.other b (by omega) (by omega)⟩
theorem Low.ps (h : PS w F base pb s pos st ob cap cur cvs) (hl : Low w wr pb s q ob st.length cap) : PS wr F base pb s q st ob cap cur cvs := by
  have hb := hl.other
  have hx : Fix F w wr := fun b o hf => World.cell?_of_block (hb b (h.fw b o hf) (by rintro rfl; exact h.fp o hf))
  refine ⟨hl.head, (hb _ h.lo (Ne.symm h.hpo)).trans h.ho, h.hcs, h.hle, h.hcap, h.cells, h.ok.turn hx (fun _ _ h => h) (fun u hu b e => ⟨hb b (StOk.lt e h.ok hu) ?_, fun _ h => h⟩), h.hpo, h.bp, h.bo, h.fp, h.fo, h.far, Nat.le_trans h.bw hl.size, fun b j hf => Nat.lt_of_lt_of_le (h.fw b j hf) hl.size, h.fb⟩
  rintro rfl
  exact (h.far u hu).1 e
theorem Low.p0 (h : Low w wr pb s q ob n cap) : wr.cell? ⟨pb, 0, none⟩ = some (.string s) := by rw [cell_of_row wr _ _ _ _ _ h.head]; rfl
theorem Low.p1 (h : Low w wr pb s q ob n cap) : wr.cell? ⟨pb, 1, none⟩ = some (.int .i64 q) := by rw [cell_of_row wr _ _ _ _ _ h.head]; rfl
theorem Low.pf (h : Low w wr pb s q ob n cap) (j : Nat) : wr.frozen? ⟨pb, j, none⟩ = false := by simp [World.frozen?, h.head]

/- The reader inside a string. -/
section
variable {L : List UInt8} {acc : List UInt8}
theorem go_text_end : go ([] : List UInt8) q (.text pos acc) st = .error (2, q) := rfl
theorem go_text_close (h : q < L.length) (hc : bt L[q] = 34) : go (L.drop q) q (.text pos acc) st = if acc.length ≤ 2000 then go (L.drop (q + 1)) (q + 1) .plain (addTop 2 acc .nil pos st) else .error (4, pos) := by
  rw [drop_at h]; simp [go, hc]
theorem go_text_bad (h : q < L.length) (hc : ¬ bt L[q] = 34) (hs : stringB (bt L[q]) = false) : go (L.drop q) q (.text pos acc) st = .error (2, q) := by
  rw [drop_at h]; simp [go, hc, hs]
theorem go_text_byte (h : q < L.length) (hc : ¬ bt L[q] = 34) (hs : stringB (bt L[q]) = true) (h9 : ¬ bt L[q] = 92) : go (L.drop q) q (.text pos acc) st = go (L.drop (q + 1)) (q + 1) (.text pos (acc ++ [L[q]])) st := by
  rw [drop_at h]; simp [go, hc, hs, h9]
theorem go_text_escape_end (h : q + 1 = L.length) (h9 : bt (L[q]'(by omega)) = 92) : go (L.drop q) q (.text pos acc) st = .error (2, q) := by
  rw [drop_at (by omega), List.drop_of_length_le (i := q + 1) (by omega)]
  simp [go, h9, stringB]
theorem go_text_escape_bad (h : q + 1 < L.length) (h9 : bt (L[q]'(by omega)) = 92) (h1 : ¬ bt L[q + 1] = 34) (h2 : ¬ bt L[q + 1] = 92) : go (L.drop q) q (.text pos acc) st = .error (2, q) := by
  rw [drop_at (by omega), drop_at h]
  simp [go, h9, h1, h2, stringB]
theorem go_text_escape (h : q + 1 < L.length) (h9 : bt (L[q]'(by omega)) = 92) (h1 : bt L[q + 1] = 34 ∨ bt L[q + 1] = 92) : go (L.drop q) q (.text pos acc) st = go (L.drop (q + 2)) (q + 2) (.text pos (acc ++ [L[q + 1]])) st := by
  rw [drop_at (by omega), drop_at h]
  rcases h1 with h1 | h1 <;> simp [go, h9, h1, stringB]
end

theorem stringByte_is (c : Int) (b : Bool) (hb : Hid (stringB c = b)) (w : World) : Calls Tryz.prog 89 #[.int .u8 c] w fun e w' => e = .returned (.bool b) ∧ w = w' :=
  (stringByte_any c w).mono fun _ _ ⟨h1, h2⟩ => ⟨by rw [h1, hb.out], h2⟩

def QRel (w : World) (pb : Nat) (s : ByteArray) (pos : Nat) (st : Stack) (ob cap : Nat) (R : Res) (k q : Nat) (acc : List UInt8) (bv : Value) (wr : World) : Prop :=
  k = s.size - q ∧ Low w wr pb s q ob st.length cap ∧ pos < q ∧ q ≤ s.size ∧ acc.length ≤ q ∧ wr.ownsRow w.heap.size 5 1 bv acc.length (acc.map byteV) ∧ go ((bytes s).drop q) q (.text pos acc) st = R

theorem q_next {R : Res} {acc : List UInt8} {c : UInt8} {q' g c2 : Nat} (lp : pb < w.heap.size) (hl : Low w w1 pb s q ob st.length cap)
    (hown : w1.ownsRow w.heap.size 5 1 (.slice (some ⟨g, 0, none⟩) (acc.length + 1) c2) (acc.length + 1) (acc.map byteV ++ [.int .u8 (c.toNat : Int)])) (h1 : pos < q') (h2 : q' ≤ s.size) (h3 : acc.length + 1 ≤ q') (hgo : go ((bytes s).drop q') q' (.text pos (acc ++ [c])) st = R) :
    QRel w pb s pos st ob cap R (s.size - q') q' (acc ++ [c]) (.slice (some ⟨g, 0, none⟩) (acc.length + 1) c2) (w1.setCell ⟨pb, 1, none⟩ (.int .i64 q')) := by
  refine ⟨rfl, hl.setPos q', h1, h2, by simpa using h3, ?_, hgo⟩
  have h := ownsRow_of_block (w' := w1.setCell ⟨pb, 1, none⟩ (.int .i64 q')) hown (fun b e => setCell_far (by have := (hown.lt b e).1; omega))
  simpa [byteV] using h

set_option maxRecDepth 100000 in
set_option maxHeartbeats 3200000 in
theorem quoted_step (h : PState w F base pb s pos st) (hL : Lens pos st) (hlt : pos < s.size) (hs : s.size ≤ 65536) (hc : (s[pos].toNat : Int) = 34) :
    Calls Tryz.prog 54 #[.pointer (some ⟨pb, 0, none⟩)] w (Stepped base pb s pos (go ((bytes s).drop pos) pos .plain st) w) := by
  have hlt' : pos < (bytes s).length := by rw [bytes_len]; exact hlt
  obtain ⟨R, hR⟩ : ∃ R, go ((bytes s).drop pos) pos .plain st = R := ⟨_, rfl⟩
  have hR' : go ((bytes s).drop (pos + 1)) (pos + 1) (.text pos []) st = R := by
    rw [← hR, go_plain hlt', act_text (show bt (bytes s)[pos] = 34 from hc)]
  rw [hR]
  obtain ⟨ob, cap, cur, cvs, h⟩ := h
  have p1 := h.p1
  have pf := h.pf 1
  have lp := h.lp
  have H := Lib.hid h
  have HL := Lib.hid hL
  have HC := Lib.hid hc
  have HR := Lib.hid hR'
  obtain ⟨ti, hi0, hz0, hz1, hz2⟩ := info_parts infoByte
  have Hz0 := Lib.hid hz0
  have Hz1 := Lib.hid hz1
  have Hz2 := Lib.hid hz2
  have Hi0 := Lib.hid hi0
  clear h hL hc hR hR' hlt' hz0 hz1 hz2 hi0
  go_enter Tryz.func54, Tryz.ntmps54
  go_wp2_with fail
  go_loopg [3] (s.size - (pos + 1)) (fun k bv wr => ∃ q acc, QRel w pb s pos st ob cap R k q acc bv wr)
  case atStart => exact ⟨pos + 1, [], rfl, by have := (Low.start H.out).setPos (pos + 1); rwa [Int.natCast_add] at this, by omega, by omega, Nat.zero_le _, World.ownsRow_nil _ _ _ _, HR.out⟩
  case round =>
    obtain ⟨q, acc, hk, hlow, hq1, hq2, hal, hown, hgo⟩ := hrel
    obtain ⟨ba, bc, hbv⟩ := ownsRow_slice hown
    subst hbv
    have q0 := hlow.p0
    have q1 := hlow.p1
    have qf := hlow.pf 1
    have i0 : (0 : Int) ≤ (q : Int) := by omega
    by_cases hlt2 : q < s.size
    · have i1 : (q : Int) < (s.size : Int) := by omega
      have hltL : q < (bytes s).length := by rw [bytes_len]; exact hlt2
      by_cases h34 : (s[q].toNat : Int) = 34
      · have g34 := beq_int_true h34
        have hgo' := hgo
        rw [go_text_close hltL h34] at hgo'
        by_cases hlen : acc.length ≤ 2000
        · rw [if_pos hlen] at hgo'
          have hcv : ∀ (m : Nat) (v : Value), (convert 47 9 (.slice ba acc.length bc)).run Tryz.prog ((wr.drewN m).setCell ⟨pb, 1, none⟩ v) = .ok (.string ⟨acc.toArray⟩) ((wr.drewN m).setCell ⟨pb, 1, none⟩ v) := fun m v =>
            convert_own hown (fun b e => by
              have hb := hown.lt b e
              exact setCell_far (w := wr.drewN m) (by omega)) _ _ Tryz.underlying47 Tryz.underlying5 Tryz.underlying9
          have i2 : ¬ (2000 : Int) < (acc.length : Int) := by omega
          have A1 := Lib.hid hlow
          have A2 := Lib.hid hgo'
          clear hk hlow hown hgo hgo' h34
          go_wp2_with fail
          go_quiet (fail)
          rename Nat => m1
          go_wp2_with fail
          go_quiet (fail)
          rename Nat => m2
          go_wp2_with fail
          have hPV := Low.ps H.out ((A1.out.drewN (m1 + m2)).setPos (q + 1))
          have hBV := ((A1.out.drewN (m1 + m2)).setPos (q + 1)).below H.out.bp H.out.bw
          rw [Int.natCast_add] at hPV hBV
          have hLL := HL.out
          have hgg := A2.out
          match st, cvs, hLL, hPV, hPV.ok.len, hgg with
          | (p, l) :: st, cv :: cvs, hLL, hPV, _, hgg =>
            have hl := hLL.2.2 (p, l) (by simp)
            refine (add_ps (kids := .nil) hPV (Rd.nil _ _ _) (by simp at hl; omega)).mono ?_
            rintro e w2 ⟨rfl, ⟨F2, hP2⟩, hB2⟩
            go_wp2_with fail
            refine bodyPost_ret (results_none rfl _ _ _) rfl ?_
            exact ⟨hBV.trans hB2, .inl ⟨rfl, F2, q + 1, _, hP2, by omega, by omega, hLL.addTop (k := 2) (t := acc) (kids := .nil) (o := pos) (by omega), hgg⟩⟩
        · rw [if_neg hlen] at hgo'
          have i2 : (2000 : Int) < (acc.length : Int) := by omega
          have A1 := Lib.hid hlow
          have A2 := Lib.hid hgo'
          clear hk hlow hown hgo hgo' h34
          go_wp2_with fail
          go_quiet (fail)
          rename Nat => m1
          go_wp2_with fail
          go_quiet (fail)
          rename Nat => m2
          go_wp2_with fail
          refine (fail_any _ _ _).mono ?_
          rintro e w' ⟨rfl, rfl⟩
          exact ⟨rfl, (((A1.out.drewN _).setPos (q + 1)).below H.out.bp H.out.bw), .inr ⟨4, pos, rfl, A2.out.symm⟩⟩
      · have g34 := beq_int_false h34
        cases hsb : stringB (s[q].toNat : Int)
        · have hgo' := hgo
          rw [go_text_bad hltL h34 hsb] at hgo'
          have A1 := Lib.hid hlow
          have A2 := Lib.hid hgo'
          have A3 := Lib.hid hsb
          clear hk hlow hown hgo hgo' h34 hsb
          go_wp2_with fail
          go_quiet (fail)
          rename Nat => m1
          go_wp2_with fail
          go_quiet (fail)
          rename Nat => m2
          go_wp2_with fail
          refine (stringByte_is _ _ A3 _).mono ?_
          rintro e w' ⟨rfl, rfl⟩
          go_wp2_with fail
          refine (fail_any _ _ _).mono ?_
          rintro e w' ⟨rfl, rfl⟩
          exact ⟨rfl, ((A1.out.drewN _).below H.out.bp H.out.bw), .inr ⟨2, q, rfl, A2.out.symm⟩⟩
        · by_cases h92 : (s[q].toNat : Int) = 92
          · have g92 := beq_int_true h92
            by_cases hend : q + 1 = s.size
            · have hgo' := hgo
              rw [go_text_escape_end (L := bytes s) (by rw [bytes_len]; exact hend) h92] at hgo'
              have i2 : (((q : Int) + 1) == (s.size : Int)) = true := beq_int_true (by omega)
              have A1 := Lib.hid hlow
              have A2 := Lib.hid hgo'
              have A3 := Lib.hid hsb
              have A4 := Lib.hid hend
              clear hk hlow hown hgo hgo' h34 h92 hsb hend
              go_wp2_with fail
              go_quiet (fail)
              rename Nat => m1
              go_wp2_with fail
              go_quiet (fail)
              rename Nat => m2
              go_wp2_with fail
              refine (stringByte_is _ _ A3 _).mono ?_
              rintro e w' ⟨rfl, rfl⟩
              go_wp2_with fail
              go_quiet (fail)
              rename Nat => m3
              go_wp2_with fail
              refine (fail_any _ _ _).mono ?_
              rintro e w' ⟨rfl, rfl⟩
              exact ⟨rfl, ((A1.out.drewN _).below H.out.bp H.out.bw), .inr ⟨2, q, rfl, A2.out.symm⟩⟩
            · have hlt3 : q + 1 < s.size := by omega
              have i2 : (((q : Int) + 1) == (s.size : Int)) = false := beq_int_false (by omega)
              have i3 : (0 : Int) ≤ (q : Int) + 1 := by omega
              have i4 : (q : Int) + 1 < (s.size : Int) := by omega
              have i5 : ((q : Int) + 1).toNat = q + 1 := by omega
              by_cases h1 : (s[q + 1].toNat : Int) = 34
              · have n1 : ((s[q + 1].toNat : Int) != 34) = false := by simp [h1]
                have hgo' := hgo
                rw [go_text_escape (L := bytes s) (by rw [bytes_len]; exact hlt3) h92 (.inl h1)] at hgo'
                have A1 := Lib.hid hlow
                have A2 := Lib.hid hgo'
                have A3 := Lib.hid hsb
                have A4 := Lib.hid hk
                clear hk hlow hgo hgo' h34 h92 hsb hend h1
                go_wp2_with fail
                go_quiet (fail)
                rename Nat => m1
                go_wp2_with fail
                go_quiet (fail)
                rename Nat => m2
                go_wp2_with fail
                refine (stringByte_is _ _ A3 _).mono ?_
                rintro e w' ⟨rfl, rfl⟩
                go_wp2_with fail
                go_quiet (fail)
                rename Nat => m3
                go_wp2_with fail
                have hlowV := (A1.out.drewN (m1 + m2 + m3)).setPos (q + 1)
                rw [Int.natCast_add] at hlowV
                have hownV := ownsRow_of_block (w' := (wr.drewN (m1 + m2 + m3)).setCell ⟨pb, 1, none⟩ (.int .i64 ((q : Int) + 1))) hown (fun b e => setCell_far (w := wr.drewN (m1 + m2 + m3)) (by have := (hown.lt b e).1; omega))
                first
                  | (generalize hV : (wr.drewN (m1 + m2 + m3)).setCell ⟨pb, 1, none⟩ (.int .i64 ((q : Int) + 1)) = V at *)
                have v0 := hlowV.p0
                have v1 := hlowV.p1
                rw [Int.natCast_add] at v1
                have B1 := Lib.hid hlowV
                have B2 := Lib.hid hownV
                clear hlowV hownV hown hV q0 q1 qf
                go_quiet (fail)
                rename Nat => m4
                go_wp2_with (at_builtin; refine wpList_append_fix _ rfl _ _ 47 rfl w.heap.size 5 ti (.int .u8 0) 1 1 Tryz.underlying47 Hi0.out Hz0.out Hz1.out Hz2.out rfl (by omega) (.slice ba acc.length bc) acc.length (acc.map byteV) rfl (World.ownsRow.alloc (w := V.drewN m4) B2.out _) ⟨V.heap.size, 0, none⟩ 1 1 [.int .u8 (s[q + 1].toNat : Int)] rfl rfl ?c1 ?c2 ?c3 ?c4 ?c5 ?c6 ?_)
                case c1 => exact cell_one_new _ _ _
                case c2 => simp [Value.oneCell']
                case c3 => omega
                case c4 => unfold maxLen; omega
                case c5 => omega
                case c6 => have := B1.out.size; simp; omega
                intro g c2 w1 hA
                have hlow1 := ((B1.out.drewN m4).grown lp (World.grownBy_alloc _ _ none) (fun k e => by cases e)).grown lp hA.grown (fun k e => (B2.out.lt k e).1)
                have r1 := hlow1.p1
                rw [Int.natCast_add] at r1
                have rf := hlow1.pf 1
                have A5 := Lib.hid hlow1
                have A6 := Lib.hid hA.own
                clear hlow1 hA v0 v1
                go_wp2_with fail
                go_roundg (s.size - (q + 2))
                case measure => have := A4.out; omega
                case rel => exact ⟨q + 2, acc ++ [s[q + 1]], q_next lp A5.out A6.out (by omega) (by omega) (by omega) A2.out⟩
              · have n1 : ((s[q + 1].toNat : Int) != 34) = true := by simpa using h1
                by_cases h2 : (s[q + 1].toNat : Int) = 92
                · have n2 : ((s[q + 1].toNat : Int) != 92) = false := by simp [h2]
                  have hgo' := hgo
                  rw [go_text_escape (L := bytes s) (by rw [bytes_len]; exact hlt3) h92 (.inr h2)] at hgo'
                  have A1 := Lib.hid hlow
                  have A2 := Lib.hid hgo'
                  have A3 := Lib.hid hsb
                  have A4 := Lib.hid hk
                  clear hk hlow hgo hgo' h34 h92 hsb hend h1 h2
                  go_wp2_with fail
                  go_quiet (fail)
                  rename Nat => m1
                  go_wp2_with fail
                  go_quiet (fail)
                  rename Nat => m2
                  go_wp2_with fail
                  refine (stringByte_is _ _ A3 _).mono ?_
                  rintro e w' ⟨rfl, rfl⟩
                  go_wp2_with fail
                  go_quiet (fail)
                  rename Nat => m3
                  go_wp2_with fail
                  have hlowV := (A1.out.drewN (m1 + m2 + m3)).setPos (q + 1)
                  rw [Int.natCast_add] at hlowV
                  have hownV := ownsRow_of_block (w' := (wr.drewN (m1 + m2 + m3)).setCell ⟨pb, 1, none⟩ (.int .i64 ((q : Int) + 1))) hown (fun b e => setCell_far (w := wr.drewN (m1 + m2 + m3)) (by have := (hown.lt b e).1; omega))
                  first
                    | (generalize hV : (wr.drewN (m1 + m2 + m3)).setCell ⟨pb, 1, none⟩ (.int .i64 ((q : Int) + 1)) = V at *)
                  have v0 := hlowV.p0
                  have v1 := hlowV.p1
                  rw [Int.natCast_add] at v1
                  have B1 := Lib.hid hlowV
                  have B2 := Lib.hid hownV
                  clear hlowV hownV hown hV q0 q1 qf
                  go_quiet (fail)
                  rename Nat => m4
                  go_wp2_with (at_builtin; refine wpList_append_fix _ rfl _ _ 47 rfl w.heap.size 5 ti (.int .u8 0) 1 1 Tryz.underlying47 Hi0.out Hz0.out Hz1.out Hz2.out rfl (by omega) (.slice ba acc.length bc) acc.length (acc.map byteV) rfl (World.ownsRow.alloc (w := V.drewN m4) B2.out _) ⟨V.heap.size, 0, none⟩ 1 1 [.int .u8 (s[q + 1].toNat : Int)] rfl rfl ?c1 ?c2 ?c3 ?c4 ?c5 ?c6 ?_)
                  case c1 => exact cell_one_new _ _ _
                  case c2 => simp [Value.oneCell']
                  case c3 => omega
                  case c4 => unfold maxLen; omega
                  case c5 => omega
                  case c6 => have := B1.out.size; simp; omega
                  intro g c2 w1 hA
                  have hlow1 := ((B1.out.drewN m4).grown lp (World.grownBy_alloc _ _ none) (fun k e => by cases e)).grown lp hA.grown (fun k e => (B2.out.lt k e).1)
                  have r1 := hlow1.p1
                  rw [Int.natCast_add] at r1
                  have rf := hlow1.pf 1
                  have A5 := Lib.hid hlow1
                  have A6 := Lib.hid hA.own
                  clear hlow1 hA v0 v1
                  go_wp2_with fail
                  go_roundg (s.size - (q + 2))
                  case measure => have := A4.out; omega
                  case rel => exact ⟨q + 2, acc ++ [s[q + 1]], q_next lp A5.out A6.out (by omega) (by omega) (by omega) A2.out⟩
                · have n2 : ((s[q + 1].toNat : Int) != 92) = true := by simpa using h2
                  have hgo' := hgo
                  rw [go_text_escape_bad (L := bytes s) (by rw [bytes_len]; exact hlt3) h92 h1 h2] at hgo'
                  have A1 := Lib.hid hlow
                  have A2 := Lib.hid hgo'
                  have A3 := Lib.hid hsb
                  clear hk hlow hown hgo hgo' h34 h92 hsb hend h1 h2
                  go_wp2_with fail
                  go_quiet (fail)
                  rename Nat => m1
                  go_wp2_with fail
                  go_quiet (fail)
                  rename Nat => m2
                  go_wp2_with fail
                  refine (stringByte_is _ _ A3 _).mono ?_
                  rintro e w' ⟨rfl, rfl⟩
                  go_wp2_with fail
                  go_quiet (fail)
                  rename Nat => m3
                  go_wp2_with fail
                  refine (fail_any _ _ _).mono ?_
                  rintro e w' ⟨rfl, rfl⟩
                  exact ⟨rfl, ((A1.out.drewN _).below H.out.bp H.out.bw), .inr ⟨2, q, rfl, A2.out.symm⟩⟩
          · have g92 := beq_int_false h92
            have hgo' := hgo
            rw [go_text_byte hltL h34 hsb h92] at hgo'
            have A1 := Lib.hid hlow
            have A2 := Lib.hid hgo'
            have A3 := Lib.hid hsb
            have A4 := Lib.hid hk
            clear hk hlow hgo hgo' h34 h92 hsb
            go_wp2_with fail
            go_quiet (fail)
            rename Nat => m1
            go_wp2_with fail
            go_quiet (fail)
            rename Nat => m2
            go_wp2_with fail
            refine (stringByte_is _ _ A3 _).mono ?_
            rintro e w' ⟨rfl, rfl⟩
            go_wp2_with (at_builtin; refine wpList_append_fix _ rfl _ _ 47 rfl w.heap.size 5 ti (.int .u8 0) 1 1 Tryz.underlying47 Hi0.out Hz0.out Hz1.out Hz2.out rfl (by omega) (.slice ba acc.length bc) acc.length (acc.map byteV) rfl (World.ownsRow.alloc (w := wr.drewN (m1 + m2)) hown _) ⟨wr.heap.size, 0, none⟩ 1 1 [.int .u8 (s[q].toNat : Int)] rfl rfl ?c1 ?c2 ?c3 ?c4 ?c5 ?c6 ?_)
            case c1 => exact cell_one_new _ _ _
            case c2 => simp [Value.oneCell']
            case c3 => omega
            case c4 => unfold maxLen; omega
            case c5 => omega
            case c6 => have := A1.out.size; simp; omega
            intro g c2 w1 hA
            have hlow1 := ((A1.out.drewN (m1 + m2)).grown lp (World.grownBy_alloc _ _ none) (fun k e => by cases e)).grown lp hA.grown (fun k e => (hown.lt k e).1)
            have r1 := hlow1.p1
            have rf := hlow1.pf 1
            have A5 := Lib.hid hlow1
            have A6 := Lib.hid hA.own
            clear hlow1 hA hown q0 q1 qf
            go_wp2_with fail
            go_roundg (s.size - (q + 1))
            case measure => have := A4.out; omega
            case rel => exact ⟨q + 1, acc ++ [s[q]], q_next lp A5.out A6.out (by omega) (by omega) (by omega) A2.out⟩
    · have hgo' : R = .error (2, s.size) := by
        rw [← hgo, List.drop_of_length_le (by rw [bytes_len]; omega), go_text_end, show q = s.size by omega]
      have A1 := Lib.hid hlow
      have A2 := Lib.hid hgo'
      clear hk hlow hown hgo hgo'
      go_wp2_with fail
      go_quiet (fail)
      rename Nat => m1
      go_wp2_with fail
      refine (fail_any _ _ _).mono ?_
      rintro e w' ⟨rfl, rfl⟩
      exact ⟨rfl, (A1.out.drewN m1).below H.out.bp H.out.bw, .inr ⟨2, s.size, rfl, A2.out⟩⟩
end
end Go.Proofs.YtcajkijnpknacaaGreatDoor
