/- The reference's quoted. -/
import Derived.Test.YtnaabplppfikcaaRefLow
import Derived.Test.YtnaabplppfikcaaQuoted
namespace Go.Proofs.Ytnaabplppfikcaa
open Go.RowKit
attribute [local go_sem ↓] Go.wp_at_zero Go.wp_at_succ

/-- What 'quoted' comes to. -/
def Quoted (s : ByteArray) (pos pb : Nat) (w : World) (e : Ending) (w' : World) : Prop :=
  ∃ (q' : Nat) (fk : Int) (fo : Nat) (t : List UInt8), e = .returned (.agg #[.int .i64 2, .string ⟨t.toArray⟩, .slice none 0 0, .int .i64 pos]) ∧ RLow w w' pb s q' fk fo ∧ pos < q' ∧ q' ≤ s.size ∧
    ((fk = 0 ∧ fo = 0 ∧ ∀ st, go ((bytes s).drop pos) pos .plain st = go ((bytes s).drop q') q' .plain (addTop 2 t .nil pos st)) ∨ (¬ fk = 0 ∧ ∀ st, go ((bytes s).drop pos) pos .plain st = .error (fk, fo)))

section
variable {w w0 wr w1 X : World} {pb nb rb : Nat} {s : ByteArray} {pos q : Nat}

/-- The node under work lies in block nb, the result in block rb. -/
structure QBox (X : World) (nb rb : Nat) (pos : Nat) (t : List UInt8) : Prop where
  hn : X.heap[nb]? = some (.cells #[.int .i64 2, .string ⟨t.toArray⟩, .slice none 0 0, .int .i64 pos] 52 (0, 0))
  hr : X.heap[rb]? = some (.cells #[.int .i64 0, .string ⟨#[]⟩, .slice none 0 0, .int .i64 0] 52 (0, 0))
theorem QBox.low {t : List UInt8} (h : QBox w0 nb rb pos t) {fk fo : Int} (hl : RLow w0 X pb s q fk fo) (h1 : nb ≠ pb) (h2 : rb ≠ pb) : QBox X nb rb pos t :=
  ⟨(hl.other nb (Array.getElem?_eq_some_iff.1 h.hn).1 h1).trans h.hn, (hl.other rb (Array.getElem?_eq_some_iff.1 h.hr).1 h2).trans h.hr⟩
theorem QBox.n {t : List UInt8} (h : QBox X nb rb pos t) : X.cell? ⟨nb, 0, none⟩ = some (.int .i64 2) ∧ X.cell? ⟨nb, 1, none⟩ = some (.string ⟨t.toArray⟩) ∧ X.cell? ⟨nb, 2, none⟩ = some (.slice none 0 0) ∧ X.cell? ⟨nb, 3, none⟩ = some (.int .i64 pos) ∧ X.frozen? ⟨nb, 1, none⟩ = false := by
  refine ⟨?_, ?_, ?_, ?_, by simp [World.frozen?, h.hn]⟩ <;> (rw [cell_of_row X _ _ _ _ _ h.hn]; rfl)
theorem QBox.r {t : List UInt8} (h : QBox X nb rb pos t) : X.cell? ⟨rb, 0, none⟩ = some (.int .i64 0) ∧ X.cell? ⟨rb, 1, none⟩ = some (.string ⟨#[]⟩) ∧ X.cell? ⟨rb, 2, none⟩ = some (.slice none 0 0) ∧ X.cell? ⟨rb, 3, none⟩ = some (.int .i64 0) ∧ ∀ j, X.frozen? ⟨rb, j, none⟩ = false := by
  refine ⟨?_, ?_, ?_, ?_, fun j => by simp [World.frozen?, h.hr]⟩ <;> (rw [cell_of_row X _ _ _ _ _ h.hr]; rfl)
theorem QBox.setText {t t' : List UInt8} (h : QBox X nb rb pos t) (hne : rb ≠ nb) : QBox (X.setCell ⟨nb, 1, none⟩ (.string ⟨t'.toArray⟩)) nb rb pos t' :=
  ⟨by rw [setCell_row h.hn]; rfl, (setCell_far hne).trans h.hr⟩

/-- The node is handed back. -/
theorem q_result {t : List UInt8} {fk : Int} {fo : Nat} (hl : RLow w X pb s q fk fo) (hr : w.heap.size ≤ rb) (h1 : pos < q) (h2 : q ≤ s.size)
    (h : (fk = 0 ∧ fo = 0 ∧ ∀ st, go ((bytes s).drop pos) pos .plain st = go ((bytes s).drop q) q .plain (addTop 2 t .nil pos st)) ∨ (¬ fk = 0 ∧ ∀ st, go ((bytes s).drop pos) pos .plain st = .error (fk, fo))) (a b c d : Value) :
    Quoted s pos pb w (.returned (.agg #[.int .i64 2, .string ⟨t.toArray⟩, .slice none 0 0, .int .i64 pos])) ((((X.setCell ⟨rb, 0, none⟩ a).setCell ⟨rb, 1, none⟩ b).setCell ⟨rb, 2, none⟩ c).setCell ⟨rb, 3, none⟩ d) :=
  ⟨q, fk, fo, t, rfl, (((hl.setNew hr _).setNew hr _).setNew hr _).setNew hr _, h1, h2, h⟩

def RQRel (w0 : World) (pb : Nat) (s : ByteArray) (pos : Nat) (k q : Nat) (acc : List UInt8) (bv : Value) (wr : World) : Prop :=
  k = s.size - q ∧ RLow w0 wr pb s q 0 0 ∧ pos < q ∧ q ≤ s.size ∧ acc.length ≤ q ∧ wr.ownsRow w0.heap.size 5 1 bv acc.length (acc.map byteV) ∧ ∀ st, go ((bytes s).drop pos) pos .plain st = go ((bytes s).drop q) q (.text pos acc) st

theorem rq_next {acc : List UInt8} {c : UInt8} {q' g c2 : Nat} (hl : RLow w0 w1 pb s q 0 0)
    (hown : w1.ownsRow w0.heap.size 5 1 (.slice (some ⟨g, 0, none⟩) (acc.length + 1) c2) (acc.length + 1) (acc.map byteV ++ [.int .u8 (c.toNat : Int)])) (h1 : pos < q') (h2 : q' ≤ s.size) (h3 : acc.length + 1 ≤ q') (hgo : ∀ st, go ((bytes s).drop pos) pos .plain st = go ((bytes s).drop q') q' (.text pos (acc ++ [c])) st) :
    RQRel w0 pb s pos (s.size - q') q' (acc ++ [c]) (.slice (some ⟨g, 0, none⟩) (acc.length + 1) c2) (w1.setCell ⟨pb, 1, none⟩ (.int .i64 q')) := by
  have lp := hl.lp
  refine ⟨rfl, hl.setPos q', h1, h2, by simpa using h3, ?_, hgo⟩
  have h := ownsRow_of_block (w' := w1.setCell ⟨pb, 1, none⟩ (.int .i64 q')) hown (fun b e => setCell_far (by have := (hown.lt b e).1; omega))
  simpa [byteV] using h

theorem q_start (w : World) (pb pos : Nat) : QBox (((w.setCell ⟨pb, 1, none⟩ (.int .i64 ((pos + 1 : Nat) : Int))).alloc (.cells #[.int .i64 0, .string ⟨#[]⟩, .slice none 0 0, .int .i64 0] 52)).alloc (.cells #[.int .i64 2, .string ⟨#[]⟩, .slice none 0 0, .int .i64 pos] 52)) (w.heap.size + 1) w.heap.size pos [] := by
  have hs := (setCell_same w ⟨pb, 1, none⟩ (.int .i64 ((pos + 1 : Nat) : Int))).1
  refine ⟨?_, ?_⟩
  · have h := heap_alloc_new ((w.setCell ⟨pb, 1, none⟩ (.int .i64 ((pos + 1 : Nat) : Int))).alloc (.cells #[.int .i64 0, .string ⟨#[]⟩, .slice none 0 0, .int .i64 0] 52)) (.cells #[.int .i64 2, .string ⟨#[]⟩, .slice none 0 0, .int .i64 pos] 52)
    rw [World.size_alloc, hs] at h
    exact h
  · have h := heap_alloc_new (w.setCell ⟨pb, 1, none⟩ (.int .i64 ((pos + 1 : Nat) : Int))) (.cells #[.int .i64 0, .string ⟨#[]⟩, .slice none 0 0, .int .i64 0] 52)
    rw [hs] at h
    rw [Below.heap_alloc _ _ _ (by rw [World.size_alloc, hs]; omega)]
    exact h

set_option maxRecDepth 100000 in
set_option maxHeartbeats 6400000 in
theorem rquoted_any (h : w.heap[pb]? = some (.cells #[.string s, .int .i64 pos, .int .i64 0, .int .i64 0] 49 (0, 0))) (hs : s.size ≤ 65536) (hlt : pos < s.size) (hc : (s[pos].toNat : Int) = 34) :
    Calls Try.prog 29 #[.pointer (some ⟨pb, 0, none⟩)] w (Quoted s pos pb w) := by
  have hlt' : pos < (bytes s).length := by rw [bytes_len]; exact hlt
  have hR : ∀ st, go ((bytes s).drop pos) pos .plain st = go ((bytes s).drop (pos + 1)) (pos + 1) (.text pos []) st := fun st => by
    rw [go_plain hlt', act_text (show bt (bytes s)[pos] = 34 from hc)]
  have hl := RLow.start h
  have p1 := hl.p1
  have pf := hl.pf 1
  have lp := hl.lp
  have H := Lib.hid hl
  have HR := Lib.hid hR
  obtain ⟨ti, hi0, hz0, hz1, hz2⟩ := info_parts infoByte
  have Hz0 := Lib.hid hz0
  have Hz1 := Lib.hid hz1
  have Hz2 := Lib.hid hz2
  have Hi0 := Lib.hid hi0
  clear h hl hc hR hlt' hz0 hz1 hz2 hi0
  go_enter Try.func29, Try.ntmps29
  go_wp2_with fail
  have hL0 := (((H.out.setPos (pos + 1)).alloc (.cells #[.int .i64 0, .string ⟨#[]⟩, .slice none 0 0, .int .i64 0] 52)).alloc (.cells #[.int .i64 2, .string ⟨#[]⟩, .slice none 0 0, .int .i64 pos] 52))
  have hQ0 : QBox (((w.setCell ⟨pb, 1, none⟩ (.int .i64 ((pos + 1 : Nat) : Int))).alloc (.cells #[.int .i64 0, .string ⟨#[]⟩, .slice none 0 0, .int .i64 0] 52)).alloc (.cells #[.int .i64 2, .string ⟨#[]⟩, .slice none 0 0, .int .i64 pos] 52)) (w.heap.size + 1) w.heap.size pos [] := q_start w pb pos
  rw [Int.natCast_add] at hL0 hQ0
  obtain ⟨w0, hW⟩ : ∃ w0, (((w.setCell ⟨pb, 1, none⟩ (.int .i64 ((pos : Int) + 1))).alloc (.cells #[.int .i64 0, .string ⟨#[]⟩, .slice none 0 0, .int .i64 0] 52)).alloc (.cells #[.int .i64 2, .string ⟨#[]⟩, .slice none 0 0, .int .i64 pos] 52)) = w0 := ⟨_, rfl⟩
  have HW := Lib.hid hW
  rw [hW]
  have HL0 : Hid (RLow w w0 pb s (pos + 1) 0 0) := by rw [← hW]; exact hL0
  have HQ0 : Hid (QBox w0 (w.heap.size + 1) w.heap.size pos []) := by rw [← hW]; exact hQ0
  have hrb : w.heap.size ≤ w.heap.size := Nat.le_refl _
  have hnp : w.heap.size + 1 ≠ pb := by omega
  have hrp : w.heap.size ≠ pb := by omega
  clear hW hL0 hQ0 HW p1 pf
  go_loopg [4] (s.size - (pos + 1)) (fun k bv wr => ∃ q acc, RQRel w0 pb s pos k q acc bv wr)
  case atStart => exact ⟨pos + 1, [], rfl, HL0.out.again, by omega, by omega, Nat.zero_le _, World.ownsRow_nil _ _ _ _, HR.out⟩
  case round =>
    obtain ⟨q, acc, hk, hlow, hq1, hq2, hal, hown, hgo⟩ := hrel
    obtain ⟨ba, bc, hbv⟩ := ownsRow_slice hown
    subst hbv
    have q0 := hlow.p0
    have q1 := hlow.p1
    have qf := hlow.pf 1
    have i0 : (0 : Int) ≤ (q : Int) := by omega
    by_cases hlt2 : q < s.size
    · have i1 : (q : Int) < (s.size : Int) := by omega
      have hltL : q < (bytes s).length := by rw [bytes_len]; exact hlt2
      by_cases h34 : (s[q].toNat : Int) = 34
      · have g34 := beq_int_true h34
        have hgo' : ∀ st, go ((bytes s).drop pos) pos .plain st = if acc.length ≤ 2000 then go ((bytes s).drop (q + 1)) (q + 1) .plain (addTop 2 acc .nil pos st) else .error (4, pos) := fun st => by
          rw [hgo st, go_text_close hltL h34]
        have hcv : ∀ (m : Nat) (v : Value), (convert 36 9 (.slice ba acc.length bc)).run Try.prog ((wr.drewN m).setCell ⟨pb, 1, none⟩ v) = .ok (.string ⟨acc.toArray⟩) ((wr.drewN m).setCell ⟨pb, 1, none⟩ v) := fun m v =>
          convert_own hown (fun b e => by
            have hb := hown.lt b e
            have := hlow.lp
            exact setCell_far (w := wr.drewN m) (by omega)) _ _ Try.underlying36 Try.underlying5 Try.underlying9
        have hqw := HQ0.out.low hlow hnp hrp
        obtain ⟨n0, n1, n2, n3, n4⟩ := hqw.n
        obtain ⟨rr0, rr1, rr2, rr3, rr4⟩ := hqw.r
        have A1 := Lib.hid hlow
        have HQW := Lib.hid hqw
        have hlw : w.heap.size + 1 < wr.heap.size := (Array.getElem?_eq_some_iff.1 hqw.hn).1
        by_cases hlen : acc.length ≤ 2000
        · have i2 : ¬ (2000 : Int) < (acc.length : Int) := by omega
          have A2 : Hid (∀ st, go ((bytes s).drop pos) pos .plain st = go ((bytes s).drop (q + 1)) (q + 1) .plain (addTop 2 acc .nil pos st)) := fun st => by rw [hgo' st, if_pos hlen]
          clear hk hlow hown hgo hgo' h34 hqw
          go_wp2_with fail
          go_quiet (fail)
          rename Nat => m1
          go_wp2_with fail
          go_quiet (fail)
          rename Nat => m2
          go_wp2_with fail
          refine bodyPost_ret (v := .agg #[.int .i64 2, .string ⟨acc.toArray⟩, .slice none 0 0, .int .i64 pos]) (by simp [results, Try.results29, go_sem, rr0, rr1, rr2, rr3]) rfl ?_
          exact q_result (fk := 0) (fo := 0) (((HL0.out.trans (A1.out.drewN (m1 + m2))).setPos (q + 1)).setNew (g := w.heap.size + 1) (by omega) _) hrb (by omega) (by omega) (.inl ⟨rfl, rfl, A2.out⟩) _ _ _ _
        · have i2 : (2000 : Int) < (acc.length : Int) := by omega
          have A2 : Hid (∀ st, go ((bytes s).drop pos) pos .plain st = .error (4, pos)) := fun st => by rw [hgo' st, if_neg hlen]
          clear hk hlow hown hgo hgo' h34 hqw
          go_wp2_with fail
          go_quiet (fail)
          rename Nat => m1
          go_wp2_with fail
          go_quiet (fail)
          rename Nat => m2
          go_wp2_with fail
          have hlV := ((HL0.out.trans (A1.out.drewN (m1 + m2))).setPos (q + 1)).setNew (g := w.heap.size + 1) (o := 1) (by omega) (.string ⟨acc.toArray⟩)
          have hqV : QBox (((wr.drewN (m1 + m2)).setCell ⟨pb, 1, none⟩ (.int .i64 ((q + 1 : Nat) : Int))).setCell ⟨w.heap.size + 1, 1, none⟩ (.string ⟨acc.toArray⟩)) (w.heap.size + 1) w.heap.size pos acc := (QBox.low (HQW.out) ((A1.out.again.drewN (m1 + m2)).setPos (q + 1)) hnp hrp).setText (by omega)
          rw [Int.natCast_add] at hlV hqV
          refine (rfail_any hlV.head _ _).mono ?_
          rintro e w2 ⟨rfl, hf⟩
          have hl2 := hlV.trans hf
          have hq2' := QBox.low hqV hf hnp hrp
          have HX := Lib.hid hl2
          have HQ := Lib.hid hq2'
          clear hl2 hq2' hf hlV hqV rr0 rr1 rr2 rr3 rr4 n0 n1 n2 n3 n4
          have cn := HQ.out.n
          have cr := HQ.out.r
          obtain ⟨cn0, cn1, cn2, cn3, cn4⟩ := cn
          obtain ⟨cr0, cr1, cr2, cr3, cr4⟩ := cr
          go_wp2_with fail
          refine bodyPost_ret (v := .agg #[.int .i64 2, .string ⟨List.toArray acc⟩, .slice none 0 0, .int .i64 pos]) (by simp [results, Try.results29, go_sem, cr0, cr1, cr2, cr3]) rfl ?_
          exact q_result HX.out hrb (by omega) (by omega) (.inr ⟨by omega, A2.out⟩) _ _ _ _
      have g34 := beq_int_false h34
      cases hsb : stringB (s[q].toNat : Int)
      · have hgo' : ∀ st, go ((bytes s).drop pos) pos .plain st = .error (2, q) := fun st => by
          rw [hgo st, go_text_bad hltL h34 hsb]
        have hns : ¬ (32 ≤ (s[q].toNat : Int) ∧ (s[q].toNat : Int) ≤ 126) := fun h => by
          rw [(stringB_iff _).2 h] at hsb; cases hsb
        have A1 := Lib.hid hlow
        have A2 := Lib.hid hgo'
        clear hk hlow hown hgo hgo' hsb
        by_cases h32 : (s[q].toNat : Int) < 32
        · clear hns h34
          go_wp2_with fail
          go_quiet (fail)
          rename Nat => m1
          go_wp2_with fail
          go_quiet (fail)
          rename Nat => m2
          go_wp2_with fail
          refine (rfail_any (A1.out.drewN (m1 + m2)).head _ _).mono ?_
          rintro e w2 ⟨rfl, hf⟩
          have hl2 := HL0.out.trans ((A1.out.drewN (m1 + m2)).trans hf)
          have hq2' := QBox.low (HQ0.out.low (A1.out.drewN (m1 + m2)) hnp hrp) hf hnp hrp
          have HX := Lib.hid hl2
          have HQ := Lib.hid hq2'
          clear hl2 hq2' hf
          have cn := HQ.out.n
          have cr := HQ.out.r
          obtain ⟨cn0, cn1, cn2, cn3, cn4⟩ := cn
          obtain ⟨cr0, cr1, cr2, cr3, cr4⟩ := cr
          go_wp2_with fail
          refine bodyPost_ret (v := .agg #[.int .i64 2, .string ⟨List.toArray []⟩, .slice none 0 0, .int .i64 pos]) (by simp [results, Try.results29, go_sem, cr0, cr1, cr2, cr3]) rfl ?_
          exact q_result HX.out hrb (by omega) (by omega) (.inr ⟨by omega, A2.out⟩) _ _ _ _
        · have h32' : decide ((s[q].toNat : Int) < 32) = false := by simpa using h32
          have h126 : (126 : Int) < (s[q].toNat : Int) := by omega
          clear hns h34 h32
          go_wp2_with fail
          go_quiet (fail)
          rename Nat => m1
          go_wp2_with fail
          go_quiet (fail)
          rename Nat => m2
          go_wp2_with fail
          refine (rfail_any (A1.out.drewN (m1 + m2)).head _ _).mono ?_
          rintro e w2 ⟨rfl, hf⟩
          have hl2 := HL0.out.trans ((A1.out.drewN (m1 + m2)).trans hf)
          have hq2' := QBox.low (HQ0.out.low (A1.out.drewN (m1 + m2)) hnp hrp) hf hnp hrp
          have HX := Lib.hid hl2
          have HQ := Lib.hid hq2'
          clear hl2 hq2' hf
          have cn := HQ.out.n
          have cr := HQ.out.r
          obtain ⟨cn0, cn1, cn2, cn3, cn4⟩ := cn
          obtain ⟨cr0, cr1, cr2, cr3, cr4⟩ := cr
          go_wp2_with fail
          refine bodyPost_ret (v := .agg #[.int .i64 2, .string ⟨List.toArray []⟩, .slice none 0 0, .int .i64 pos]) (by simp [results, Try.results29, go_sem, cr0, cr1, cr2, cr3]) rfl ?_
          exact q_result HX.out hrb (by omega) (by omega) (.inr ⟨by omega, A2.out⟩) _ _ _ _
      have hsr := (stringB_iff _).1 hsb
      have h32' : decide ((s[q].toNat : Int) < 32) = false := by simp; omega
      have h126' : decide ((126 : Int) < (s[q].toNat : Int)) = false := by simp; omega
      have k1 : decide (s[q].toNat < 32) = false := by simp; omega
      have k2 : decide (126 < s[q].toNat) = false := by simp; omega
      have k3 : ¬ (126 : Int) < (s[q].toNat : Int) := by omega
      have k4 : ¬ (s[q].toNat : Int) < 32 := by omega
      by_cases h92 : (s[q].toNat : Int) = 92
      · have g92 := beq_int_true h92
        clear hsr
        by_cases hend : q + 1 = s.size
        · have hgo' : ∀ st, go ((bytes s).drop pos) pos .plain st = .error (2, q) := fun st => by
            rw [hgo st, go_text_escape_end (L := bytes s) (by rw [bytes_len]; exact hend) h92]
          have i2 : (((q : Int) + 1) == (s.size : Int)) = true := beq_int_true (by omega)
          have A1 := Lib.hid hlow
          have A2 := Lib.hid hgo'
          have A4 := Lib.hid hend
          clear hk hlow hown hgo hgo' h34 h92 hsb hend
          go_wp2_with fail
          go_quiet (fail)
          rename Nat => m1
          go_wp2_with fail
          go_quiet (fail)
          rename Nat => m2
          go_wp2_with fail
          go_quiet (fail)
          rename Nat => m3
          go_wp2_with fail
          refine (rfail_any (A1.out.drewN (m1 + m2 + m3)).head _ _).mono ?_
          rintro e w2 ⟨rfl, hf⟩
          have hl2 := HL0.out.trans ((A1.out.drewN (m1 + m2 + m3)).trans hf)
          have hq2' := QBox.low (HQ0.out.low (A1.out.drewN (m1 + m2 + m3)) hnp hrp) hf hnp hrp
          have HX := Lib.hid hl2
          have HQ := Lib.hid hq2'
          clear hl2 hq2' hf
          have cn := HQ.out.n
          have cr := HQ.out.r
          obtain ⟨cn0, cn1, cn2, cn3, cn4⟩ := cn
          obtain ⟨cr0, cr1, cr2, cr3, cr4⟩ := cr
          go_wp2_with fail
          refine bodyPost_ret (v := .agg #[.int .i64 2, .string ⟨List.toArray []⟩, .slice none 0 0, .int .i64 pos]) (by simp [results, Try.results29, go_sem, cr0, cr1, cr2, cr3]) rfl ?_
          exact q_result HX.out hrb (by omega) (by omega) (.inr ⟨by omega, A2.out⟩) _ _ _ _
        · have hlt3 : q + 1 < s.size := by omega
          have i2 : (((q : Int) + 1) == (s.size : Int)) = false := beq_int_false (by omega)
          have i3 : (0 : Int) ≤ (q : Int) + 1 := by omega
          have i4 : (q : Int) + 1 < (s.size : Int) := by omega
          have i5 : ((q : Int) + 1).toNat = q + 1 := by omega
          clear hsb
          by_cases h1 : (s[q + 1].toNat : Int) = 34
          · have n1 : ((s[q + 1].toNat : Int) != 34) = false := by simp [h1]
            have hgo' : ∀ st, go ((bytes s).drop pos) pos .plain st = go ((bytes s).drop (q + 2)) (q + 2) (.text pos (acc ++ [s[q + 1]])) st := fun st => by
              rw [hgo st, go_text_escape (L := bytes s) (by rw [bytes_len]; exact hlt3) h92 (.inl h1)]
              rfl
            have A1 := Lib.hid hlow
            have A2 := Lib.hid hgo'
            have A4 := Lib.hid hk
            clear hk hlow hgo hgo' h34 h92 hend h1
            go_wp2_with fail
            go_quiet (fail)
            rename Nat => m1
            go_wp2_with fail
            go_quiet (fail)
            rename Nat => m2
            go_wp2_with fail
            go_quiet (fail)
            rename Nat => m3
            go_wp2_with fail
            have hlowV := (A1.out.drewN (m1 + m2 + m3)).setPos (q + 1)
            rw [Int.natCast_add] at hlowV
            have hownV := ownsRow_of_block (w' := (wr.drewN (m1 + m2 + m3)).setCell ⟨pb, 1, none⟩ (.int .i64 ((q : Int) + 1))) hown (fun b e => setCell_far (w := wr.drewN (m1 + m2 + m3)) (by have := (hown.lt b e).1; have := A1.out.lp; omega))
            generalize hV : (wr.drewN (m1 + m2 + m3)).setCell ⟨pb, 1, none⟩ (.int .i64 ((q : Int) + 1)) = V at *
            have v0 := hlowV.p0
            have v1 := hlowV.p1
            rw [Int.natCast_add] at v1
            have B1 := Lib.hid hlowV
            have B2 := Lib.hid hownV
            have lV := B1.out.size
            have lpV : pb < V.heap.size := Nat.lt_of_lt_of_le B1.out.lp lV
            clear hlowV hownV hown hV q0 q1 qf
            go_region_held3 (fun w' => w'.cell? ⟨pb, 0, none⟩ = some (.string s) ∧ w'.cell? ⟨pb, 1, none⟩ = some (.int .i64 ((q : Int) + 1)))
              (first
                | go_keep
                | exact ⟨keep1, keep2⟩)
              ((refine step_append_fix _ (by rfl) _ _ _ (by rfl) w0.heap.size 5 ti _ 1 1 Try.underlying36 Hi0.out Hz0.out Hz1.out Hz2.out rfl (by omega) (.slice ba acc.length bc) acc.length (acc.map byteV) (by rfl) ((B2.out.alloc _).drew) ⟨V.heap.size, 0, none⟩ 1 1 [.int .u8 (s[q + 1].toNat : Int)] (by rfl) (by rfl) (World.news_of_block (cs := #[.int .u8 (s[q + 1].toNat : Int)]) (t := 5) (fr := (0, 0)) (heap_alloc_new V _)) (by simp [Value.oneCell']) (by omega) (by unfold maxLen; omega) (by omega) (by simp; omega) ?_; intro g c2 w1 hA; have hlow1 := (B1.out.drew.alloc _).grown hA.grown (fun k e => (B2.out.lt k e).1); have keep1 := hlow1.p0; have keep2 := hlow1.p1; rw [Int.natCast_add] at keep2; have rf := hlow1.pf 1; have A5 := Lib.hid hlow1; have A6 := Lib.hid hA.own; clear hlow1 hA))
            go_wp2_with fail
            go_roundg (s.size - (q + 2))
            case measure => have := A4.out; omega
            case rel => exact ⟨q + 2, acc ++ [s[q + 1]], rq_next A5.out A6.out (by omega) (by omega) (by omega) A2.out⟩
          · have n1 : ((s[q + 1].toNat : Int) != 34) = true := by simpa using h1
            by_cases h2 : (s[q + 1].toNat : Int) = 92
            · have n2 : ((s[q + 1].toNat : Int) != 92) = false := by simp [h2]
              have hgo' : ∀ st, go ((bytes s).drop pos) pos .plain st = go ((bytes s).drop (q + 2)) (q + 2) (.text pos (acc ++ [s[q + 1]])) st := fun st => by
                rw [hgo st, go_text_escape (L := bytes s) (by rw [bytes_len]; exact hlt3) h92 (.inr h2)]
                rfl
              have A1 := Lib.hid hlow
              have A2 := Lib.hid hgo'
              have A4 := Lib.hid hk
              clear hk hlow hgo hgo' h34 h92 hend h1 h2
              go_wp2_with fail
              go_quiet (fail)
              rename Nat => m1
              go_wp2_with fail
              go_quiet (fail)
              rename Nat => m2
              go_wp2_with fail
              go_quiet (fail)
              rename Nat => m3
              go_wp2_with fail
              have hlowV := (A1.out.drewN (m1 + m2 + m3)).setPos (q + 1)
              rw [Int.natCast_add] at hlowV
              have hownV := ownsRow_of_block (w' := (wr.drewN (m1 + m2 + m3)).setCell ⟨pb, 1, none⟩ (.int .i64 ((q : Int) + 1))) hown (fun b e => setCell_far (w := wr.drewN (m1 + m2 + m3)) (by have := (hown.lt b e).1; have := A1.out.lp; omega))
              generalize hV : (wr.drewN (m1 + m2 + m3)).setCell ⟨pb, 1, none⟩ (.int .i64 ((q : Int) + 1)) = V at *
              have v0 := hlowV.p0
              have v1 := hlowV.p1
              rw [Int.natCast_add] at v1
              have B1 := Lib.hid hlowV
              have B2 := Lib.hid hownV
              have lV := B1.out.size
              have lpV : pb < V.heap.size := Nat.lt_of_lt_of_le B1.out.lp lV
              clear hlowV hownV hown hV q0 q1 qf
              go_region_held3 (fun w' => w'.cell? ⟨pb, 0, none⟩ = some (.string s) ∧ w'.cell? ⟨pb, 1, none⟩ = some (.int .i64 ((q : Int) + 1)))
                (first
                  | go_keep
                  | exact ⟨keep1, keep2⟩)
                ((refine step_append_fix _ (by rfl) _ _ _ (by rfl) w0.heap.size 5 ti _ 1 1 Try.underlying36 Hi0.out Hz0.out Hz1.out Hz2.out rfl (by omega) (.slice ba acc.length bc) acc.length (acc.map byteV) (by rfl) ((B2.out.alloc _).drew) ⟨V.heap.size, 0, none⟩ 1 1 [.int .u8 (s[q + 1].toNat : Int)] (by rfl) (by rfl) (World.news_of_block (cs := #[.int .u8 (s[q + 1].toNat : Int)]) (t := 5) (fr := (0, 0)) (heap_alloc_new V _)) (by simp [Value.oneCell']) (by omega) (by unfold maxLen; omega) (by omega) (by simp; omega) ?_; intro g c2 w1 hA; have hlow1 := (B1.out.drew.alloc _).grown hA.grown (fun k e => (B2.out.lt k e).1); have keep1 := hlow1.p0; have keep2 := hlow1.p1; rw [Int.natCast_add] at keep2; have rf := hlow1.pf 1; have A5 := Lib.hid hlow1; have A6 := Lib.hid hA.own; clear hlow1 hA))
              go_wp2_with fail
              go_roundg (s.size - (q + 2))
              case measure => have := A4.out; omega
              case rel => exact ⟨q + 2, acc ++ [s[q + 1]], rq_next A5.out A6.out (by omega) (by omega) (by omega) A2.out⟩
            · have n2 : ((s[q + 1].toNat : Int) != 92) = true := by simpa using h2
              have hgo' : ∀ st, go ((bytes s).drop pos) pos .plain st = .error (2, q) := fun st => by
                rw [hgo st, go_text_escape_bad (L := bytes s) (by rw [bytes_len]; exact hlt3) h92 h1 h2]
              have A1 := Lib.hid hlow
              have A2 := Lib.hid hgo'
              clear hk hlow hown hgo hgo' h34 h92 hend h1 h2
              go_wp2_with fail
              go_quiet (fail)
              rename Nat => m1
              go_wp2_with fail
              go_quiet (fail)
              rename Nat => m2
              go_wp2_with fail
              go_quiet (fail)
              rename Nat => m3
              go_wp2_with fail
              refine (rfail_any (A1.out.drewN (m1 + m2 + m3)).head _ _).mono ?_
              rintro e w2 ⟨rfl, hf⟩
              have hl2 := HL0.out.trans ((A1.out.drewN (m1 + m2 + m3)).trans hf)
              have hq2' := QBox.low (HQ0.out.low (A1.out.drewN (m1 + m2 + m3)) hnp hrp) hf hnp hrp
              have HX := Lib.hid hl2
              have HQ := Lib.hid hq2'
              clear hl2 hq2' hf
              have cn := HQ.out.n
              have cr := HQ.out.r
              obtain ⟨cn0, cn1, cn2, cn3, cn4⟩ := cn
              obtain ⟨cr0, cr1, cr2, cr3, cr4⟩ := cr
              go_wp2_with fail
              refine bodyPost_ret (v := .agg #[.int .i64 2, .string ⟨List.toArray []⟩, .slice none 0 0, .int .i64 pos]) (by simp [results, Try.results29, go_sem, cr0, cr1, cr2, cr3]) rfl ?_
              exact q_result HX.out hrb (by omega) (by omega) (.inr ⟨by omega, A2.out⟩) _ _ _ _
      · have g92 := beq_int_false h92
        have hgo' : ∀ st, go ((bytes s).drop pos) pos .plain st = go ((bytes s).drop (q + 1)) (q + 1) (.text pos (acc ++ [s[q]])) st := fun st => by
          rw [hgo st, go_text_byte hltL h34 hsb h92]
          rfl
        have A1 := Lib.hid hlow
        have A2 := Lib.hid hgo'
        have A4 := Lib.hid hk
        clear hk hlow hgo hgo' h34 h92 hsb hsr
        go_wp2_with fail
        go_quiet (fail)
        rename Nat => m1
        go_wp2_with fail
        go_quiet (fail)
        rename Nat => m2
        go_wp2_with (at_builtin; refine wpList_append_fix _ rfl _ _ 36 rfl w0.heap.size 5 ti (.int .u8 0) 1 1 Try.underlying36 Hi0.out Hz0.out Hz1.out Hz2.out rfl (by omega) (.slice ba acc.length bc) acc.length (acc.map byteV) rfl (World.ownsRow.alloc (w := wr.drewN (m1 + m2)) hown _) ⟨wr.heap.size, 0, none⟩ 1 1 [.int .u8 (s[q].toNat : Int)] rfl rfl ?c1 ?c2 ?c3 ?c4 ?c5 ?c6 ?_)
        case c1 => exact cell_one_new _ _ _
        case c2 => simp [Value.oneCell']
        case c3 => omega
        case c4 => unfold maxLen; omega
        case c5 => omega
        case c6 => have := A1.out.size; simp; omega
        intro g c2 w1 hA
        have hlow1 := ((A1.out.drewN (m1 + m2)).grown (World.grownBy_alloc _ _ none) (fun k e => by cases e)).grown hA.grown (fun k e => (hown.lt k e).1)
        have r1 := hlow1.p1
        have rf := hlow1.pf 1
        have A5 := Lib.hid hlow1
        have A6 := Lib.hid hA.own
        clear hlow1 hA hown q0 q1 qf
        go_wp2_with fail
        go_roundg (s.size - (q + 1))
        case measure => have := A4.out; omega
        case rel => exact ⟨q + 1, acc ++ [s[q]], rq_next A5.out A6.out (by omega) (by omega) (by omega) A2.out⟩
    · have hgo' : ∀ st, go ((bytes s).drop pos) pos .plain st = .error (2, s.size) := fun st => by
        rw [hgo st, List.drop_of_length_le (by rw [bytes_len]; omega), go_text_end, show q = s.size by omega]
      have A1 := Lib.hid hlow
      have A2 := Lib.hid hgo'
      clear hk hlow hown hgo hgo'
      go_wp2_with fail
      go_quiet (fail)
      rename Nat => m1
      go_wp2_with fail
      have hlX := (A1.out.drewN m1).again
      refine (rfail_any hlX.head _ _).mono ?_
      rintro e w2 ⟨rfl, hf⟩
      have hl2 := HL0.out.trans ((A1.out.drewN m1).trans hf)
      have hq2' := QBox.low (HQ0.out.low (A1.out.drewN m1) hnp hrp) hf hnp hrp
      have HX := Lib.hid hl2
      have HQ := Lib.hid hq2'
      clear hl2 hq2' hf hlX
      have cn := HQ.out.n
      have cr := HQ.out.r
      obtain ⟨cn0, cn1, cn2, cn3, cn4⟩ := cn
      obtain ⟨cr0, cr1, cr2, cr3, cr4⟩ := cr
      go_wp2_with fail
      refine bodyPost_ret (v := .agg #[.int .i64 2, .string ⟨List.toArray []⟩, .slice none 0 0, .int .i64 pos]) (by simp [results, Try.results29, go_sem, cr0, cr1, cr2, cr3]) rfl ?_
      exact q_result HX.out hrb (by omega) (by omega) (.inr ⟨by omega, A2.out⟩) _ _ _ _
end
end Go.Proofs.Ytnaabplppfikcaa
