/- The reference's parser in memory; fail, skip. -/
import Derived.Test.YtnaabplppfikcaaWord
import Derived.Test.YtnaabplppfikcaaBuf
namespace Go.Proofs.Ytnaabplppfikcaa
open Go.RowKit

/-- Below the blocks of the running call, only the parser's own block has turned. -/
structure RLow (w wr : World) (pb : Nat) (s : ByteArray) (q : Nat) (fk fo : Int) : Prop where
  size : w.heap.size ≤ wr.heap.size
  lp : pb < w.heap.size
  head : wr.heap[pb]? = some (.cells #[.string s, .int .i64 q, .int .i64 fk, .int .i64 fo] 49 (0, 0))
  other : ∀ b, b < w.heap.size → b ≠ pb → wr.heap[b]? = w.heap[b]?
  os : wr.os = w.os
  tape : wr.tape = w.tape
  output : wr.output = w.output

section
variable {w wr w1 w2 : World} {pb : Nat} {s : ByteArray} {q q' : Nat} {fk fo fk' fo' : Int}

theorem RLow.start (h : w.heap[pb]? = some (.cells #[.string s, .int .i64 q, .int .i64 fk, .int .i64 fo] 49 (0, 0))) : RLow w w pb s q fk fo :=
  ⟨Nat.le_refl _, (Array.getElem?_eq_some_iff.1 h).1, h, fun _ _ _ => rfl, rfl, rfl, rfl⟩
theorem RLow.again (h : RLow w wr pb s q fk fo) : RLow wr wr pb s q fk fo := RLow.start h.head
theorem RLow.trans (h : RLow w w1 pb s q fk fo) (k : RLow w1 w2 pb s q' fk' fo') : RLow w w2 pb s q' fk' fo' :=
  ⟨Nat.le_trans h.size k.size, h.lp, k.head, fun b hb hne => (k.other b (Nat.lt_of_lt_of_le hb h.size) hne).trans (h.other b hb hne), k.os.trans h.os, k.tape.trans h.tape, k.output.trans h.output⟩
theorem RLow.drewN (h : RLow w wr pb s q fk fo) (m : Nat) : RLow w (wr.drewN m) pb s q fk fo := ⟨h.size, h.lp, h.head, h.other, h.os, h.tape, h.output⟩
theorem RLow.drew (h : RLow w wr pb s q fk fo) : RLow w wr.drew pb s q fk fo := ⟨h.size, h.lp, h.head, h.other, h.os, h.tape, h.output⟩
theorem RLow.setPos (h : RLow w wr pb s q fk fo) (q' : Nat) : RLow w (wr.setCell ⟨pb, 1, none⟩ (.int .i64 q')) pb s q' fk fo :=
  ⟨by rw [(setCell_same wr _ _).1]; exact h.size, h.lp, by rw [setCell_row h.head]; rfl, fun b hb hne => (setCell_far hne).trans (h.other b hb hne), h.os, h.tape, h.output⟩
theorem RLow.setFault (h : RLow w wr pb s q fk fo) (k o : Int) : RLow w ((wr.setCell ⟨pb, 2, none⟩ (.int .i64 k)).setCell ⟨pb, 3, none⟩ (.int .i64 o)) pb s q k o :=
  ⟨by rw [(setCell_same _ _ _).1, (setCell_same _ _ _).1]; exact h.size, h.lp, by rw [setCell_row (setCell_row h.head)]; rfl, fun b hb hne => by rw [setCell_far hne, setCell_far hne]; exact h.other b hb hne, h.os, h.tape, h.output⟩
theorem RLow.grown (h : RLow w wr pb s q fk fo) {row : Option Nat} (hg : wr.grownBy w1 row) (hr : ∀ k, row = some k → w.heap.size ≤ k) : RLow w w1 pb s q fk fo := by
  have lp := h.lp
  refine ⟨Nat.le_trans h.size hg.size, lp, (hg.block pb (Nat.lt_of_lt_of_le lp h.size) (fun e => by have := hr pb e.symm; omega)).trans h.head,
    fun b hb hne => (hg.block b (Nat.lt_of_lt_of_le hb h.size) (fun e => by have := hr b e.symm; omega)).trans (h.other b hb hne), hg.os.trans h.os, hg.tape.trans h.tape, hg.output.trans h.output⟩
theorem RLow.setNew (h : RLow w wr pb s q fk fo) {g o : Nat} (hg : w.heap.size ≤ g) (u : Value) : RLow w (wr.setCell ⟨g, o, none⟩ u) pb s q fk fo := by
  have lp := h.lp
  refine ⟨by rw [(setCell_same wr _ _).1]; exact h.size, lp, (setCell_far (by omega)).trans h.head, fun b hb hne => (setCell_far (by omega)).trans (h.other b hb hne), h.os, h.tape, h.output⟩
theorem RLow.alloc (h : RLow w wr pb s q fk fo) (o : Obj) : RLow w (wr.alloc o) pb s q fk fo := h.grown (World.grownBy_alloc wr o none) (fun k e => by cases e)
theorem RLow.p0 (h : RLow w wr pb s q fk fo) : wr.cell? ⟨pb, 0, none⟩ = some (.string s) := by rw [cell_of_row wr _ _ _ _ _ h.head]; rfl
theorem RLow.p1 (h : RLow w wr pb s q fk fo) : wr.cell? ⟨pb, 1, none⟩ = some (.int .i64 q) := by rw [cell_of_row wr _ _ _ _ _ h.head]; rfl
theorem RLow.p2 (h : RLow w wr pb s q fk fo) : wr.cell? ⟨pb, 2, none⟩ = some (.int .i64 fk) := by rw [cell_of_row wr _ _ _ _ _ h.head]; rfl
theorem RLow.p3 (h : RLow w wr pb s q fk fo) : wr.cell? ⟨pb, 3, none⟩ = some (.int .i64 fo) := by rw [cell_of_row wr _ _ _ _ _ h.head]; rfl
theorem RLow.pf (h : RLow w wr pb s q fk fo) (j : Nat) : wr.frozen? ⟨pb, j, none⟩ = false := by simp [World.frozen?, h.head]

set_option maxHeartbeats 400000 in
theorem rfail_any (h : w.heap[pb]? = some (.cells #[.string s, .int .i64 q, .int .i64 0, .int .i64 fo] 49 (0, 0))) (k o : Int) :
    Calls Try.prog 28 #[.pointer (some ⟨pb, 0, none⟩), .int .i64 k, .int .i64 o] w fun e w' => e = .returned (.tuple #[]) ∧ RLow w w' pb s q k o := by
  have hl := RLow.start h
  have p2 := hl.p2
  have p3 := hl.p3
  have f2 := hl.pf 2
  have f3 := hl.pf 3
  have HL := Lib.hid hl
  clear h hl
  go_enter Try.func28, Try.ntmps28
  go_wp2_with fail
  go_end0
  exact ⟨rfl, HL.out.setFault k o⟩

/-- What 'skip' comes to. -/
def Skipped (s : ByteArray) (q : Nat) (pb : Nat) (fk fo : Int) (w : World) (w' : World) : Prop :=
  ∃ q', RLow w w' pb s q' fk fo ∧ q ≤ q' ∧ q' ≤ s.size ∧ (∀ h : q' < s.size, ¬ (s[q'].toNat : Int) = 32 ∧ ¬ (s[q'].toNat : Int) = 10 ∧ ¬ (s[q'].toNat : Int) = 59) ∧ ∀ st, go ((bytes s).drop q) q .plain st = go ((bytes s).drop q') q' .plain st

def SkipRel (s : ByteArray) (pos pb : Nat) (fk fo : Int) (w : World) (k : Nat) (wr : World) : Prop :=
  ∃ q, k = s.size - q ∧ RLow w wr pb s q fk fo ∧ pos ≤ q ∧ q ≤ s.size ∧ ∀ st, go ((bytes s).drop pos) pos .plain st = go ((bytes s).drop q) q .plain st

/-- Inside a comment: the semicolon is behind q0. -/
def SkipRel2 (s : ByteArray) (q0 pb : Nat) (fk fo : Int) (w : World) (k : Nat) (wr : World) : Prop :=
  ∃ q, k = s.size - q ∧ RLow w wr pb s q fk fo ∧ q0 ≤ q ∧ q ≤ s.size ∧ ∀ st, go ((bytes s).drop q0) q0 .comment st = go ((bytes s).drop q) q .comment st

theorem go_space_step (h : q < s.size) (hc : (s[q].toNat : Int) = 32 ∨ (s[q].toNat : Int) = 10) (st : Stack) : go ((bytes s).drop q) q .plain st = go ((bytes s).drop (q + 1)) (q + 1) .plain st := by
  have hl : q < (bytes s).length := by rw [bytes_len]; exact h
  rw [go_plain hl, act_space (show bt (bytes s)[q] = 32 ∨ bt (bytes s)[q] = 10 from hc)]
theorem go_semi_step (h : q < s.size) (hc : (s[q].toNat : Int) = 59) (st : Stack) : go ((bytes s).drop q) q .plain st = go ((bytes s).drop q) q .comment st := by
  have hl : q < (bytes s).length := by rw [bytes_len]; exact h
  have hb : bt (bytes s)[q] = 59 := hc
  rw [go_plain hl, act_comment hb, go_comment_more hl (beq_int_false (by omega))]
theorem go_com_more (h : q < s.size) (hc : ¬ (s[q].toNat : Int) = 10) (st : Stack) : go ((bytes s).drop q) q .comment st = go ((bytes s).drop (q + 1)) (q + 1) .comment st := by
  have hl : q < (bytes s).length := by rw [bytes_len]; exact h
  exact go_comment_more hl (beq_int_false hc)
theorem go_com_done (hc : ∀ h : q < s.size, (s[q].toNat : Int) = 10) (st : Stack) : go ((bytes s).drop q) q .comment st = go ((bytes s).drop q) q .plain st :=
  go_comment_done fun hl => beq_int_true (hc (by rw [bytes_len] at hl; exact hl))

set_option maxRecDepth 100000 in
set_option maxHeartbeats 3200000 in
theorem skip_any {pos : Nat} (h : w.heap[pb]? = some (.cells #[.string s, .int .i64 pos, .int .i64 fk, .int .i64 fo] 49 (0, 0))) (hs : s.size ≤ 65536) (hp : pos ≤ s.size) :
    Calls Try.prog 27 #[.pointer (some ⟨pb, 0, none⟩)] w fun e w' => e = .returned (.tuple #[]) ∧ Skipped s pos pb fk fo w w' := by
  have hl := RLow.start h
  have HL := Lib.hid hl
  clear h hl
  go_enter Try.func27, Try.ntmps27
  go_wp2_with fail
  go_loopg [] (s.size - pos) (fun k wr => SkipRel s pos pb fk fo w k wr)
  case atStart => exact ⟨pos, rfl, HL.out, Nat.le_refl _, hp, fun _ => rfl⟩
  case round =>
    obtain ⟨q, hk, hlow, hq1, hq2, hgo⟩ := hrel
    have q0 := hlow.p0
    have q1 := hlow.p1
    have qf := hlow.pf 1
    have i0 : (0 : Int) ≤ (q : Int) := by omega
    have A1 := Lib.hid hk
    have A2 := Lib.hid hlow
    have A3 := Lib.hid hgo
    clear hk hlow hgo
    by_cases hlt : q < s.size
    · have i1 : (q : Int) < (s.size : Int) := by omega
      by_cases ha : (s[q].toNat : Int) = 32
      · have ga := beq_int_true ha
        have HE := Lib.hid (go_space_step hlt (.inl ha))
        clear ha
        go_wp2_with fail
        go_quiet (fail)
        rename Nat => m1
        go_wp2_with fail
        go_quiet (fail)
        rename Nat => m2
        go_wp2_with fail
        go_roundg (s.size - (q + 1))
        case measure => have := A1.out; omega
        case rel => exact ⟨q + 1, rfl, (A2.out.drewN (m1 + m2)).setPos (q + 1), by omega, by omega, fun st => (A3.out st).trans (HE.out st)⟩
      have ga := beq_int_false ha
      by_cases hb : (s[q].toNat : Int) = 10
      · have gb := beq_int_true hb
        have HE := Lib.hid (go_space_step hlt (.inr hb))
        clear ha hb
        go_wp2_with fail
        go_quiet (fail)
        rename Nat => m1
        go_wp2_with fail
        go_quiet (fail)
        rename Nat => m2
        go_wp2_with fail
        go_roundg (s.size - (q + 1))
        case measure => have := A1.out; omega
        case rel => exact ⟨q + 1, rfl, (A2.out.drewN (m1 + m2)).setPos (q + 1), by omega, by omega, fun st => (A3.out st).trans (HE.out st)⟩
      have gb := beq_int_false hb
      by_cases hc : (s[q].toNat : Int) = 59
      · have gc := beq_int_true hc
        have HE := Lib.hid (go_semi_step hlt hc)
        have HD : Hid ((s[q].toNat : Int) = 59) := hc
        clear ha hb hc
        go_wp2_with fail
        go_quiet (fail)
        rename Nat => m1
        go_wp2_with fail
        go_quiet (fail)
        rename Nat => m2
        go_wp2_with fail
        obtain ⟨go0, hg0⟩ : ∃ g : Nat, g = gk := ⟨_, rfl⟩
        have A1' : Hid (go0 = s.size - q) := by have := A1.out; exact hg0.trans this
        have HG0 := Lib.hid hg0
        clear hg0 A1 q0 q1 qf
        have A2' := Lib.hid (A2.out.drewN (m1 + m2))
        clear A2
        generalize wr.drewN (m1 + m2) = wo at *
        go_loopg [] (s.size - q) (fun k wr => SkipRel2 s q pb fk fo w k wr)
        case atStart => exact ⟨q, rfl, A2'.out, Nat.le_refl _, hq2, fun _ => rfl⟩
        case round =>
          obtain ⟨q3, hk3, hlow3, hq3, hq4, hgo3⟩ := hrel
          have q0 := hlow3.p0
          have q1 := hlow3.p1
          have qf := hlow3.pf 1
          have i2 : (0 : Int) ≤ (q3 : Int) := by omega
          have B1 := Lib.hid hk3
          have B2 := Lib.hid hlow3
          have B3 := Lib.hid hgo3
          clear hk3 hlow3 hgo3
          by_cases hlt3 : q3 < s.size
          · have i3 : (q3 : Int) < (s.size : Int) := by omega
            by_cases hx : (s[q3].toNat : Int) = 10
            · have gx : ((s[q3].toNat : Int) != 10) = false := by simp [hx]
              have hgt : q < q3 := by
                rcases Nat.lt_or_eq_of_le hq3 with h | h
                · exact h
                · subst h; have := HD.out; omega
              have HX := Lib.hid (go_com_done (fun _ => hx))
              clear hx
              go_wp2_with fail
              go_quiet (fail)
              rename Nat => m3
              go_wp2_with fail
              go_roundg (s.size - q3)
              case measure => have := A1'.out; have := HG0.out; omega
              case rel => exact ⟨q3, rfl, B2.out.drewN m3, by omega, hq4, fun st => (((A3.out st).trans (HE.out st)).trans (B3.out st)).trans (HX.out st)⟩
            · have gx : ((s[q3].toNat : Int) != 10) = true := by simpa using hx
              have HX := Lib.hid (go_com_more hlt3 hx)
              clear hx
              go_wp2_with fail
              go_quiet (fail)
              rename Nat => m3
              go_wp2_with fail
              go_roundg (s.size - (q3 + 1))
              case measure => have := B1.out; omega
              case rel => exact ⟨q3 + 1, rfl, (B2.out.drewN m3).setPos (q3 + 1), by omega, by omega, fun st => (B3.out st).trans (HX.out st)⟩
          · have i3 : decide (q3 < s.size) = false := by simp; omega
            have HX := Lib.hid (go_com_done (q := q3) (s := s) (fun h => absurd h hlt3))
            go_wp2_with fail
            go_quiet (fail)
            rename Nat => m3
            go_wp2_with fail
            go_roundg (s.size - q3)
            case measure => have := A1'.out; have := HG0.out; omega
            case rel => exact ⟨q3, rfl, B2.out.drewN m3, by omega, hq4, fun st => (((A3.out st).trans (HE.out st)).trans (B3.out st)).trans (HX.out st)⟩
      · have gc := beq_int_false hc
        have HE := Lib.hid (show ∀ h : q < s.size, ¬ (s[q].toNat : Int) = 32 ∧ ¬ (s[q].toNat : Int) = 10 ∧ ¬ (s[q].toNat : Int) = 59 from fun _ => ⟨ha, hb, hc⟩)
        clear ha hb hc
        go_wp2_with fail
        go_quiet (fail)
        rename Nat => m1
        go_wp2_with fail
        go_quiet (fail)
        rename Nat => m2
        go_wp2_with fail
        refine bodyPost_ret (results_none rfl _ _ _) rfl ?_
        exact ⟨rfl, q, A2.out.drewN (m1 + m2), hq1, hq2, HE.out, A3.out⟩
    · have i1 : decide (q < s.size) = false := by simp; omega
      go_wp2_with fail
      go_quiet (fail)
      rename Nat => m1
      go_wp2_with fail
      go_end0
      exact ⟨rfl, q, A2.out.drewN m1, hq1, hq2, fun h => absurd h hlt, A3.out⟩
end
end Go.Proofs.Ytnaabplppfikcaa
