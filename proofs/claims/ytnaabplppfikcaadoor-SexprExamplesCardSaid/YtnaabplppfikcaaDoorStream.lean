/- telmake.New, Stream.Next, Stream.Raw. -/
import Derived.Test.YtnaabplppfikcaaDoorMod
import Derived.Test.YtnaabplppfikcaaDoorNodes
import Derived.Test.YtnaabplppfikcaaDoorStep
namespace Go.Proofs.YtnaabplppfikcaaDoor
open Go.RowKit

/-- A stream of integers: its slice, how far it has been read. -/
structure Stream (w : World) (sb : Nat) (a : Option Addr) (len cap pos : Nat) : Prop where
  blk : w.heap[sb]? = some (.cells #[.slice a len cap, .int .i64 pos] 64 (0, 0))
  le : pos ≤ len
  big : len ≤ 17592186044416
  ints : ∀ i, i < len → ∃ b off z, a = some ⟨b, off, none⟩ ∧ w.cell? ⟨b, off + i, none⟩ = some (.int .i64 z) ∧ b < sb

def Strm (w : World) (sb : Nat) : Prop := ∃ a len cap pos, Stream w sb a len cap pos

theorem Strm.lt {w : World} {sb : Nat} (h : Strm w sb) : sb < w.heap.size := by
  obtain ⟨a, len, cap, pos, h⟩ := h
  exact (Array.getElem?_eq_some_iff.1 h.blk).1

theorem Strm.below {w w' : World} {sb : Nat} (h : Strm w sb) (hb : Below w.heap.size w w') : Strm w' sb := by
  have hl := h.lt
  obtain ⟨a, len, cap, pos, h⟩ := h
  refine ⟨a, len, cap, pos, (hb.block sb hl).trans h.blk, h.le, h.big, fun i hi => ?_⟩
  obtain ⟨b, off, z, h1, h2, h3⟩ := h.ints i hi
  exact ⟨b, off, z, h1, (hb.cell (World.block_lt_of_cell? w _ h2)).trans h2, h3⟩

theorem wrap_i64 {z : Int} (h : -9223372036854775808 ≤ z) (h' : z ≤ 9223372036854775807) : IntKind.i64.wrap z = z := by rw [IntKind.wrap_i64]; omega

/-- What Next hands back. -/
def NextDone (w : World) (sb n : Nat) (e : Ending) (w' : World) : Prop := (∃ r : Nat, r < n ∧ e = .returned (.int .i64 r)) ∧ Strm w' sb ∧ w.grownBy w' (some sb)
def RawDone (w : World) (sb : Nat) (e : Ending) (w' : World) : Prop := (∃ z : Int, e = .returned (.int .i64 z)) ∧ Strm w' sb ∧ w.grownBy w' (some sb)

theorem strm_step {w : World} {sb len cap pos m : Nat} {a : Option Addr} (h : Stream w sb a len cap pos) (hl : pos < len) : Strm ((w.setCell ⟨sb, 1, none⟩ (.int .i64 ((pos : Int) + 1))).drewN m) sb ∧ w.grownBy ((w.setCell ⟨sb, 1, none⟩ (.int .i64 ((pos : Int) + 1))).drewN m) (some sb) := by
  refine ⟨⟨a, len, cap, pos + 1, ?_, by omega, h.big, fun i hi => ?_⟩, ⟨rfl, rfl, rfl, by simp [World.setCell], fun k _ hk => ?_⟩⟩
  · exact setCell_row h.blk
  · obtain ⟨b, off, z, h1, h2, h3⟩ := h.ints i hi
    refine ⟨b, off, z, h1, ?_, h3⟩
    exact (World.cell?_of_block (setCell_far (Nat.ne_of_lt h3))).trans h2
  · exact setCell_far (by rintro rfl; exact hk rfl)

set_option maxRecDepth 100000 in
set_option maxHeartbeats 1600000 in
theorem next_any (w : World) (sb n : Nat) (hn : 0 < n) (hn' : n ≤ 1000000) (h : Strm w sb) : Calls Tryd.prog 33 #[.pointer (some ⟨sb, 0, none⟩), .int .i64 n] w (NextDone w sb n) := by
  have H := Lib.hid h
  obtain ⟨a, len, cap, pos, h⟩ := h
  have HS := Lib.hid h
  have c0 : w.cell? ⟨sb, 0, none⟩ = some (.slice a len cap) := by rw [cell_of_row w _ _ _ _ _ h.blk]; rfl
  have c1 : w.cell? ⟨sb, 1, none⟩ = some (.int .i64 pos) := by rw [cell_of_row w _ _ _ _ _ h.blk]; rfl
  have fz : w.frozen? ⟨sb, 1, none⟩ = false := by simp [World.frozen?, h.blk]
  have hle := h.le
  have hbig := h.big
  by_cases hlt : pos < len
  · obtain ⟨b, off, z, rfl, hz, hne'⟩ := h.ints pos hlt
    have hne := Nat.ne_of_lt hne'
    clear h
    have i1 : ¬ (len : Int) ≤ (pos : Int) := by omega
    have hz' : (w.setCell ⟨sb, 1, none⟩ (.int .i64 ((pos : Int) + 1))).cell? ⟨b, off + pos, none⟩ = some (.int .i64 z) := (World.cell?_of_block (setCell_far hne)).trans hz
    go_enter Tryd.func33, Tryd.ntmps33
    go_wp2_with fail
    go_quiet (fail)
    rename Nat => m1
    go_wp2_with fail
    obtain ⟨V, hV⟩ : ∃ V, (w.drewN m1).setCell ⟨sb, 1, none⟩ (.int .i64 ((pos : Int) + 1)) = V := ⟨_, rfl⟩
    have d0 : V.cell? ⟨sb, 0, none⟩ = some (.slice (some ⟨b, off, none⟩) len cap) := by
      rw [← hV, World.cell?_setCell_other _ _ _ _ (by intro he; injection he with _ he; omega)]; exact c0
    have d1 : V.cell? ⟨sb, 1, none⟩ = some (.int .i64 ((pos : Int) + 1)) := by rw [← hV]; exact World.cell?_setCell_same _ _ _ (by rw [show (w.drewN m1).cell? ⟨sb, 1, none⟩ = _ from c1])
    have d2 : V.cell? ⟨b, off + pos, none⟩ = some (.int .i64 z) := by rw [← hV]; exact (World.cell?_of_block (setCell_far hne)).trans hz
    have HV := Lib.hid hV
    have i0 : (0 : Int) ≤ (pos : Int) := by omega
    have i2 : (pos : Int) < (len : Int) := by omega
    have wp : IntKind.i64.wrap (pos : Int) = (pos : Int) := wrap_i64 (by omega) (by omega)
    have HM : Hid (∀ W : World, Calls Tryd.prog 14 #[.int .i64 z, .int .i64 (n : Int)] W fun e w' => e = .returned (.int .i64 (z % (n : Int))) ∧ w' = W) := fun W => (mod_any z n (by omega) (by omega) W).mono fun _ _ h => ⟨h.1, h.2.symm⟩
    rw [hV]
    clear hV hz hz' c0 c1 fz i1
    go_quiet ((go_at_call 14; exact Calls.quiet_of_same (HM.out _)))
    rename Nat => m2
    go_wp2_with fail
    go_ret
    obtain ⟨r, hr⟩ : ∃ r : Nat, z % (n : Int) = (r : Int) := Int.eq_ofNat_of_zero_le (Int.emod_nonneg _ (by omega))
    have hrn : r < n := by have := Int.emod_lt_of_pos z (b := n) (by omega); omega
    have hst := strm_step (m := m1) HS.out hlt
    have e : (w.setCell ⟨sb, 1, none⟩ (.int .i64 ((pos : Int) + 1))).drewN m1 = V := HV.out
    rw [e] at hst
    exact ⟨⟨r, hrn, by rw [hr]; rfl⟩, hst.1.below (Below.drewN' rfl), hst.2.trans ⟨rfl, rfl, rfl, Nat.le_refl _, fun _ _ _ => rfl⟩⟩
  · clear h
    have i1 : (len : Int) ≤ (pos : Int) := by omega
    go_enter Tryd.func33, Tryd.ntmps33
    go_wp2_with fail
    go_quiet (fail)
    rename Nat => m1
    go_wp2_with fail
    go_ret
    exact ⟨⟨0, by omega, rfl⟩, H.out.below (Below.drewN' rfl), ⟨rfl, rfl, rfl, Nat.le_refl _, fun _ _ _ => rfl⟩⟩

set_option maxRecDepth 100000 in
set_option maxHeartbeats 1600000 in
theorem raw_any (w : World) (sb : Nat) (h : Strm w sb) : Calls Tryd.prog 34 #[.pointer (some ⟨sb, 0, none⟩)] w (RawDone w sb) := by
  have H := Lib.hid h
  obtain ⟨a, len, cap, pos, h⟩ := h
  have HS := Lib.hid h
  have c0 : w.cell? ⟨sb, 0, none⟩ = some (.slice a len cap) := by rw [cell_of_row w _ _ _ _ _ h.blk]; rfl
  have c1 : w.cell? ⟨sb, 1, none⟩ = some (.int .i64 pos) := by rw [cell_of_row w _ _ _ _ _ h.blk]; rfl
  have fz : w.frozen? ⟨sb, 1, none⟩ = false := by simp [World.frozen?, h.blk]
  have hle := h.le
  have hbig := h.big
  by_cases hlt : pos < len
  · obtain ⟨b, off, z, rfl, hz, hne'⟩ := h.ints pos hlt
    have hne := Nat.ne_of_lt hne'
    clear h
    have i1 : ¬ (len : Int) ≤ (pos : Int) := by omega
    go_enter Tryd.func34, Tryd.ntmps34
    go_wp2_with fail
    go_quiet (fail)
    rename Nat => m1
    go_wp2_with fail
    obtain ⟨V, hV⟩ : ∃ V, (w.drewN m1).setCell ⟨sb, 1, none⟩ (.int .i64 ((pos : Int) + 1)) = V := ⟨_, rfl⟩
    have d0 : V.cell? ⟨sb, 0, none⟩ = some (.slice (some ⟨b, off, none⟩) len cap) := by
      rw [← hV, World.cell?_setCell_other _ _ _ _ (by intro he; injection he with _ he; omega)]; exact c0
    have d1 : V.cell? ⟨sb, 1, none⟩ = some (.int .i64 ((pos : Int) + 1)) := by rw [← hV]; exact World.cell?_setCell_same _ _ _ (by rw [show (w.drewN m1).cell? ⟨sb, 1, none⟩ = _ from c1])
    have d2 : V.cell? ⟨b, off + pos, none⟩ = some (.int .i64 z) := by rw [← hV]; exact (World.cell?_of_block (setCell_far hne)).trans hz
    have HV := Lib.hid hV
    have i0 : (0 : Int) ≤ (pos : Int) := by omega
    have i2 : (pos : Int) < (len : Int) := by omega
    have wp : IntKind.i64.wrap (pos : Int) = (pos : Int) := wrap_i64 (by omega) (by omega)
    rw [hV]
    clear hV hz c0 c1 fz i1
    go_quiet (fail)
    rename Nat => m2
    go_wp2_with fail
    go_ret
    have hst := strm_step (m := m1) HS.out hlt
    have e : (w.setCell ⟨sb, 1, none⟩ (.int .i64 ((pos : Int) + 1))).drewN m1 = V := HV.out
    rw [e] at hst
    exact ⟨⟨z, rfl⟩, hst.1.below (Below.drewN' rfl), hst.2.trans ⟨rfl, rfl, rfl, Nat.le_refl _, fun _ _ _ => rfl⟩⟩
  · clear h
    have i1 : (len : Int) ≤ (pos : Int) := by omega
    go_enter Tryd.func34, Tryd.ntmps34
    go_wp2_with fail
    go_quiet (fail)
    rename Nat => m1
    go_wp2_with fail
    go_ret
    exact ⟨⟨0, rfl⟩, H.out.below (Below.drewN' rfl), ⟨rfl, rfl, rfl, Nat.le_refl _, fun _ _ _ => rfl⟩⟩

/-- A slice of integers that may be read. -/
def IntsAt (w : World) (a : Option Addr) (len : Nat) : Prop := len ≤ 17592186044416 ∧ ∀ i, i < len → ∃ b off z, a = some ⟨b, off, none⟩ ∧ w.cell? ⟨b, off + i, none⟩ = some (.int .i64 z)
def NewDone (w : World) (e : Ending) (w' : World) : Prop := e = .returned (.pointer (some ⟨w.heap.size, 0, none⟩)) ∧ Strm w' w.heap.size ∧ w.grownBy w' none ∧ w'.heap.size = w.heap.size + 1

set_option maxRecDepth 100000 in
theorem new_any (w : World) (a : Option Addr) (len cap : Nat) (h : IntsAt w a len) : Calls Tryd.prog 12 #[.slice a len cap] w (NewDone w) := by
  have H := Lib.hid h
  clear h
  go_enter Tryd.func12, Tryd.ntmps12
  go_wp2_with fail
  go_ret
  refine ⟨rfl, ⟨a, len, cap, 0, ?_, by omega, H.out.1, fun i hi => ?_⟩, ?_, ?_⟩
  · exact heap_alloc_new w _
  · obtain ⟨b, off, z, h1, h2⟩ := H.out.2 i hi
    have hb := World.block_lt_of_cell? w _ h2
    exact ⟨b, off, z, h1, (World.cell?_of_block (Below.heap_alloc w _ b hb)).trans h2, hb⟩
  · exact World.grownBy_alloc w _ _
  · simp
end Go.Proofs.YtnaabplppfikcaaDoor
