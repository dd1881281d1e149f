/- The measures: Count, NodeCount, Depth, NodeDepth. -/
import Derived.Test.YtnaabplppfikcaaDoorTree
namespace Go.Proofs.YtnaabplppfikcaaDoor
open Go.RowKit

def depthOk (l : Fr) : Prop := ∀ (w : World) (G : Fixed) (a : Option Addr) (n m : Nat), Rd w G 4 l.dat (.slice a n m) → Calls Tryd.prog 21 #[.slice a n m] w (Reads w (.int .i64 (l.deep : Nat)))

set_option maxRecDepth 100000 in
set_option maxHeartbeats 3200000 in
theorem depth_step (l : Fr) (hl : l.size ≤ 1000000) (IH : Hid (∀ c : Fr, c.size < l.size → depthOk c)) : depthOk l := by
  intro w G a n m hrd
  obtain ⟨hn, hnm, hm⟩ := hrd.form
  have HR := Lib.hid hrd
  have HN := Lib.hid hn
  have hlen : n ≤ 1000000 := by have := Fr.len_le_size l; omega
  clear hrd hn hm
  go_enter Tryd.func21, Tryd.ntmps21
  go_wp2_with fail
  go_loopg [3, 9] n (fun kk va vb wr => ∃ i, kk = n - i ∧ i ≤ n ∧ va = .int .i64 (((l.take i).deep : Nat) : Int) ∧ vb = .int .i64 (i : Nat) ∧ w.grownBy wr none)
  case atStart => exact ⟨0, by omega, Nat.zero_le _, by rw [Fr.take_zero]; rfl, rfl, World.grownBy.refl _ _⟩
  case round =>
    obtain ⟨i, hk, hi, rfl, rfl, hg⟩ := hrel
    rename World => U
    have B1 := Lib.hid hk
    have HG := Lib.hid hg
    clear hk hg
    by_cases hlt : i < n
    · have hi0 : (0 : Int) ≤ (i : Int) := by omega
      have hi1 : (i : Int) < (n : Int) := by omega
      have hwi : IntKind.i64.wrap ((i : Int) + 1) = (i : Int) + 1 := wrap_i64 (by omega) (by omega)
      obtain ⟨k2, t2, c2, o2, hnth, hsz⟩ := Fr.nth_lt (l := l) (i := i) (by have := HN.out; omega)
      have HT := Lib.hid hnth
      have HS := Lib.hid hsz
      obtain ⟨xb, xo, xa, xn, xm, rfl, x0, x1, x2, x3, hx⟩ := (HR.out.grown HG.out).elem hnth
      have HX := Lib.hid hx
      obtain ⟨s1, hs1⟩ : ∃ s, (l.take i).deep = s := ⟨_, rfl⟩
      obtain ⟨s2, hs2⟩ : ∃ s, c2.deep = s := ⟨_, rfl⟩
      have hs3 : s2 ≤ 1000000 := by have := Fr.deep_le c2; omega
      have hs4 : s1 ≤ 1000000 := by have := Fr.deep_le (l.take i); have := Fr.size_take_le l i; omega
      have hw3 : IntKind.i64.wrap ((s2 : Int) + 1) = (s2 : Int) + 1 := wrap_i64 (by omega) (by omega)
      have H1 := Lib.hid hs1
      have H2 := Lib.hid hs2
      have hd3 := Fr.deep_take hnth
      rw [hs1, hs2] at hd3
      have H3 := Lib.hid hd3
      rw [hs1]
      clear hnth hsz hx hs1 hs2 hd3
      go_wp2_with fail
      refine (IH.out c2 HS.out _ G xa xn xm (HX.out.below ((Below.refl _ _).alloc (Nat.le_refl _) _))).mono ?_
      rintro e V ⟨rfl, hg⟩
      have HV := Lib.hid (HG.out.trans ((World.grownBy_alloc _ _ _).trans hg))
      have y0 : V.cell? ⟨U.heap.size, 0, none⟩ = some (.int .i64 k2) := hg.cell (row_c0 (heap_alloc_new U _)) (by simp)
      rw [H2.out]
      clear hg
      by_cases hk3 : k2 = 3
      · subst hk3
        simp only [if_true] at H3
        by_cases hmx : s1 ≤ s2 + 1
        · have m1 : max (s1 : Int) ((s2 : Int) + 1) = (s2 : Int) + 1 := by omega
          have m2 : max s1 (s2 + 1) = s2 + 1 := by omega
          go_wp2_with fail
          go_roundg (n - (i + 1))
          case measure => have := B1.out; omega
          case rel => exact ⟨i + 1, rfl, by omega, by first | (rw [H3.out, m2]; done) | (rw [H3.out, m2]; simp [m1]), by simp, HV.out⟩
        · have m1 : max (s1 : Int) ((s2 : Int) + 1) = (s1 : Int) := by omega
          have m2 : max s1 (s2 + 1) = s1 := by omega
          go_wp2_with fail
          go_roundg (n - (i + 1))
          case measure => have := B1.out; omega
          case rel => exact ⟨i + 1, rfl, by omega, by first | (rw [H3.out, m2]; done) | (rw [H3.out, m2]; simp [m1]), by simp, HV.out⟩
      · simp only [hk3, if_false] at H3
        by_cases hmx : s1 ≤ s2
        · have m1 : max (s1 : Int) (s2 : Int) = (s2 : Int) := by omega
          have m2 : max s1 (s2 + 0) = s2 := by omega
          go_wp2_with fail
          go_roundg (n - (i + 1))
          case measure => have := B1.out; omega
          case rel => exact ⟨i + 1, rfl, by omega, by first | (rw [H3.out, m2]; done) | (rw [H3.out, m2]; simp [m1]), by simp, HV.out⟩
        · have m1 : max (s1 : Int) (s2 : Int) = (s1 : Int) := by omega
          have m2 : max s1 (s2 + 0) = s1 := by omega
          go_wp2_with fail
          go_roundg (n - (i + 1))
          case measure => have := B1.out; omega
          case rel => exact ⟨i + 1, rfl, by omega, by first | (rw [H3.out, m2]; done) | (rw [H3.out, m2]; simp [m1]), by simp, HV.out⟩
    · have hin : i = n := by omega
      subst hin
      have e1 : (l.take i).deep = l.deep := by rw [HN.out, Fr.take_len]
      rw [e1]
      go_wp2_with fail
      go_ret
      exact ⟨rfl, HG.out⟩

theorem depth_any (N : Nat) (hN : N ≤ 1000000) : ∀ l : Fr, l.size ≤ N → depthOk l := by
  induction N with
  | zero => exact fun l hl => depth_step l (by omega) (fun c h => by omega)
  | succ N ih => exact fun l hl => depth_step l (by omega) (fun c h => ih (by omega) c (by omega))

def rdepthOk (l : Fr) : Prop := ∀ (w : World) (G : Fixed) (a : Option Addr) (n m : Nat), Rd w G 4 l.dat (.slice a n m) → Calls Tryd.prog 22 #[.slice a n m] w (Reads w (.int .i64 (l.deep : Nat)))

set_option maxRecDepth 100000 in
set_option maxHeartbeats 3200000 in
theorem rdepth_step (l : Fr) (hl : l.size ≤ 1000000) (IH : Hid (∀ c : Fr, c.size < l.size → rdepthOk c)) : rdepthOk l := by
  intro w G a n m hrd
  obtain ⟨hn, hnm, hm⟩ := hrd.form
  have HR := Lib.hid hrd
  have HN := Lib.hid hn
  have hlen : n ≤ 1000000 := by have := Fr.len_le_size l; omega
  clear hrd hn hm
  go_enter Tryd.func22, Tryd.ntmps22
  go_wp2_with fail
  go_loopg [3, 4] n (fun kk va vb wr => ∃ i, kk = n - i ∧ i ≤ n ∧ va = .int .i64 (((l.take i).deep : Nat) : Int) ∧ vb = .int .i64 (i : Nat) ∧ w.grownBy wr none)
  case atStart => exact ⟨0, by omega, Nat.zero_le _, by rw [Fr.take_zero]; rfl, rfl, World.grownBy.refl _ _⟩
  case round =>
    obtain ⟨i, hk, hi, rfl, rfl, hg⟩ := hrel
    rename World => U
    have B1 := Lib.hid hk
    have HG := Lib.hid hg
    clear hk hg
    by_cases hlt : i < n
    · have hi0 : (0 : Int) ≤ (i : Int) := by omega
      have hi1 : (i : Int) < (n : Int) := by omega
      have hwi : IntKind.i64.wrap ((i : Int) + 1) = (i : Int) + 1 := wrap_i64 (by omega) (by omega)
      obtain ⟨k2, t2, c2, o2, hnth, hsz⟩ := Fr.nth_lt (l := l) (i := i) (by have := HN.out; omega)
      have HT := Lib.hid hnth
      have HS := Lib.hid hsz
      obtain ⟨xb, xo, xa, xn, xm, rfl, x0, x1, x2, x3, hx⟩ := (HR.out.grown HG.out).elem hnth
      have HX := Lib.hid hx
      obtain ⟨s1, hs1⟩ : ∃ s, (l.take i).deep = s := ⟨_, rfl⟩
      obtain ⟨s2, hs2⟩ : ∃ s, c2.deep = s := ⟨_, rfl⟩
      have hs3 : s2 ≤ 1000000 := by have := Fr.deep_le c2; omega
      have hs4 : s1 ≤ 1000000 := by have := Fr.deep_le (l.take i); have := Fr.size_take_le l i; omega
      have hw3 : IntKind.i64.wrap ((s2 : Int) + 1) = (s2 : Int) + 1 := wrap_i64 (by omega) (by omega)
      have H1 := Lib.hid hs1
      have H2 := Lib.hid hs2
      have hd3 := Fr.deep_take hnth
      rw [hs1, hs2] at hd3
      have H3 := Lib.hid hd3
      rw [hs1]
      clear hnth hsz hx hs1 hs2 hd3
      go_wp2_with fail
      refine (IH.out c2 HS.out _ G xa xn xm (HX.out)).mono ?_
      rintro e V ⟨rfl, hg⟩
      have HV := Lib.hid (HG.out.trans hg)
      have y0 : V.cell? ⟨xb, xo + i * 4, none⟩ = some (.int .i64 k2) := hg.cell x0 (by simp)
      rw [H2.out]
      clear hg
      by_cases hk3 : k2 = 3
      · subst hk3
        simp only [if_true] at H3
        by_cases hmx : s1 ≤ s2 + 1
        · have m1 : max (s1 : Int) ((s2 : Int) + 1) = (s2 : Int) + 1 := by omega
          have m2 : max s1 (s2 + 1) = s2 + 1 := by omega
          go_wp2_with fail
          go_roundg (n - (i + 1))
          case measure => have := B1.out; omega
          case rel => exact ⟨i + 1, rfl, by omega, by first | (rw [H3.out, m2]; done) | (rw [H3.out, m2]; simp [m1]), by simp, HV.out⟩
        · have m1 : max (s1 : Int) ((s2 : Int) + 1) = (s1 : Int) := by omega
          have m2 : max s1 (s2 + 1) = s1 := by omega
          go_wp2_with fail
          go_roundg (n - (i + 1))
          case measure => have := B1.out; omega
          case rel => exact ⟨i + 1, rfl, by omega, by first | (rw [H3.out, m2]; done) | (rw [H3.out, m2]; simp [m1]), by simp, HV.out⟩
      · simp only [hk3, if_false] at H3
        by_cases hmx : s1 ≤ s2
        · have m1 : max (s1 : Int) (s2 : Int) = (s2 : Int) := by omega
          have m2 : max s1 (s2 + 0) = s2 := by omega
          go_wp2_with fail
          go_roundg (n - (i + 1))
          case measure => have := B1.out; omega
          case rel => exact ⟨i + 1, rfl, by omega, by first | (rw [H3.out, m2]; done) | (rw [H3.out, m2]; simp [m1]), by simp, HV.out⟩
        · have m1 : max (s1 : Int) (s2 : Int) = (s1 : Int) := by omega
          have m2 : max s1 (s2 + 0) = s1 := by omega
          go_wp2_with fail
          go_roundg (n - (i + 1))
          case measure => have := B1.out; omega
          case rel => exact ⟨i + 1, rfl, by omega, by first | (rw [H3.out, m2]; done) | (rw [H3.out, m2]; simp [m1]), by simp, HV.out⟩
    · have hin : i = n := by omega
      subst hin
      have e1 : (l.take i).deep = l.deep := by rw [HN.out, Fr.take_len]
      rw [e1]
      go_wp2_with fail
      go_ret
      exact ⟨rfl, HG.out⟩

theorem rdepth_any (N : Nat) (hN : N ≤ 1000000) : ∀ l : Fr, l.size ≤ N → rdepthOk l := by
  induction N with
  | zero => exact fun l hl => rdepth_step l (by omega) (fun c h => by omega)
  | succ N ih => exact fun l hl => rdepth_step l (by omega) (fun c h => ih (by omega) c (by omega))
end Go.Proofs.YtnaabplppfikcaaDoor
