/- The measures: Count, NodeCount, Depth, NodeDepth. -/
import Derived.Test.YtnaabplppfikcaaDoorTree
namespace Go.Proofs.YtnaabplppfikcaaDoor
open Go.RowKit

def countOk (l : Fr) : Prop := ∀ (w : World) (G : Fixed) (a : Option Addr) (n m : Nat), Rd w G 4 l.dat (.slice a n m) → Calls Tryd.prog 19 #[.slice a n m] w (Reads w (.int .i64 (l.size : Nat)))

set_option maxRecDepth 100000 in
set_option maxHeartbeats 3200000 in
theorem count_step (l : Fr) (hl : l.size ≤ 1000000) (IH : Hid (∀ c : Fr, c.size < l.size → countOk c)) : countOk l := by
  intro w G a n m hrd
  obtain ⟨hn, hnm, hm⟩ := hrd.form
  have HR := Lib.hid hrd
  have HN := Lib.hid hn
  have hlen : n ≤ 1000000 := by have := Fr.len_le_size l; omega
  clear hrd hn hm
  go_enter Tryd.func19, Tryd.ntmps19
  go_wp2_with fail
  go_loopg [3, 10] n (fun kk va vb wr => ∃ i, kk = n - i ∧ i ≤ n ∧ va = .int .i64 ((n + (l.take i).kidsum : Nat) : Int) ∧ vb = .int .i64 (i : Nat) ∧ w.grownBy wr none)
  case atStart => exact ⟨0, by omega, Nat.zero_le _, by rw [Fr.take_zero]; rfl, rfl, World.grownBy.refl _ _⟩
  case round =>
    obtain ⟨i, hk, hi, rfl, rfl, hg⟩ := hrel
    rename World => U
    have B1 := Lib.hid hk
    have HG := Lib.hid hg
    clear hk hg
    by_cases hlt : i < n
    · have hi0 : (0 : Int) ≤ (i : Int) := by omega
      have hi1 : (i : Int) < (n : Int) := by omega
      have hwi : IntKind.i64.wrap ((i : Int) + 1) = (i : Int) + 1 := wrap_i64 (by omega) (by omega)
      obtain ⟨k2, t2, c2, o2, hnth, hsz⟩ := Fr.nth_lt (l := l) (i := i) (by have := HN.out; omega)
      have HT := Lib.hid hnth
      have HS := Lib.hid hsz
      obtain ⟨xb, xo, xa, xn, xm, rfl, x0, x1, x2, x3, hx⟩ := (HR.out.grown HG.out).elem hnth
      have HX := Lib.hid hx
      obtain ⟨s1, hs1⟩ : ∃ s, n + (l.take i).kidsum = s := ⟨_, rfl⟩
      have hs2 : s1 ≤ 2000000 := by have := Fr.kidsum_take_le l i; have := Fr.size_eq l; omega
      have hs3 : c2.size ≤ 1000000 := by omega
      have hw3 : IntKind.i64.wrap ((s1 : Int) + (c2.size : Int)) = (s1 : Int) + (c2.size : Int) := wrap_i64 (by omega) (by omega)
      have H1 := Lib.hid hs1
      rw [hs1]
      clear hnth hsz hx hs1
      go_wp2_with fail
      refine (IH.out c2 HS.out _ G xa xn xm (HX.out.below ((Below.refl _ _).alloc (Nat.le_refl _) _))).mono ?_
      rintro e V ⟨rfl, hg⟩
      have HV := Lib.hid (HG.out.trans ((World.grownBy_alloc _ _ _).trans hg))
      clear hg
      go_wp2_with fail
      go_roundg (n - (i + 1))
      case measure => have := B1.out; omega
      case rel => exact ⟨i + 1, rfl, by omega, by rw [Fr.kidsum_take HT.out, ← Nat.add_assoc, H1.out]; simp, by simp, HV.out⟩
    · have hin : i = n := by omega
      subst hin
      have e1 : i + (l.take i).kidsum = l.size := by rw [Fr.size_eq l, HN.out, Fr.take_len]
      rw [e1]
      go_wp2_with fail
      go_ret
      exact ⟨rfl, HG.out⟩

theorem count_any (N : Nat) (hN : N ≤ 1000000) : ∀ l : Fr, l.size ≤ N → countOk l := by
  induction N with
  | zero => exact fun l hl => count_step l (by omega) (fun c h => by omega)
  | succ N ih => exact fun l hl => count_step l (by omega) (fun c h => ih (by omega) c (by omega))

def rcountOk (l : Fr) : Prop := ∀ (w : World) (G : Fixed) (a : Option Addr) (n m : Nat), Rd w G 4 l.dat (.slice a n m) → Calls Tryd.prog 20 #[.slice a n m] w (Reads w (.int .i64 (l.size : Nat)))

set_option maxRecDepth 100000 in
set_option maxHeartbeats 3200000 in
theorem rcount_step (l : Fr) (hl : l.size ≤ 1000000) (IH : Hid (∀ c : Fr, c.size < l.size → rcountOk c)) : rcountOk l := by
  intro w G a n m hrd
  obtain ⟨hn, hnm, hm⟩ := hrd.form
  have HR := Lib.hid hrd
  have HN := Lib.hid hn
  have hlen : n ≤ 1000000 := by have := Fr.len_le_size l; omega
  clear hrd hn hm
  go_enter Tryd.func20, Tryd.ntmps20
  go_wp2_with fail
  go_loopg [3, 4] n (fun kk va vb wr => ∃ i, kk = n - i ∧ i ≤ n ∧ va = .int .i64 ((n + (l.take i).kidsum : Nat) : Int) ∧ vb = .int .i64 (i : Nat) ∧ w.grownBy wr none)
  case atStart => exact ⟨0, by omega, Nat.zero_le _, by rw [Fr.take_zero]; rfl, rfl, World.grownBy.refl _ _⟩
  case round =>
    obtain ⟨i, hk, hi, rfl, rfl, hg⟩ := hrel
    rename World => U
    have B1 := Lib.hid hk
    have HG := Lib.hid hg
    clear hk hg
    by_cases hlt : i < n
    · have hi0 : (0 : Int) ≤ (i : Int) := by omega
      have hi1 : (i : Int) < (n : Int) := by omega
      have hwi : IntKind.i64.wrap ((i : Int) + 1) = (i : Int) + 1 := wrap_i64 (by omega) (by omega)
      obtain ⟨k2, t2, c2, o2, hnth, hsz⟩ := Fr.nth_lt (l := l) (i := i) (by have := HN.out; omega)
      have HT := Lib.hid hnth
      have HS := Lib.hid hsz
      obtain ⟨xb, xo, xa, xn, xm, rfl, x0, x1, x2, x3, hx⟩ := (HR.out.grown HG.out).elem hnth
      have HX := Lib.hid hx
      obtain ⟨s1, hs1⟩ : ∃ s, n + (l.take i).kidsum = s := ⟨_, rfl⟩
      have hs2 : s1 ≤ 2000000 := by have := Fr.kidsum_take_le l i; have := Fr.size_eq l; omega
      have hs3 : c2.size ≤ 1000000 := by omega
      have hw3 : IntKind.i64.wrap ((s1 : Int) + (c2.size : Int)) = (s1 : Int) + (c2.size : Int) := wrap_i64 (by omega) (by omega)
      have H1 := Lib.hid hs1
      rw [hs1]
      clear hnth hsz hx hs1
      go_wp2_with fail
      refine (IH.out c2 HS.out _ G xa xn xm (HX.out)).mono ?_
      rintro e V ⟨rfl, hg⟩
      have HV := Lib.hid (HG.out.trans hg)
      clear hg
      go_wp2_with fail
      go_roundg (n - (i + 1))
      case measure => have := B1.out; omega
      case rel => exact ⟨i + 1, rfl, by omega, by rw [Fr.kidsum_take HT.out, ← Nat.add_assoc, H1.out]; simp, by simp, HV.out⟩
    · have hin : i = n := by omega
      subst hin
      have e1 : i + (l.take i).kidsum = l.size := by rw [Fr.size_eq l, HN.out, Fr.take_len]
      rw [e1]
      go_wp2_with fail
      go_ret
      exact ⟨rfl, HG.out⟩

theorem rcount_any (N : Nat) (hN : N ≤ 1000000) : ∀ l : Fr, l.size ≤ N → rcountOk l := by
  induction N with
  | zero => exact fun l hl => rcount_step l (by omega) (fun c h => by omega)
  | succ N ih => exact fun l hl => rcount_step l (by omega) (fun c h => ih (by omega) c (by omega))
end Go.Proofs.YtnaabplppfikcaaDoor
