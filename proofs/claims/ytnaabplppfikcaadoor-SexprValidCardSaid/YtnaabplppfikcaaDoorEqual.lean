/- Equal, NodeEqual. -/
import Derived.Test.YtnaabplppfikcaaDoorTree
namespace Go.Proofs.YtnaabplppfikcaaDoor
open Go.RowKit

def equalOk (c : Fr) : Prop := ∀ (c' : Fr) (w : World) (G G' : Fixed) (k k' o o' : Int) (t t' : List UInt8) (a a' : Option Addr) (n n' m m' : Nat), Rd w G 4 c.dat (.slice a n m) → Rd w G' 4 c'.dat (.slice a' n' m') →
    Calls Tryd.prog 17 #[.agg #[.int .i64 k, .string ⟨t.toArray⟩, .slice a n m, .int .i64 o], .agg #[.int .i64 k', .string ⟨t'.toArray⟩, .slice a' n' m', .int .i64 o']] w (Reads w (.bool ((k == k') && (t == t') && c.eqf c')))

set_option maxRecDepth 100000 in
set_option maxHeartbeats 3200000 in
theorem equal_step (c : Fr) (hl : c.size ≤ 1000000) (IH : Hid (∀ d : Fr, d.size < c.size → equalOk d)) : equalOk c := by
  intro c' w G G' k k' o o' t t' a a' n n' m m' hrd hrd'
  obtain ⟨hn, hnm, hm⟩ := hrd.form
  obtain ⟨hn', hnm', hm'⟩ := hrd'.form
  have HR := Lib.hid hrd
  have HR' := Lib.hid hrd'
  have HN := Lib.hid hn
  have HN' := Lib.hid hn'
  have hlen : n ≤ 1000000 := by have := Fr.len_le_size c; omega
  clear hrd hrd' hn hn' hm
  unfold maxLen at hm'
  by_cases hk : k = k'
  · subst hk
    by_cases ht : t = t'
    · subst ht
      have er : ((k == k) && (t == t) && c.eqf c') = c.eqf c' := by simp
      rw [er]
      clear er
      by_cases hnn : n = n'
      · subst hnn
        go_enter Tryd.func17, Tryd.ntmps17
        go_wp2_with fail
        obtain ⟨Y, hY⟩ : ∃ Y, (w.alloc (.cells #[.int .i64 k, .string ⟨t.toArray⟩, .slice a n m, .int .i64 o] 39)).alloc (.cells #[.int .i64 k, .string ⟨t.toArray⟩, .slice a' n m', .int .i64 o'] 39) = Y := ⟨_, rfl⟩
        have hYg : w.grownBy Y none := by rw [← hY]; exact (World.grownBy_alloc _ _ _).trans (World.grownBy_alloc _ _ _)
        have hY1 : Y.cell? ⟨w.heap.size, 2, none⟩ = some (.slice a n m) := by
          rw [← hY]
          exact row_c2 ((Below.heap_alloc _ _ _ (by simp)).trans (heap_alloc_new w _))
        have hY2 : Y.cell? ⟨w.heap.size + 1, 2, none⟩ = some (.slice a' n m') := by
          rw [← hY]
          have := heap_alloc_new (w.alloc (.cells #[.int .i64 k, .string ⟨t.toArray⟩, .slice a n m, .int .i64 o] 39)) (.cells #[.int .i64 k, .string ⟨t.toArray⟩, .slice a' n m', .int .i64 o'] 39)
          exact row_c2 (by simpa using this)
        have HYg := Lib.hid hYg
        have HY1 := Lib.hid hY1
        have HY2 := Lib.hid hY2
        rw [hY]
        obtain ⟨ba, hba⟩ : ∃ r, w.heap.size + 1 = r := ⟨_, rfl⟩
        rw [hba] at HY2 ⊢
        obtain ⟨bo, hbo⟩ : ∃ r, w.heap.size = r := ⟨_, rfl⟩
        rw [hbo] at HY1 ⊢
        clear hYg hY1 hY2 hY hba hbo
        go_loopg [30] n (fun kk v wr => ∃ i, kk = n - i ∧ i ≤ n ∧ v = .int .i64 (i : Nat) ∧ Y.grownBy wr none ∧ (c.take i).eqf (c'.take i) = true)
        case atStart => exact ⟨0, by omega, Nat.zero_le _, rfl, World.grownBy.refl _ _, by rw [Fr.take_zero, Fr.take_zero]; rfl⟩
        case round =>
          obtain ⟨i, hk, hi, rfl, hg, heq⟩ := hrel
          rename World => U
          have B1 := Lib.hid hk
          have HG := Lib.hid hg
          have HE := Lib.hid heq
          have z1 := HG.out.cell HY1.out (by simp)
          have z2 := HG.out.cell HY2.out (by simp)
          clear hk hg heq
          by_cases hlt : i < n
          · have hi0 : (0 : Int) ≤ (i : Int) := by omega
            have hi1 : (i : Int) < (n : Int) := by omega
            have hwi : IntKind.i64.wrap ((i : Int) + 1) = (i : Int) + 1 := wrap_i64 (by omega) (by omega)
            obtain ⟨k2, t2, c2, o2, hnth, hsz⟩ := Fr.nth_lt (l := c) (i := i) (by have := HN.out; omega)
            obtain ⟨k3, t3, c3, o3, hnth', hsz'⟩ := Fr.nth_lt (l := c') (i := i) (by have := HN'.out; omega)
            have HT := Lib.hid hnth
            have HT' := Lib.hid hnth'
            have HS := Lib.hid hsz
            obtain ⟨xb, xo, xa, xn, xm, rfl, x0, x1, x2, x3, hx⟩ := (HR.out.grown (HYg.out.trans HG.out)).elem hnth
            obtain ⟨yb, yo, ya, yn, ym, rfl, y0, y1, y2, y3, hy⟩ := (HR'.out.grown (HYg.out.trans HG.out)).elem hnth'
            have HX := Lib.hid hx
            have HX' := Lib.hid hy
            obtain ⟨r, hr⟩ : ∃ r, ((k2 == k3) && (t2 == t3) && c2.eqf c3) = r := ⟨_, rfl⟩
            have HRr := Lib.hid hr
            clear hnth hnth' hsz hsz' hx hy hr
            go_wp2_with fail
            go_region_held3 (fun w' => w'.cell? ⟨bo, 2, none⟩ = some (.slice (some ⟨xb, xo, none⟩) n m) ∧ w'.cell? ⟨ba, 2, none⟩ = some (.slice (some ⟨yb, yo, none⟩) n m') ∧ w'.cell? ⟨xb, xo + i * 4, none⟩ = some (.int .i64 k2) ∧ w'.cell? ⟨xb, xo + i * 4 + 1, none⟩ = some (.string ⟨t2.toArray⟩) ∧ w'.cell? ⟨xb, xo + i * 4 + 2, none⟩ = some (.slice xa xn xm) ∧ w'.cell? ⟨xb, xo + i * 4 + 3, none⟩ = some (.int .i64 o2) ∧
                w'.cell? ⟨yb, yo + i * 4, none⟩ = some (.int .i64 k3) ∧ w'.cell? ⟨yb, yo + i * 4 + 1, none⟩ = some (.string ⟨t3.toArray⟩) ∧ w'.cell? ⟨yb, yo + i * 4 + 2, none⟩ = some (.slice ya yn ym) ∧ w'.cell? ⟨yb, yo + i * 4 + 3, none⟩ = some (.int .i64 o3))
              (first
                | exact ⟨hgr.cell z1 (by simp), hgr.cell z2 (by simp), hgr.cell x0 (by simp), hgr.cell x1 (by simp), hgr.cell x2 (by simp), hgr.cell x3 (by simp), hgr.cell y0 (by simp), hgr.cell y1 (by simp), hgr.cell y2 (by simp), hgr.cell y3 (by simp)⟩
                | exact ⟨z1, z2, x0, x1, x2, x3, y0, y1, y2, y3⟩)
              ((go_at_call 17; refine (IH.out c2 HS.out c3 _ G G' k2 k3 o2 o3 t2 t3 xa ya xn yn xm ym (HX.out.grown (grown_drewN U 1 none)) (HX'.out.grown (grown_drewN U 1 none))).mono ?_; rintro e V ⟨rfl, hgr⟩; have HV := Lib.hid (HG.out.trans ((grown_drewN U 1 none).trans hgr)); rw [HRr.out]))
            cases r
            · go_wp2_with fail
              go_ret
              refine ⟨?_, HYg.out.trans HV.out⟩
              have hf : c.eqf c' = false := by
                cases hq : c.eqf c' with
                | false => rfl
                | true => have := Fr.eqf_at HT.out HT'.out hq; rw [HRr.out] at this; cases this
              rw [hf]
              rfl
            · go_wp2_with fail
              go_roundg (n - (i + 1))
              case measure => have := B1.out; omega
              case rel => exact ⟨i + 1, rfl, by omega, by simp, HV.out, Fr.eqf_next HT.out HT'.out HE.out HRr.out⟩
          · have hin : i = n := by omega
            subst hin
            go_wp2_with fail
            go_ret
            refine ⟨?_, HYg.out.trans HG.out⟩
            have hf : c.eqf c' = true := by
              have h1 := HE.out
              have e1 : c.take i = c := by rw [HN.out]; exact Fr.take_len
              have e2 : c'.take i = c' := by rw [HN'.out]; exact Fr.take_len
              rwa [e1, e2] at h1
            rw [hf]
            rfl
      · have hf : c.eqf c' = false := by
          cases hq : c.eqf c' with
          | false => rfl
          | true => have := Fr.eqf_len hq; rw [← HN.out, ← HN'.out] at this; exact absurd this hnn
        rw [hf]
        have e3 : ¬ (n : Int) = (n' : Int) := by omega
        go_enter Tryd.func17, Tryd.ntmps17
        go_wp2_with fail
        go_ret
        exact ⟨rfl, (World.grownBy_alloc _ _ _).trans (World.grownBy_alloc _ _ _)⟩
    · have er : ((k == k) && (t == t') && c.eqf c') = false := by simp [ht]
      rw [er]
      have e2 : ¬ t.toArray = t'.toArray := fun e => ht (by simpa using congrArg Array.toList e)
      have e3 : ¬ (ByteArray.mk t.toArray) = (ByteArray.mk t'.toArray) := fun e => e2 (by injection e)
      go_enter Tryd.func17, Tryd.ntmps17
      go_wp2_with fail
      go_ret
      exact ⟨rfl, (World.grownBy_alloc _ _ _).trans (World.grownBy_alloc _ _ _)⟩
  · have er : ((k == k') && (t == t') && c.eqf c') = false := by simp [hk]
    rw [er]
    have e1 : (k != k') = true := by simp [hk]
    go_enter Tryd.func17, Tryd.ntmps17
    go_wp2_with fail
    go_ret
    exact ⟨rfl, (World.grownBy_alloc _ _ _).trans (World.grownBy_alloc _ _ _)⟩

theorem equal_any (N : Nat) (hN : N ≤ 1000000) : ∀ l : Fr, l.size ≤ N → equalOk l := by
  induction N with
  | zero => exact fun l hl => equal_step l (by omega) (fun c h => by omega)
  | succ N ih => exact fun l hl => equal_step l (by omega) (fun c h => ih (by omega) c (by omega))
end Go.Proofs.YtnaabplppfikcaaDoor
