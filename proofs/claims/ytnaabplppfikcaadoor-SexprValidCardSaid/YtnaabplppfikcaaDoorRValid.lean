/- telref1.validNode, telref1.NodeValid. -/
import Derived.Test.YtnaabplppfikcaaDoorValid
namespace Go.Proofs.YtnaabplppfikcaaDoor
open Go.RowKit

def RValidOk (c : Fr) : Prop := ∀ (w : World) (G : Fixed) (k o : Int) (t : List UInt8) (a : Option Addr) (n m D : Nat) (z : Int), z = 40 - (D : Int) → D ≤ 40 → t.length ≤ 1000000 → c.short → Rd w G 4 c.dat (.slice a n m) →
    Calls Tryd.prog 40 #[.agg #[.int .i64 k, .string ⟨t.toArray⟩, .slice a n m, .int .i64 o], .int .i64 z] w (Reads w (.bool (vnode k t c D)))

set_option maxRecDepth 100000 in
set_option maxHeartbeats 6400000 in
theorem rvalid_step (c : Fr) (hc : c.size ≤ 1000000) (IH : Hid (∀ x : Fr, x.size < c.size → RValidOk x)) : RValidOk c := by
  intro w G k o t a n m D z hz hd ht hsh hrd
  obtain ⟨hn, hnm, hm⟩ := hrd.form
  have HR := Lib.hid hrd
  have HN := Lib.hid hn
  have HSH := Lib.hid hsh
  have HZ := Lib.hid hz
  have hlen : n ≤ 1000000 := by have := Fr.len_le_size c; omega
  have hz1 : (0 : Int) ≤ z := by omega
  have hz2 : z ≤ 40 := by omega
  obtain ⟨T, hT⟩ : ∃ T : ByteArray, ⟨t.toArray⟩ = T := ⟨_, rfl⟩
  have HTb : Hid (bytes T = t) := by rw [← hT]; exact bytes_mk _
  have HTs : Hid (T.size = t.length) := by rw [← bytes_len, HTb.out]; exact rfl
  have hTS : T.size ≤ 1000000 := by rw [HTs.out]; exact ht
  rw [hT]
  clear hrd hn hm hsh hz hT ht
  have hbox : ∀ (bb : Nat) (Y U : World), Y.heap[bb]? = some (.cells #[.int .i64 k, .string T, .slice a n m, .int .i64 o] 26 (0, 0)) → Y.grownBy U none → U.heap[bb]? = some (.cells #[.int .i64 k, .string T, .slice a n m, .int .i64 o] 26 (0, 0)) := fun bb Y U h hg => (hg.block bb (Array.getElem?_eq_some_iff.1 h).1 (by simp)).trans h
  have HBx := Lib.hid hbox
  clear hbox
  by_cases h1 : k = 1
  · subst h1
    have e : vnode 1 t c D = (decide (n = 0) && decide (0 < T.size) && decide (T.size ≤ 24) && allB wordB t) := by rw [HN.out, HTs.out]; simp [vnode]
    rw [e]
    clear e
    go_enter Tryd.func40, Tryd.ntmps40
    go_wp2_with fail
    obtain ⟨Y, hY⟩ : ∃ Y, w.alloc (.cells #[.int .i64 1, .string T, .slice a n m, .int .i64 o] 26) = Y := ⟨_, rfl⟩
    have hYg : w.grownBy Y none := by rw [← hY]; exact World.grownBy_alloc _ _ _
    have hYr : Y.heap[w.heap.size]? = some (.cells #[.int .i64 1, .string T, .slice a n m, .int .i64 o] 26 (0, 0)) := by rw [← hY]; exact heap_alloc_new w _
    have HYg := Lib.hid hYg
    rw [hY]
    obtain ⟨bo, hbo⟩ : ∃ r, w.heap.size = r := ⟨_, rfl⟩
    rw [hbo] at hYr ⊢
    have y1 := row_c1 hYr
    have y2 := row_c2 hYr
    have HYr := Lib.hid hYr
    clear hYg hY hbo hYr
    go_loopg [5] T.size (fun kk v wr => ∃ i : Nat, kk = T.size - i ∧ i ≤ T.size ∧ v = .int .i64 (i : Nat) ∧ wr = Y ∧ allB wordB ((bytes T).take i) = true)
    case atStart => exact ⟨0, rfl, Nat.zero_le _, rfl, rfl, rfl⟩
    case round =>
      obtain ⟨i, hk, hi, rfl, rfl, hall⟩ := hrel
      have A1 := Lib.hid hk
      have A2 := Lib.hid hall
      clear hk hall
      have i0 : (0 : Int) ≤ (i : Int) := by omega
      by_cases hlt : i < T.size
      · have i1 : (i : Int) < (T.size : Int) := by omega
        have hwi : IntKind.i64.wrap ((i : Int) + 1) = (i : Int) + 1 := wrap_i64 (by omega) (by omega)
        have HTk := Lib.hid (allB_take (p := wordB) hlt A2.out)
        go_wp2_with fail
        refine (ref_wordByte_any _ _).mono ?_
        rintro e w' ⟨rfl, rfl⟩
        cases hp : wordB (T[i].toNat : Int)
        · have HP : Hid (allB wordB (bytes T) = false) := allB_false (HTk.out.trans hp)
          clear hp
          go_wp2_with fail
          go_ret
          exact ⟨by rw [← HTb.out, HP.out, Bool.and_false]; rfl, HYg.out⟩
        · have HP : Hid (allB wordB ((bytes T).take (i + 1)) = true) := HTk.out.trans hp
          clear hp
          go_wp2_with fail
          go_roundg (T.size - (i + 1))
          case measure => have := A1.out; omega
          case rel => exact ⟨i + 1, rfl, by omega, by simp, rfl, HP.out⟩
      · have hin : i = T.size := by omega
        have HP : Hid (allB wordB t = true) := by
          have := A2.out
          rwa [hin, List.take_of_length_le (by rw [bytes_len]; exact Nat.le_refl _), HTb.out] at this
        subst hin
        have e4 : (decide (n = 0) && decide (0 < T.size) && decide (T.size ≤ 24) && allB wordB t) = (decide (0 < T.size) && decide (T.size ≤ 24) && decide (n = 0)) := by rw [HP.out]; cases decide (n = 0) <;> cases decide (0 < T.size) <;> cases decide (T.size ≤ 24) <;> rfl
        rw [e4]
        clear e4
        by_cases hp : 0 < T.size
        · have e1 : (0 : Int) < (T.size : Int) := by omega
          by_cases h24 : T.size ≤ 24
          · have e2 : (T.size : Int) ≤ 24 := by omega
            by_cases hn0 : n = 0
            · have e0 : ((n : Int) == 0) = true := by simp [hn0]
              go_wp2_with fail
              go_ret
              exact ⟨by simp [hp, h24, hn0, HP.out], HYg.out⟩
            · have e0 : ((n : Int) == 0) = false := by simp [hn0]
              go_wp2_with fail
              go_ret
              exact ⟨by simp [hn0], HYg.out⟩
          · have e2 : ¬ (T.size : Int) ≤ 24 := by omega
            go_wp2_with fail
            go_ret
            exact ⟨by simp, HYg.out⟩
        · have e1 : ¬ (0 : Int) < (T.size : Int) := by omega
          go_wp2_with fail
          go_ret
          exact ⟨by simp, HYg.out⟩
  by_cases h2 : k = 2
  · subst h2
    have e : vnode 2 t c D = (decide (n = 0) && decide (T.size ≤ 2000) && allB stringB t) := by rw [HN.out, HTs.out]; simp [vnode]
    rw [e]
    clear e h1
    go_enter Tryd.func40, Tryd.ntmps40
    go_wp2_with fail
    obtain ⟨Y, hY⟩ : ∃ Y, w.alloc (.cells #[.int .i64 2, .string T, .slice a n m, .int .i64 o] 26) = Y := ⟨_, rfl⟩
    have hYg : w.grownBy Y none := by rw [← hY]; exact World.grownBy_alloc _ _ _
    have hYr : Y.heap[w.heap.size]? = some (.cells #[.int .i64 2, .string T, .slice a n m, .int .i64 o] 26 (0, 0)) := by rw [← hY]; exact heap_alloc_new w _
    have HYg := Lib.hid hYg
    rw [hY]
    obtain ⟨bo, hbo⟩ : ∃ r, w.heap.size = r := ⟨_, rfl⟩
    rw [hbo] at hYr ⊢
    have y1 := row_c1 hYr
    have y2 := row_c2 hYr
    have HYr := Lib.hid hYr
    clear hYg hY hbo hYr
    go_loopg [6] T.size (fun kk v wr => ∃ i : Nat, kk = T.size - i ∧ i ≤ T.size ∧ v = .int .i64 (i : Nat) ∧ wr = Y ∧ allB stringB ((bytes T).take i) = true)
    case atStart => exact ⟨0, rfl, Nat.zero_le _, rfl, rfl, rfl⟩
    case round =>
      obtain ⟨i, hk, hi, rfl, rfl, hall⟩ := hrel
      have A1 := Lib.hid hk
      have A2 := Lib.hid hall
      clear hk hall
      have i0 : (0 : Int) ≤ (i : Int) := by omega
      by_cases hlt : i < T.size
      · have i1 : (i : Int) < (T.size : Int) := by omega
        have hwi : IntKind.i64.wrap ((i : Int) + 1) = (i : Int) + 1 := wrap_i64 (by omega) (by omega)
        have HTk := Lib.hid (allB_take (p := stringB) hlt A2.out)
        by_cases q1 : (T[i].toNat : Int) < 32
        · have HP : Hid (allB stringB (bytes T) = false) := allB_false (HTk.out.trans (by simp [stringB]; omega))
          go_wp2_with fail
          go_ret
          exact ⟨by rw [← HTb.out, HP.out, Bool.and_false]; rfl, HYg.out⟩
        · by_cases q2 : (126 : Int) < (T[i].toNat : Int)
          · have HP : Hid (allB stringB (bytes T) = false) := allB_false (HTk.out.trans (by simp [stringB]; omega))
            go_wp2_with fail
            go_ret
            exact ⟨by rw [← HTb.out, HP.out, Bool.and_false]; rfl, HYg.out⟩
          · have HP : Hid (allB stringB ((bytes T).take (i + 1)) = true) := HTk.out.trans (by simp [stringB]; omega)
            go_wp2_with fail
            go_roundg (T.size - (i + 1))
            case measure => have := A1.out; omega
            case rel => exact ⟨i + 1, rfl, by omega, by simp, rfl, HP.out⟩
      · have hin : i = T.size := by omega
        have HP : Hid (allB stringB t = true) := by
          have := A2.out
          rwa [hin, List.take_of_length_le (by rw [bytes_len]; exact Nat.le_refl _), HTb.out] at this
        subst hin
        by_cases h24 : T.size ≤ 2000
        · have e2 : (T.size : Int) ≤ 2000 := by omega
          by_cases hn0 : n = 0
          · have e0 : ((n : Int) == 0) = true := by simp [hn0]
            go_wp2_with fail
            go_ret
            exact ⟨by simp [h24, hn0, HP.out], HYg.out⟩
          · have e0 : ((n : Int) == 0) = false := by simp [hn0]
            go_wp2_with fail
            go_ret
            exact ⟨by simp [hn0], HYg.out⟩
        · have e2 : ¬ (T.size : Int) ≤ 2000 := by omega
          go_wp2_with fail
          go_ret
          exact ⟨by simp, HYg.out⟩
  have g1 := beq_int_false h1
  have g2 := beq_int_false h2
  by_cases h3 : k = 3
  · subst h3
    have e : vnode 3 t c D = (decide (t = []) && decide (0 < D) && c.validF (D - 1)) := by simp [vnode]
    rw [e]
    clear e h1 h2 g1 g2
    by_cases ht0 : t = []
    · have hT0 : T = ⟨#[]⟩ := ba_of_bytes (by rw [HTb.out, ht0])
      subst hT0
      by_cases hd0 : D = 0
      · have e1 : (z == 40) = true := beq_int_true (by have := HZ.out; omega)
        go_enter Tryd.func40, Tryd.ntmps40
        go_wp2_with fail
        go_ret
        exact ⟨by simp [hd0], World.grownBy_alloc _ _ _⟩
      · have e1 : (z == 40) = false := beq_int_false (by have := HZ.out; omega)
        have ef : (decide (t = []) && decide (0 < D) && c.validF (D - 1)) = c.validF (D - 1) := by simp [ht0]; omega
        rw [ef]
        have hw1 : IntKind.i64.wrap (z + 1) = z + 1 := wrap_i64 (by omega) (by omega)
        have HZ1 : Hid (z + 1 = 40 - ((D - 1 : Nat) : Int)) := by have := HZ.out; show _ = _; omega
        clear ef
        go_enter Tryd.func40, Tryd.ntmps40
        go_wp2_with fail
        obtain ⟨Y, hY⟩ : ∃ Y, w.alloc (.cells #[.int .i64 3, .string ⟨#[]⟩, .slice a n m, .int .i64 o] 26) = Y := ⟨_, rfl⟩
        have hYg : w.grownBy Y none := by rw [← hY]; exact World.grownBy_alloc _ _ _
        have hY1 : Y.cell? ⟨w.heap.size, 2, none⟩ = some (.slice a n m) := by rw [← hY]; exact row_c2 (heap_alloc_new w _)
        have HYg := Lib.hid hYg
        have HY1 := Lib.hid hY1
        rw [hY]
        obtain ⟨bo, hbo⟩ : ∃ r, w.heap.size = r := ⟨_, rfl⟩
        rw [hbo] at HY1 ⊢
        clear hYg hY hbo hY1
        go_loopg [7] n (fun kk v wr => ∃ i, kk = n - i ∧ i ≤ n ∧ v = .int .i64 (i : Nat) ∧ Y.grownBy wr none ∧ (c.take i).validF (D - 1) = true)
        case atStart => exact ⟨0, by omega, Nat.zero_le _, rfl, World.grownBy.refl _ _, by rw [Fr.take_zero]; rfl⟩
        case round =>
          obtain ⟨i, hk, hi, rfl, hg, hv⟩ := hrel
          rename World => U
          have B1 := Lib.hid hk
          have HG := Lib.hid hg
          have HV := Lib.hid hv
          have z1 := HG.out.cell HY1.out (by simp)
          clear hk hg hv
          by_cases hlt : i < n
          · have hi0 : (0 : Int) ≤ (i : Int) := by omega
            have hi1 : (i : Int) < (n : Int) := by omega
            have hwi : IntKind.i64.wrap ((i : Int) + 1) = (i : Int) + 1 := wrap_i64 (by omega) (by omega)
            obtain ⟨k2, t2, c2, o2, hnth, hsz⟩ := Fr.nth_lt (l := c) (i := i) (by have := HN.out; omega)
            have HT := Lib.hid hnth
            have HSz := Lib.hid hsz
            have HS2 := Lib.hid (Fr.short_nth HSH.out hnth)
            obtain ⟨xb, xo, xa, xn, xm, rfl, x0, x1, x2, x3, hx⟩ := (HR.out.grown (HYg.out.trans HG.out)).elem hnth
            have HX := Lib.hid hx
            obtain ⟨r, hr⟩ : ∃ r, vnode k2 t2 c2 (D - 1) = r := ⟨_, rfl⟩
            have HRr := Lib.hid hr
            clear hnth hsz hx hr
            go_wp2_with fail
            refine (IH.out c2 HSz.out _ G k2 o2 t2 xa xn xm (D - 1) _ HZ1.out (by omega) HS2.out.1 HS2.out.2 HX.out).mono ?_
            rintro e V ⟨rfl, hg⟩
            rw [HRr.out]
            have HGV := Lib.hid (HG.out.trans hg)
            clear hg
            cases r
            · go_wp2_with fail
              go_ret
              exact ⟨by rw [validF_false HT.out HRr.out]; rfl, HYg.out.trans HGV.out⟩
            · go_wp2_with fail
              go_roundg (n - (i + 1))
              case measure => have := B1.out; omega
              case rel => exact ⟨i + 1, rfl, by omega, by simp, HGV.out, by rw [validF_take HT.out, HV.out, HRr.out]; rfl⟩
          · have hin : i = n := by omega
            subst hin
            go_wp2_with fail
            go_ret
            refine ⟨?_, HYg.out.trans HG.out⟩
            have e1 : c.take i = c := by rw [HN.out]; exact Fr.take_len
            have hv := HV.out
            rw [e1] at hv
            rw [hv]
            rfl
    · have g0 : T.toList.isEmpty = false := ba_nonempty (by rw [HTb.out]; exact ht0)
      go_enter Tryd.func40, Tryd.ntmps40
      go_wp2_with fail
      go_ret
      exact ⟨by simp [ht0], World.grownBy_alloc _ _ _⟩
  have g3 := beq_int_false h3
  have e : vnode k t c D = false := by simp [vnode, h1, h2, h3]
  rw [e]
  clear e h1 h2 h3
  go_enter Tryd.func40, Tryd.ntmps40
  go_wp2_with fail
  go_ret
  exact ⟨rfl, World.grownBy_alloc _ _ _⟩

theorem rvalid_any (N : Nat) (hN : N ≤ 1000000) : ∀ c : Fr, c.size ≤ N → RValidOk c := by
  induction N with
  | zero => exact fun c hc => rvalid_step c (by omega) (fun x h => by omega)
  | succ N ih => exact fun c hc => rvalid_step c (by omega) (fun x h => ih (by omega) x (by omega))

/-- telref1.NodeValid. -/
theorem nodeValid_any (c : Fr) (hc : c.size ≤ 1000000) (w : World) (G : Fixed) (k o : Int) (t : List UInt8) (a : Option Addr) (n m : Nat) (ht : t.length ≤ 1000000) (hsh : c.short) (hrd : Rd w G 4 c.dat (.slice a n m)) :
    Calls Tryd.prog 26 #[.agg #[.int .i64 k, .string ⟨t.toArray⟩, .slice a n m, .int .i64 o]] w (Reads w (.bool (vnode k t c 40))) := by
  have HR := Lib.hid hrd
  clear hrd
  go_enter Tryd.func26, Tryd.ntmps26
  go_wp2_with fail
  refine (rvalid_any 1000000 (by omega) c hc _ G k o t a n m 40 0 rfl (by omega) ht hsh (HR.out.below ((Below.refl _ _).alloc (Nat.le_refl _) _))).mono ?_
  rintro e W ⟨rfl, hg⟩
  have HG := Lib.hid hg
  clear hg
  go_wp2_with fail
  go_ret
  exact ⟨rfl, (World.grownBy_alloc _ _ _).trans HG.out⟩
end Go.Proofs.YtnaabplppfikcaaDoor
