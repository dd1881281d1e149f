/- sexpr.valid, sexpr.Valid. -/
import Derived.Test.YtnaabplppfikcaaDoorFmt
import Derived.Test.YtnaabplppfikcaaDoorEvery
namespace Go.Proofs.YtnaabplppfikcaaDoor
open Go.RowKit

/-- The nodes of a row are valid and contain at most d nested lists. -/
def Fr.validF : Fr → Nat → Bool
  | .nil, _ => true
  | .cons k t c _ r, d =>
    (if k = 1 then decide (c.len = 0) && decide (0 < t.length) && decide (t.length ≤ 24) && allB wordB t
     else if k = 2 then decide (c.len = 0) && decide (t.length ≤ 2000) && allB stringB t
     else if k = 3 then decide (t = []) && decide (0 < d) && c.validF (d - 1) else false) && r.validF d
/-- One node is valid. -/
def vnode (k : Int) (t : List UInt8) (c : Fr) (d : Nat) : Bool :=
  if k = 1 then decide (c.len = 0) && decide (0 < t.length) && decide (t.length ≤ 24) && allB wordB t
  else if k = 2 then decide (c.len = 0) && decide (t.length ≤ 2000) && allB stringB t
  else if k = 3 then decide (t = []) && decide (0 < d) && c.validF (d - 1) else false
theorem validF_cons (k o : Int) (t : List UInt8) (c r : Fr) (d : Nat) : (Fr.cons k t c o r).validF d = (vnode k t c d && r.validF d) := rfl
theorem validF_app : ∀ (a b : Fr) (d : Nat), (a.app b).validF d = (a.validF d && b.validF d)
  | .nil, b, d => by simp [Fr.app, Fr.validF]
  | .cons k t c o r, b, d => by rw [Fr.app, validF_cons, validF_cons, validF_app r b d, Bool.and_assoc]
theorem validF_take {l : Fr} {i d : Nat} {k o : Int} {t : List UInt8} {c : Fr} (h : l.nth i = some (k, t, c, o)) : (l.take (i + 1)).validF d = ((l.take i).validF d && vnode k t c d) := by
  rw [Fr.take_succ h, validF_app, validF_cons]; simp [Fr.validF]
theorem validF_false : ∀ {l : Fr} {i d : Nat} {k o : Int} {t : List UInt8} {c : Fr}, l.nth i = some (k, t, c, o) → vnode k t c d = false → l.validF d = false
  | .cons k t c o r, 0, d, _, _, _, _, h, e => by
    simp only [Fr.nth, Option.some.injEq, Prod.mk.injEq] at h
    obtain ⟨rfl, rfl, rfl, rfl⟩ := h
    rw [validF_cons, e]; rfl
  | .cons k t c o r, i + 1, d, _, _, _, _, h, e => by
    rw [validF_cons, validF_false (show r.nth i = _ from h) e, Bool.and_false]

/-- The texts are of a size that strings have. -/
def Fr.short : Fr → Prop
  | .nil => True
  | .cons _ t c _ r => t.length ≤ 1000000 ∧ c.short ∧ r.short
theorem Fr.short_nth : ∀ {l : Fr} {i : Nat} {k o : Int} {t : List UInt8} {c : Fr}, l.short → l.nth i = some (k, t, c, o) → t.length ≤ 1000000 ∧ c.short
  | .cons k t c o r, 0, _, _, _, _, h, e => by
    simp only [Fr.nth, Option.some.injEq, Prod.mk.injEq] at e
    obtain ⟨rfl, rfl, rfl, rfl⟩ := e
    exact ⟨h.1, h.2.1⟩
  | .cons k t c o r, i + 1, _, _, _, _, h, e => Fr.short_nth h.2.2 (show r.nth i = _ from e)

theorem enter_word (args : Array Value) (w : World) : (callFunc 49 args).run Tryd.prog w = .ok (.enter 49 args) w := by kernel_rfl
theorem enter_string (args : Array Value) (w : World) : (callFunc 59 args).run Tryd.prog w = .ok (.enter 59 args) w := by kernel_rfl
theorem ba_nonempty {T : ByteArray} (h : bytes T ≠ []) : T.toList.isEmpty = false := by
  rw [Lib.toList_data]
  cases hb : T.data.toList with
  | nil => exact absurd hb h
  | cons => rfl

def ValidOk (c : Fr) : Prop := ∀ (w : World) (G : Fixed) (k o : Int) (t : List UInt8) (a : Option Addr) (n m d : Nat) (z : Int), z = d → d ≤ 1000 → t.length ≤ 1000000 → c.short → Rd w G 4 c.dat (.slice a n m) →
    Calls Tryd.prog 39 #[.agg #[.int .i64 k, .string ⟨t.toArray⟩, .slice a n m, .int .i64 o], .int .i64 z] w (Reads w (.bool (vnode k t c d)))

set_option maxRecDepth 100000 in
set_option maxHeartbeats 6400000 in
theorem valid_step (c : Fr) (hc : c.size ≤ 1000000) (IH : Hid (∀ x : Fr, x.size < c.size → ValidOk x)) : ValidOk c := by
  intro w G k o t a n m d z hz hd ht hsh hrd
  obtain ⟨hn, hnm, hm⟩ := hrd.form
  have HR := Lib.hid hrd
  have HN := Lib.hid hn
  have HSH := Lib.hid hsh
  have HZ := Lib.hid hz
  have hlen : n ≤ 1000000 := by have := Fr.len_le_size c; omega
  have hz1 : (0 : Int) ≤ z := by omega
  have hz2 : z ≤ 1000 := by omega
  obtain ⟨T, hT⟩ : ∃ T : ByteArray, ⟨t.toArray⟩ = T := ⟨_, rfl⟩
  have HTb : Hid (bytes T = t) := by rw [← hT]; exact bytes_mk _
  have hTs : T.size = t.length := by rw [← bytes_len, HTb.out]
  have hTS : T.size ≤ 1000000 := by omega
  rw [hT]
  clear hrd hn hm hsh hz hT
  by_cases h1 : k = 1
  · subst h1
    have e : vnode 1 t c d = (decide (n = 0) && decide (0 < T.size) && decide (T.size ≤ 24) && allB wordB t) := by rw [HN.out, hTs]; simp [vnode]
    rw [e]
    clear e
    by_cases hn0 : n = 0
    · have e0 : ((n : Int) == 0) = true := by simp [hn0]
      by_cases hp : 0 < T.size
      · have e1 : (0 : Int) < (T.size : Int) := by omega
        by_cases h24 : T.size ≤ 24
        · have e2 : (T.size : Int) ≤ 24 := by omega
          go_enter Tryd.func39, Tryd.ntmps39
          go_wp2_with fail
          refine (every_any T (by omega) _ wordB enter_word wordByte_any _).mono ?_
          rintro e w' ⟨rfl, rfl⟩
          go_wp2_with fail
          go_ret
          refine ⟨?_, World.grownBy_alloc _ _ _⟩
          rw [← HTb.out]
          show Ending.returned (Value.bool (allB wordB (bytes T))) = _
          rw [decide_eq_true hn0, decide_eq_true hp, decide_eq_true h24]
          rfl
        · have e2 : ¬ (T.size : Int) ≤ 24 := by omega
          go_enter Tryd.func39, Tryd.ntmps39
          go_wp2_with fail
          go_ret
          exact ⟨by have h24' : ¬ t.length ≤ 24 := (by omega); simp [h24'], World.grownBy_alloc _ _ _⟩
      · have e1 : ¬ (0 : Int) < (T.size : Int) := by omega
        go_enter Tryd.func39, Tryd.ntmps39
        go_wp2_with fail
        go_ret
        exact ⟨by simp, World.grownBy_alloc _ _ _⟩
    · have e0 : ((n : Int) == 0) = false := by simp [hn0]
      go_enter Tryd.func39, Tryd.ntmps39
      go_wp2_with fail
      go_ret
      exact ⟨by simp [hn0], World.grownBy_alloc _ _ _⟩
  by_cases h2 : k = 2
  · subst h2
    have e : vnode 2 t c d = (decide (n = 0) && decide (T.size ≤ 2000) && allB stringB t) := by rw [HN.out, hTs]; simp [vnode]
    rw [e]
    clear e h1
    by_cases hn0 : n = 0
    · have e0 : ((n : Int) == 0) = true := by simp [hn0]
      by_cases h24 : T.size ≤ 2000
      · have e2 : (T.size : Int) ≤ 2000 := by omega
        go_enter Tryd.func39, Tryd.ntmps39
        go_wp2_with fail
        refine (every_any T (by omega) _ stringB enter_string stringByte_any _).mono ?_
        rintro e w' ⟨rfl, rfl⟩
        go_wp2_with fail
        go_ret
        refine ⟨?_, World.grownBy_alloc _ _ _⟩
        rw [← HTb.out]
        show Ending.returned (Value.bool (allB stringB (bytes T))) = _
        rw [decide_eq_true hn0, decide_eq_true h24]
        rfl
      · have e2 : ¬ (T.size : Int) ≤ 2000 := by omega
        go_enter Tryd.func39, Tryd.ntmps39
        go_wp2_with fail
        go_ret
        exact ⟨by have h24' : ¬ t.length ≤ 2000 := (by omega); simp [h24'], World.grownBy_alloc _ _ _⟩
    · have e0 : ((n : Int) == 0) = false := by simp [hn0]
      go_enter Tryd.func39, Tryd.ntmps39
      go_wp2_with fail
      go_ret
      exact ⟨by simp [hn0], World.grownBy_alloc _ _ _⟩
  have g1 := beq_int_false h1
  have g2 := beq_int_false h2
  by_cases h3 : k = 3
  · subst h3
    have e : vnode 3 t c d = (decide (t = []) && decide (0 < d) && c.validF (d - 1)) := by simp [vnode]
    rw [e]
    clear e h1 h2 g1 g2
    by_cases ht0 : t = []
    · have hT0 : T = ⟨#[]⟩ := ba_of_bytes (by rw [HTb.out, ht0])
      subst hT0
      by_cases hd0 : d = 0
      · have e1 : (z == 0) = true := by rw [HZ.out, hd0]; rfl
        go_enter Tryd.func39, Tryd.ntmps39
        go_wp2_with fail
        go_ret
        exact ⟨by simp [hd0], World.grownBy_alloc _ _ _⟩
      · have e1 : (z == 0) = false := beq_int_false (by have := HZ.out; omega)
        have ef : (decide (t = []) && decide (0 < d) && c.validF (d - 1)) = c.validF (d - 1) := by simp [ht0]; omega
        rw [ef]
        have hw1 : IntKind.i64.wrap (z - 1) = z - 1 := wrap_i64 (by omega) (by omega)
        have HZ1 : Hid (z - 1 = ((d - 1 : Nat) : Int)) := by have := HZ.out; show _ = _; omega
        clear ef
        go_enter Tryd.func39, Tryd.ntmps39
        go_wp2_with fail
        obtain ⟨Y, hY⟩ : ∃ Y, w.alloc (.cells #[.int .i64 3, .string ⟨#[]⟩, .slice a n m, .int .i64 o] 39) = Y := ⟨_, rfl⟩
        have hYg : w.grownBy Y none := by rw [← hY]; exact World.grownBy_alloc _ _ _
        have HYg := Lib.hid hYg
        rw [hY]
        clear hYg hY
        go_loopg [61] n (fun kk v wr => ∃ i, kk = n - i ∧ i ≤ n ∧ v = .int .i64 (i : Nat) ∧ Y.grownBy wr none ∧ (c.take i).validF (d - 1) = true)
        case atStart => exact ⟨0, by omega, Nat.zero_le _, rfl, World.grownBy.refl _ _, by rw [Fr.take_zero]; rfl⟩
        case round =>
          obtain ⟨i, hk, hi, rfl, hg, hv⟩ := hrel
          rename World => U
          have B1 := Lib.hid hk
          have HG := Lib.hid hg
          have HV := Lib.hid hv
          clear hk hg hv
          by_cases hlt : i < n
          · have hi0 : (0 : Int) ≤ (i : Int) := by omega
            have hi1 : (i : Int) < (n : Int) := by omega
            have hwi : IntKind.i64.wrap ((i : Int) + 1) = (i : Int) + 1 := wrap_i64 (by omega) (by omega)
            obtain ⟨k2, t2, c2, o2, hnth, hsz⟩ := Fr.nth_lt (l := c) (i := i) (by have := HN.out; omega)
            have HT := Lib.hid hnth
            have HSz := Lib.hid hsz
            have HS2 := Lib.hid (Fr.short_nth HSH.out hnth)
            obtain ⟨xb, xo, xa, xn, xm, rfl, x0, x1, x2, x3, hx⟩ := (HR.out.grown (HYg.out.trans HG.out)).elem hnth
            have HX := Lib.hid hx
            obtain ⟨r, hr⟩ : ∃ r, vnode k2 t2 c2 (d - 1) = r := ⟨_, rfl⟩
            have HRr := Lib.hid hr
            clear hnth hsz hx hr
            go_wp2_with fail
            refine (IH.out c2 HSz.out _ G k2 o2 t2 xa xn xm (d - 1) _ HZ1.out (by omega) HS2.out.1 HS2.out.2 (HX.out.below ((Below.refl _ _).alloc (Nat.le_refl _) _))).mono ?_
            rintro e V ⟨rfl, hg⟩
            rw [HRr.out]
            have HGV := Lib.hid (HG.out.trans ((World.grownBy_alloc _ _ _).trans hg))
            clear hg
            cases r
            · go_wp2_with fail
              go_ret
              exact ⟨by rw [validF_false HT.out HRr.out]; rfl, HYg.out.trans HGV.out⟩
            · go_wp2_with fail
              go_roundg (n - (i + 1))
              case measure => have := B1.out; omega
              case rel => exact ⟨i + 1, rfl, by omega, by simp, HGV.out, by rw [validF_take HT.out, HV.out, HRr.out]; rfl⟩
          · have hin : i = n := by omega
            subst hin
            go_wp2_with fail
            go_ret
            refine ⟨?_, HYg.out.trans HG.out⟩
            have e1 : c.take i = c := by rw [HN.out]; exact Fr.take_len
            have hv := HV.out
            rw [e1] at hv
            rw [hv]
            rfl
    · have g0 : T.toList.isEmpty = false := ba_nonempty (by rw [HTb.out]; exact ht0)
      have gT : ¬ T = ⟨#[]⟩ := fun e => ht0 (by rw [← HTb.out, e]; rfl)
      go_enter Tryd.func39, Tryd.ntmps39
      go_wp2_with fail
      go_ret
      exact ⟨by simp [ht0], World.grownBy_alloc _ _ _⟩
  have g3 := beq_int_false h3
  have e : vnode k t c d = false := by simp [vnode, h1, h2, h3]
  rw [e]
  clear e h1 h2 h3
  go_enter Tryd.func39, Tryd.ntmps39
  go_wp2_with fail
  go_ret
  exact ⟨rfl, World.grownBy_alloc _ _ _⟩

theorem valid_any (N : Nat) (hN : N ≤ 1000000) : ∀ c : Fr, c.size ≤ N → ValidOk c := by
  induction N with
  | zero => exact fun c hc => valid_step c (by omega) (fun x h => by omega)
  | succ N ih => exact fun c hc => valid_step c (by omega) (fun x h => ih (by omega) x (by omega))

/-- sexpr.Valid. -/
theorem Valid_any (c : Fr) (hc : c.size ≤ 1000000) (w : World) (G : Fixed) (k o : Int) (t : List UInt8) (a : Option Addr) (n m : Nat) (ht : t.length ≤ 1000000) (hsh : c.short) (hrd : Rd w G 4 c.dat (.slice a n m)) :
    Calls Tryd.prog 25 #[.agg #[.int .i64 k, .string ⟨t.toArray⟩, .slice a n m, .int .i64 o]] w (Reads w (.bool (vnode k t c 40))) := by
  have HR := Lib.hid hrd
  clear hrd
  go_enter Tryd.func25, Tryd.ntmps25
  go_wp2_with fail
  refine (valid_any 1000000 (by omega) c hc _ G k o t a n m 40 40 rfl (by omega) ht hsh (HR.out.below ((Below.refl _ _).alloc (Nat.le_refl _) _))).mono ?_
  rintro e W ⟨rfl, hg⟩
  have HG := Lib.hid hg
  clear hg
  go_wp2_with fail
  go_ret
  exact ⟨rfl, (World.grownBy_alloc _ _ _).trans HG.out⟩
end Go.Proofs.YtnaabplppfikcaaDoor
