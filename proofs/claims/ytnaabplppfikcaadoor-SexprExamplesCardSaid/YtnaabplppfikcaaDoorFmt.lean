/- telref1.FormatNode. -/
import Derived.Test.YtnaabplppfikcaaDoorQuote
namespace Go.Proofs.YtnaabplppfikcaaDoor
open Go.RowKit

/-- The text of one node. -/
def ntxt (k : Int) (t : List UInt8) (c : Fr) : List UInt8 := if k = 1 then t else if k = 2 then quote t else 40 :: (c.join true ++ [41])
theorem join_one (k o : Int) (t : List UInt8) (c : Fr) : (Fr.cons k t c o .nil).join true = ntxt k t c := by simp [Fr.join, ntxt]
theorem join_app : ∀ (a b : Fr) (f : Bool), (a.app b).join f = a.join f ++ b.join (if a.len = 0 then f else false)
  | .nil, b, f => by simp [Fr.app, Fr.join, Fr.len]
  | .cons k t c o r, b, f => by
    simp [Fr.app, Fr.join, join_app r b false, Fr.len, List.append_assoc]
theorem join_take {l : Fr} {i : Nat} {k o : Int} {t : List UInt8} {c : Fr} (h : l.nth i = some (k, t, c, o)) (hi : i ≤ l.len) : (l.take (i + 1)).join true = (l.take i).join true ++ ((if i = 0 then [] else [32]) ++ ntxt k t c) := by
  rw [Fr.take_succ h, join_app, Fr.len_take hi]
  congr 1
  by_cases h0 : i = 0
  · subst h0; simp [Fr.join, ntxt]
  · simp [h0, Fr.join, ntxt]

theorem join_take_le : ∀ (l : Fr) (i : Nat) (b : Bool), ((l.take i).join b).length ≤ (l.join b).length
  | .nil, _, _ => Nat.le_refl _
  | .cons _ _ _ _ _, 0, _ => Nat.zero_le _
  | .cons k t c o r, i + 1, b => by
    have := join_take_le r i false
    simp only [Fr.take, Fr.join, List.length_append]
    omega
theorem esc_ge (t : List UInt8) : t.length ≤ (esc t).length := by
  induction t with
  | nil => simp [esc]
  | cons c t ih => simp only [esc]; split <;> simp <;> omega

theorem ba_of_bytes {x : ByteArray} {l : List UInt8} (h : bytes x = l) : x = ⟨l.toArray⟩ := by
  rw [← h]; simp [bytes]
theorem bytes_app (a b : ByteArray) : bytes (a ++ b) = bytes a ++ bytes b := by simp [bytes, ByteArray.data_append]
theorem bytes_mk (l : List UInt8) : bytes ⟨l.toArray⟩ = l := by simp [bytes]
theorem grown_of_below {w w' : World} (h : Below w.heap.size w w') : w.grownBy w' none := ⟨h.os, h.tape, h.output, h.size, fun i hi _ => h.block i hi⟩

def FmtOk (c : Fr) : Prop := ∀ (w : World) (G : Fixed) (k o : Int) (t : List UInt8) (a : Option Addr) (n m : Nat), (ntxt k t c).length ≤ 1000000 → Rd w G 4 c.dat (.slice a n m) →
    Calls Tryd.prog 10 #[.agg #[.int .i64 k, .string ⟨t.toArray⟩, .slice a n m, .int .i64 o]] w (Reads w (.string ⟨(ntxt k t c).toArray⟩))

set_option maxRecDepth 100000 in
set_option maxHeartbeats 3200000 in
theorem fmt_step (c : Fr) (hc : c.size ≤ 1000000) (IH : Hid (∀ d : Fr, d.size < c.size → FmtOk d)) : FmtOk c := by
  intro w G k o t a n m ht hrd
  obtain ⟨hn, hnm, hm⟩ := hrd.form
  have HR := Lib.hid hrd
  have HN := Lib.hid hn
  have hlen : n ≤ 1000000 := by have := Fr.len_le_size c; omega
  clear hrd hn hm
  by_cases h1 : k = 1
  · subst h1
    have e : ntxt 1 t c = t := by simp [ntxt]
    rw [e]
    go_enter Tryd.func10, Tryd.ntmps10
    go_wp2_with fail
    go_ret
    exact ⟨rfl, World.grownBy_alloc _ _ _⟩
  by_cases h2 : k = 2
  · subst h2
    have e : ntxt 2 t c = quote t := by simp [ntxt]
    rw [e] at ht ⊢
    have ht' : t.length ≤ 1000000 := by have := esc_ge t; simp only [quote, List.length_cons, List.length_append, List.length_nil] at ht; omega
    clear ht
    go_enter Tryd.func10, Tryd.ntmps10
    go_wp2_with fail
    refine (quote_any ⟨t.toArray⟩ _ (by show t.toArray.size ≤ _; simpa using ht')).mono ?_
    rintro e W ⟨rfl, hb⟩
    have HB := Lib.hid hb
    clear hb
    rw [bytes_mk]
    go_wp2_with fail
    go_ret
    exact ⟨rfl, (World.grownBy_alloc _ _ _).trans (grown_of_below HB.out)⟩
  have e : ntxt k t c = 40 :: (c.join true ++ [41]) := by simp [ntxt, h1, h2]
  rw [e] at ht ⊢
  have HLn : Hid ((c.join true).length ≤ 1000000) := by simp only [List.length_cons, List.length_append, List.length_nil] at ht; show _ ≤ _; omega
  have hl2 : (c.join true).length + 2 ≤ 1000000 := by simpa using ht
  clear ht
  have g1 := beq_int_false h1
  have g2 := beq_int_false h2
  clear h1 h2 e
  go_enter Tryd.func10, Tryd.ntmps10
  go_wp2_with fail
  obtain ⟨Y, hY⟩ : ∃ Y, w.alloc (.cells #[.int .i64 k, .string ⟨t.toArray⟩, .slice a n m, .int .i64 o] 26) = Y := ⟨_, rfl⟩
  have hYg : w.grownBy Y none := by rw [← hY]; exact World.grownBy_alloc _ _ _
  have hY1 : Y.cell? ⟨w.heap.size, 2, none⟩ = some (.slice a n m) := by rw [← hY]; exact row_c2 (heap_alloc_new w _)
  have HYg := Lib.hid hYg
  have HY1 := Lib.hid hY1
  rw [hY]
  obtain ⟨bo, hbo⟩ : ∃ r, w.heap.size = r := ⟨_, rfl⟩
  rw [hbo] at HY1 ⊢
  clear hYg hY1 hY hbo
  go_loopg [3, 4] n (fun kk v3 v4 wr => ∃ i S, kk = n - i ∧ i ≤ n ∧ v3 = .string S ∧ v4 = .int .i64 (i : Nat) ∧ bytes S = 40 :: (c.take i).join true ∧ Y.grownBy wr none)
  case atStart => exact ⟨0, ⟨#[40]⟩, by omega, Nat.zero_le _, rfl, rfl, by rw [Fr.take_zero]; rfl, World.grownBy.refl _ _⟩
  case round =>
    obtain ⟨i, S, hk, hi, rfl, rfl, hS, hg⟩ := hrel
    rename World => U
    have B1 := Lib.hid hk
    have HG := Lib.hid hg
    have HS := Lib.hid hS
    have z1 := HG.out.cell HY1.out (by simp)
    have hS1 : S.size ≤ 1000000 := by rw [← bytes_len, hS]; have := join_take_le c i true; simp only [List.length_cons]; omega
    clear hk hg hS
    by_cases hlt : i < n
    · have hi0 : (0 : Int) ≤ (i : Int) := by omega
      have hi1 : (i : Int) < (n : Int) := by omega
      have hwi : IntKind.i64.wrap ((i : Int) + 1) = (i : Int) + 1 := wrap_i64 (by omega) (by omega)
      obtain ⟨k2, t2, c2, o2, hnth, hsz⟩ := Fr.nth_lt (l := c) (i := i) (by have := HN.out; omega)
      have HT := Lib.hid hnth
      have HSz := Lib.hid hsz
      have hjn := join_take hnth (by have := HN.out; omega)
      have hjl := join_take_le c (i + 1) true
      rw [hjn] at hjl
      have HS2 : Hid ((ntxt k2 t2 c2).length ≤ 1000000) := by simp only [List.length_append] at hjl; show _ ≤ _; omega
      clear hjn hjl
      obtain ⟨xb, xo, xa, xn, xm, rfl, x0, x1, x2, x3, hx⟩ := (HR.out.grown (HYg.out.trans HG.out)).elem hnth
      have HX := Lib.hid hx
      clear hnth hsz hx
      by_cases hz : i = 0
      · subst hz
        simp only [Nat.zero_mul, Nat.add_zero] at x0 x1 x2 x3
        go_wp2_with fail
        refine (IH.out c2 HSz.out _ G k2 o2 t2 xa xn xm HS2.out HX.out).mono ?_
        rintro e V ⟨rfl, hg⟩
        have HV := Lib.hid (HG.out.trans hg)
        obtain ⟨T, hT⟩ : ∃ T : ByteArray, ⟨(ntxt k2 t2 c2).toArray⟩ = T := ⟨_, rfl⟩
        have HTb : Hid (bytes T = ntxt k2 t2 c2) := by rw [← hT]; exact bytes_mk _
        have hT1 : T.size ≤ 1000000 := by rw [← bytes_len, HTb.out]; exact HS2.out
        rw [hT]
        clear hg hT
        go_wp2_with fail
        go_roundg (n - (0 + 1))
        case measure => have := B1.out; omega
        case rel => exact ⟨0 + 1, _, rfl, by omega, rfl, by simp, by rw [bytes_app, HTb.out, HS.out, join_take HT.out (Nat.zero_le _)]; simp, HV.out⟩
      · have hz1 : (0 : Int) < (i : Int) := by omega
        have hz2 : 0 < i := by omega
        have hS2 : (S ++ (⟨#[32]⟩ : ByteArray)).size ≤ 1000001 := by rw [← bytes_len, bytes_app]; simp only [List.length_append, bytes_len]; show _ + 1 ≤ _; omega
        go_wp2_with fail
        refine (IH.out c2 HSz.out _ G k2 o2 t2 xa xn xm HS2.out HX.out).mono ?_
        rintro e V ⟨rfl, hg⟩
        have HV := Lib.hid (HG.out.trans hg)
        obtain ⟨T, hT⟩ : ∃ T : ByteArray, ⟨(ntxt k2 t2 c2).toArray⟩ = T := ⟨_, rfl⟩
        have HTb : Hid (bytes T = ntxt k2 t2 c2) := by rw [← hT]; exact bytes_mk _
        have hT1 : T.size ≤ 1000000 := by rw [← bytes_len, HTb.out]; exact HS2.out
        rw [hT]
        clear hg hT
        go_wp2_with fail
        go_roundg (n - (i + 1))
        case measure => have := B1.out; omega
        case rel => exact ⟨i + 1, _, rfl, by omega, rfl, by simp, by rw [bytes_app, bytes_app, HTb.out, HS.out, join_take HT.out (by have := HN.out; omega), if_neg hz]; simp [bytes], HV.out⟩
    · have hin : i = n := by omega
      subst hin
      go_wp2_with fail
      go_ret
      refine ⟨?_, HYg.out.trans HG.out⟩
      show Ending.returned (Value.string (S ++ (⟨#[41]⟩ : ByteArray))) = _
      rw [ba_of_bytes (x := S ++ (⟨#[41]⟩ : ByteArray)) (l := 40 :: (c.join true ++ [41])) ?_]
      rw [bytes_app, HS.out, HN.out, Fr.take_len]
      rfl

theorem fmt_any (N : Nat) (hN : N ≤ 1000000) : ∀ c : Fr, c.size ≤ N → FmtOk c := by
  induction N with
  | zero => exact fun c hc => fmt_step c (by omega) (fun d h => by omega)
  | succ N ih => exact fun c hc => fmt_step c (by omega) (fun d h => ih (by omega) d (by omega))
end Go.Proofs.YtnaabplppfikcaaDoor
