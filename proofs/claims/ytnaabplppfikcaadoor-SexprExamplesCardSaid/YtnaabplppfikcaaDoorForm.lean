/- sexpr.format. -/
import Derived.Test.YtnaabplppfikcaaDoorBuild
import Derived.Test.YtnaabplppfikcaaDoorValid
namespace Go.Proofs.YtnaabplppfikcaaDoor
open Go.RowKit

abbrev IsB (B b : Nat) (l : List UInt8) (w : World) : Prop := Lib.IsBuilder 71 5 B b (l.map byteV) w
theorem isB_alloc {B b : Nat} {l : List UInt8} {w : World} (h : IsB B b l w) (o : Obj) : IsB B b l (w.alloc o) := by
  rcases h with ⟨h1, v, h2, h3, h4⟩ | ⟨h1, v, h2, h3, h4⟩
  · exact .inl ⟨h1, v, (Below.heap_alloc _ _ _ (Array.getElem?_eq_some_iff.1 h2).1).trans h2, h3.alloc _, h4⟩
  · exact .inr ⟨h1, v, (Below.heap_alloc _ _ _ (Array.getElem?_eq_some_iff.1 h2).1).trans h2, h3.alloc _, h4⟩
theorem isB_lt {B b : Nat} {l : List UInt8} {w : World} (h : IsB B b l w) : b < w.heap.size := by
  rcases h with ⟨_, v, h2, _⟩ | ⟨_, v, h2, _⟩ <;> exact (Array.getElem?_eq_some_iff.1 h2).1

/-- What the builder holds afterwards, and what is as it was. -/
structure BDone (B b : Nat) (l : List UInt8) (w w' : World) : Prop where
  is : IsB B b l w'
  below : Below B w w'
  kept : Kept b w w'
theorem BDone.trans {B b : Nat} {l l' : List UInt8} {w w' w'' : World} (h : BDone B b l w w') (k : BDone B b l' w' w'') : BDone B b l' w w'' := ⟨k.is, h.below.trans k.below, h.kept.trans k.kept⟩
theorem BDone.alloc {B b : Nat} {l : List UInt8} {w w' : World} (h : BDone B b l w w') (hB : B ≤ w.heap.size) (o : Obj) : BDone B b l w (w'.alloc o) := ⟨isB_alloc h.is o, h.below.alloc (by have := h.below.size; omega) o, h.kept.trans (Kept.alloc _ _ _)⟩
theorem BDone.refl {B b : Nat} {l : List UInt8} {w : World} (h : IsB B b l w) : BDone B b l w w := ⟨h, Below.refl _ _, Kept.refl _ _⟩
theorem BDone.size {B b : Nat} {l : List UInt8} {w w' : World} (h : BDone B b l w w') : w.heap.size ≤ w'.heap.size := h.kept.1
theorem BDone.row {B b x : Nat} {l : List UInt8} {w w' : World} {cs : Array Value} {T : TypeId} {fr : Nat × Nat} (h : BDone B b l w w') (hx : x ≠ b) (hT : T ≠ 5) (hr : w.heap[x]? = some (.cells cs T fr)) : w'.heap[x]? = some (.cells cs T fr) := h.kept.2 x cs T fr hx hT hr

theorem wbyte {B b : Nat} {l : List UInt8} {w : World} (c : UInt8) {z : Int} (hz : z = (c.toNat : Int)) (h : IsB B b l w) (hl : l.length ≤ 1000000) (hB : B ≤ w.heap.size) :
    Calls Tryd.prog 58 #[.pointer (some ⟨b, 0, none⟩), .int .u8 z] w fun e w' => e = .returned .nilIface ∧ BDone B b (l ++ [c]) w w' :=
  (writeByte_any B b l c z hz w h hl hB).mono fun _ _ ⟨h1, h2, h3, h4⟩ => ⟨h1, h2, h3, h4⟩

def FormOk (c : Fr) : Prop := ∀ (d : Nat) (w : World) (G : Fixed) (k o : Int) (t : List UInt8) (a : Option Addr) (n m B b : Nat) (l : List UInt8), vnode k t c d = true → (l ++ ntxt k t c).length ≤ 1000000 → IsB B b l w → B ≤ w.heap.size → (∀ x j, G x j → x < B) → Rd w G 4 c.dat (.slice a n m) →
    Calls Tryd.prog 37 #[.pointer (some ⟨b, 0, none⟩), .agg #[.int .i64 k, .string ⟨t.toArray⟩, .slice a n m, .int .i64 o]] w fun e w' => e = .returned (.tuple #[]) ∧ BDone B b (l ++ ntxt k t c) w w'

theorem esc_take {T : ByteArray} {t : List UInt8} {i : Nat} (h : bytes T = t) (hi : i < T.size) : esc (t.take (i + 1)) = esc (t.take i) ++ esc [T[i]] := by
  rw [← h, List.take_add_one, List.getElem?_eq_getElem (by rw [bytes_len]; exact hi), bytes_get T i hi, esc_append]
  rfl
theorem esc_take_le (t : List UInt8) (i : Nat) : (esc (t.take i)).length ≤ (esc t).length := by
  have h := esc_append (t.take i) (t.drop i)
  rw [List.take_append_drop] at h
  rw [h, List.length_append]
  omega
theorem Rd.belowB {w w' : World} {G : Fixed} {size B : Nat} {dt : Dat} {v : Value} (h : Rd w G size dt v) (hb : Below B w w') (hG : ∀ x j, G x j → x < B) : Rd w' G size dt v :=
  h.mono (fun b j hf => World.cell?_of_block (hb.block b (hG b j hf))) (fun _ _ h => h)

set_option maxRecDepth 100000 in
set_option maxHeartbeats 6400000 in
theorem form_step (c : Fr) (hc : c.size ≤ 1000000) (IH : Hid (∀ x : Fr, x.size < c.size → FormOk x)) : FormOk c := by
  intro d w G k o t a n m B b l hv hlen hb hB hG hrd
  obtain ⟨hn, hnm, hm⟩ := hrd.form
  have HR := Lib.hid hrd
  have HN := Lib.hid hn
  have HB := Lib.hid hb
  have HG := Lib.hid hG
  have HV := Lib.hid hv
  have HLn := Lib.hid hlen
  have hn1 : n ≤ 1000000 := by have := Fr.len_le_size c; omega
  have hblt := isB_lt hb
  obtain ⟨T, hT⟩ : ∃ T : ByteArray, ⟨t.toArray⟩ = T := ⟨_, rfl⟩
  have HTb : Hid (bytes T = t) := by rw [← hT]; exact bytes_mk _
  rw [hT]
  have HBl := Lib.hid hblt
  clear hrd hn hm hb hG hv hlen hT hblt
  by_cases h1 : k = 1
  · subst h1
    have e : ntxt 1 t c = t := by simp [ntxt]
    rw [e] at HLn ⊢
    clear e
    go_enter Tryd.func37, Tryd.ntmps37
    go_wp2_with fail
    refine (writeString_any B b l T _ (isB_alloc HB.out _) (by have := HLn.out; simp at this; omega) (by have := HLn.out; rw [← bytes_len, HTb.out]; simp at this; omega) (by simp; omega)).mono ?_
    rintro e W ⟨⟨v, rfl⟩, hw1, hw2, hw3⟩
    have HD : Hid (BDone B b (l ++ t) w W) := ⟨HTb.out ▸ hw1, ((Below.refl B w).alloc hB _).trans hw2, (Kept.alloc _ _ _).trans hw3⟩
    clear hw1 hw2 hw3
    go_wp2_with fail
    go_end0
    exact ⟨rfl, HD.out⟩
  have g1 := beq_int_false h1
  by_cases h2 : k = 2
  · subst h2
    have e : ntxt 2 t c = 34 :: (esc t ++ [34]) := by simp [ntxt, quote]
    rw [e] at HLn ⊢
    have HL2 : Hid (l.length + (esc t).length + 2 ≤ 1000000) := by have := HLn.out; simp at this; show _ ≤ _; omega
    have hTs : T.size ≤ 1000000 := by rw [← bytes_len, HTb.out]; have := esc_ge t; have := HL2.out; omega
    clear e h1 g1 HLn
    go_enter Tryd.func37, Tryd.ntmps37
    go_wp2_with fail
    refine (wbyte 34 rfl (isB_alloc HB.out _) (by have := HL2.out; omega) (by simp; omega)).mono ?_
    rintro e W ⟨rfl, hW⟩
    have hrow := hW.row (x := w.heap.size) (by have := HBl.out; omega) (by decide) (heap_alloc_new w _)
    have HD0 : Hid (BDone B b (l ++ [34]) w W) := ((BDone.refl HB.out).alloc hB _).trans hW
    obtain ⟨bo, hbo⟩ : ∃ x, w.heap.size = x := ⟨_, rfl⟩
    rw [hbo] at hrow ⊢
    have HBO : Hid (bo ≠ b) := by have := HBl.out; show _ ≠ _; omega
    have HRow0 := Lib.hid hrow
    clear hW hrow hbo
    go_wp2_with fail
    go_loopg [4] T.size (fun kk v wr => ∃ i, kk = T.size - i ∧ i ≤ T.size ∧ v = .int .i64 (i : Nat) ∧ BDone B b (l ++ 34 :: esc (t.take i)) w wr ∧ wr.heap[bo]? = some (.cells #[.int .i64 2, .string T, .slice a n m, .int .i64 o] 39 (0, 0)))
    case atStart => exact ⟨0, by omega, Nat.zero_le _, rfl, by simpa [esc] using HD0.out, HRow0.out⟩
    case round =>
      obtain ⟨i, hk, hi, rfl, hD, hrow⟩ := hrel
      rename World => U
      have B1 := Lib.hid hk
      have HD := Lib.hid hD
      have HRow := Lib.hid hrow
      have z1 := row_c1 hrow
      clear hk hD hrow HD0 HRow0
      have i0 : (0 : Int) ≤ (i : Int) := by omega
      by_cases hlt : i < T.size
      · have i1 : (i : Int) < (T.size : Int) := by omega
        have HLe : Hid ((esc (t.take i)).length + (esc [T[i]]).length ≤ (esc t).length) := by
          have h1 := esc_take HTb.out hlt
          have h2 := esc_take_le t (i + 1)
          rw [h1, List.length_append] at h2
          exact h2
        by_cases h34 : (T[i].toNat : Int) = 34
        · have q34 := beq_int_true h34
          have hsp : T[i] = 34 ∨ T[i] = 92 := .inl ((byte_eq (n := 34) (by omega)).1 h34)
          rw [esc_two hsp] at HLe
          simp only [List.length_cons, List.length_nil] at HLe
          clear h34
          go_wp2_with fail
          refine (wbyte 92 rfl HD.out.is (by have := HLe.out; have := HL2.out; simp only [List.length_append, List.length_cons]; omega) (by have := HD.out.size; omega)).mono ?_
          rintro e V1 ⟨rfl, hV1⟩
          have hr1 := hV1.row (x := bo) HBO.out (by decide) HRow.out
          have y1 := row_c1 hr1
          have HRow1 := Lib.hid hr1
          have HD1 := Lib.hid (HD.out.trans hV1)
          clear hV1 hr1 z1
          go_wp2_with fail
          refine (wbyte T[i] rfl HD1.out.is (by have := HLe.out; have := HL2.out; simp only [List.length_append, List.length_cons, List.length_nil]; omega) (by have := HD1.out.size; omega)).mono ?_
          rintro e V ⟨rfl, hV⟩
          have hr2 := hV.row (x := bo) HBO.out (by decide) HRow1.out
          have HRow2 := Lib.hid hr2
          have HDV := Lib.hid (HD1.out.trans hV)
          clear hV hr2
          go_wp2_with fail
          go_roundg (T.size - (i + 1))
          case measure => have := B1.out; omega
          case rel => exact ⟨i + 1, rfl, by omega, by simp, by rw [esc_take HTb.out hlt, esc_two hsp]; simpa using HDV.out, HRow2.out⟩

        · have q34 := beq_int_false h34
          by_cases h92 : (T[i].toNat : Int) = 92
          · have q92 := beq_int_true h92
            have hsp : T[i] = 34 ∨ T[i] = 92 := .inr ((byte_eq (n := 92) (by omega)).1 h92)
            rw [esc_two hsp] at HLe
            simp only [List.length_cons, List.length_nil] at HLe
            clear h34 h92
            go_wp2_with fail
            refine (wbyte 92 rfl HD.out.is (by have := HLe.out; have := HL2.out; simp only [List.length_append, List.length_cons]; omega) (by have := HD.out.size; omega)).mono ?_
            rintro e V1 ⟨rfl, hV1⟩
            have hr1 := hV1.row (x := bo) HBO.out (by decide) HRow.out
            have y1 := row_c1 hr1
            have HRow1 := Lib.hid hr1
            have HD1 := Lib.hid (HD.out.trans hV1)
            clear hV1 hr1 z1
            go_wp2_with fail
            refine (wbyte T[i] rfl HD1.out.is (by have := HLe.out; have := HL2.out; simp only [List.length_append, List.length_cons, List.length_nil]; omega) (by have := HD1.out.size; omega)).mono ?_
            rintro e V ⟨rfl, hV⟩
            have hr2 := hV.row (x := bo) HBO.out (by decide) HRow1.out
            have HRow2 := Lib.hid hr2
            have HDV := Lib.hid (HD1.out.trans hV)
            clear hV hr2
            go_wp2_with fail
            go_roundg (T.size - (i + 1))
            case measure => have := B1.out; omega
            case rel => exact ⟨i + 1, rfl, by omega, by simp, by rw [esc_take HTb.out hlt, esc_two hsp]; simpa using HDV.out, HRow2.out⟩

          · have q92 := beq_int_false h92
            have hne : ¬ (T[i] = 34 ∨ T[i] = 92) := fun h => by
              rcases h with h | h
              · exact h34 ((byte_eq (n := 34) (by omega)).2 h)
              · exact h92 ((byte_eq (n := 92) (by omega)).2 h)
            rw [esc_one hne] at HLe
            simp only [List.length_cons, List.length_nil] at HLe
            clear h34 h92
            go_wp2_with fail
            refine (wbyte T[i] rfl HD.out.is (by have := HLe.out; have := HL2.out; simp only [List.length_append, List.length_cons]; omega) (by have := HD.out.size; omega)).mono ?_
            rintro e V ⟨rfl, hV⟩
            have hr2 := hV.row (x := bo) HBO.out (by decide) HRow.out
            have HRow2 := Lib.hid hr2
            have HDV := Lib.hid (HD.out.trans hV)
            clear hV hr2
            go_wp2_with fail
            go_roundg (T.size - (i + 1))
            case measure => have := B1.out; omega
            case rel => exact ⟨i + 1, rfl, by omega, by simp, by rw [esc_take HTb.out hlt, esc_one hne]; simpa using HDV.out, HRow2.out⟩

      · have hin : i = T.size := by omega
        subst hin
        have e1 : t.take T.size = t := by rw [← bytes_len, HTb.out, List.take_length]
        rw [e1] at HD
        go_wp2_with fail
        refine (wbyte 34 rfl HD.out.is (by have h3 := HL2.out; simp; omega) (by have := HD.out.size; omega)).mono ?_
        rintro e V ⟨rfl, hV⟩
        have HDV := Lib.hid (HD.out.trans hV)
        clear hV
        go_wp2_with fail
        go_end0
        exact ⟨rfl, by simpa using HDV.out⟩
  have g2 := beq_int_false h2
  obtain ⟨h3, ht0, hd0, hvc⟩ : k = 3 ∧ t = [] ∧ 0 < d ∧ c.validF (d - 1) = true := by
    have hv := HV.out
    simp only [vnode, if_neg h1, if_neg h2] at hv
    by_cases h3 : k = 3
    · rw [if_pos h3] at hv
      simp only [Bool.and_eq_true, decide_eq_true_eq] at hv
      exact ⟨h3, hv.1.1, hv.1.2, hv.2⟩
    · rw [if_neg h3] at hv; cases hv
  subst h3
  have HVc := Lib.hid hvc
  have e : ntxt 3 t c = 40 :: (c.join true ++ [41]) := by simp [ntxt]
  rw [e] at HLn ⊢
  have HL2 : Hid (l.length + (c.join true).length + 2 ≤ 1000000) := by have := HLn.out; simp at this; show _ ≤ _; omega
  clear e h1 h2 g1 g2 hvc HLn
  go_enter Tryd.func37, Tryd.ntmps37
  go_wp2_with fail
  refine (wbyte 40 rfl (isB_alloc HB.out _) (by have := HL2.out; omega) (by simp; omega)).mono ?_
  rintro e W ⟨rfl, hW⟩
  have hrow := hW.row (x := w.heap.size) (by have := HBl.out; omega) (by decide) (heap_alloc_new w _)
  have y2 := row_c2 hrow
  have HD0 : Hid (BDone B b (l ++ [40]) w W) := ((BDone.refl HB.out).alloc hB _).trans hW
  clear hW hrow
  go_wp2_with fail
  go_loopg [54] n (fun kk v wr => ∃ i, kk = n - i ∧ i ≤ n ∧ v = .int .i64 (i : Nat) ∧ BDone B b (l ++ 40 :: (c.take i).join true) w wr)
  case atStart => exact ⟨0, by omega, Nat.zero_le _, rfl, by rw [Fr.take_zero]; exact HD0.out⟩
  case round =>
    obtain ⟨i, hk, hi, rfl, hD⟩ := hrel
    rename World => U
    have B1 := Lib.hid hk
    have HD := Lib.hid hD
    clear hk hD HD0 y2
    by_cases hlt : i < n
    · have hi0 : (0 : Int) ≤ (i : Int) := by omega
      have hi1 : (i : Int) < (n : Int) := by omega
      have hwi : IntKind.i64.wrap ((i : Int) + 1) = (i : Int) + 1 := wrap_i64 (by omega) (by omega)
      obtain ⟨k2, t2, c2, o2, hnth, hsz⟩ := Fr.nth_lt (l := c) (i := i) (by have := HN.out; omega)
      have HT := Lib.hid hnth
      have HSz := Lib.hid hsz
      have HJ := Lib.hid (join_take hnth (by have := HN.out; omega))
      have HJl := Lib.hid (join_take_le c (i + 1) true)
      have HVn : Hid (vnode k2 t2 c2 (d - 1) = true) := by
        cases hq : vnode k2 t2 c2 (d - 1) with
        | true => exact rfl
        | false => have := validF_false hnth hq; rw [HVc.out] at this; cases this
      obtain ⟨xb, xo, xa, xn, xm, rfl, x0, x1, x2, x3, hx⟩ := (HR.out.belowB HD.out.below HG.out).elem hnth
      have HX := Lib.hid hx
      have hUB : B ≤ U.heap.size := by have := HD.out.size; omega
      have hbU : b < U.heap.size := isB_lt HD.out.is
      clear hnth hsz hx
      by_cases hz : i = 0
      · subst hz
        simp only [Nat.zero_mul, Nat.add_zero] at x0 x1 x2 x3
        go_wp2_with fail
        refine (IH.out c2 HSz.out (d - 1) _ G k2 o2 t2 xa xn xm B b _ HVn.out ?_ (isB_alloc HD.out.is _) (by simp; omega) HG.out (HX.out.belowB ((Below.refl B U).alloc hUB _) HG.out)).mono ?_
        · have h1 := HJ.out; have h2 := HJl.out; have h3 := HL2.out; rw [h1] at h2; simp only [List.length_append, List.length_cons] at h2 ⊢; omega
        rintro e V ⟨rfl, hV⟩
        have HDV := Lib.hid ((HD.out.alloc hB _).trans hV)
        clear hV
        go_wp2_with fail
        go_roundg (n - (0 + 1))
        case measure => have := B1.out; omega
        case rel => exact ⟨0 + 1, rfl, by omega, by simp, by rw [HJ.out]; simpa using HDV.out⟩
      · have hz1 : (0 : Int) < (i : Int) := by omega
        have hz2 : 0 < i := by omega
        go_wp2_with fail
        refine (wbyte 32 rfl (isB_alloc HD.out.is _) (by have h1 := HJ.out; have h2 := HJl.out; have h3 := HL2.out; rw [h1] at h2; simp only [List.length_append, List.length_cons] at h2 ⊢; omega) (by simp; omega)).mono ?_
        rintro e V1 ⟨rfl, hV1⟩
        have hr7 := hV1.row (x := U.heap.size) (by omega) (by decide) (heap_alloc_new U _)
        have q0 := row_c0 hr7
        have q1 := row_c1 hr7
        have q2 := row_c2 hr7
        have q3 := row_c3 hr7
        have HD1 := Lib.hid ((HD.out.alloc hB _).trans hV1)
        have HX1 := Lib.hid ((HX.out.belowB ((Below.refl B U).alloc hUB _) HG.out).belowB hV1.below HG.out)
        clear hV1 hr7
        go_wp2_with fail
        refine (IH.out c2 HSz.out (d - 1) _ G k2 o2 t2 xa xn xm B b _ HVn.out ?_ HD1.out.is (by have := HD1.out.size; omega) HG.out HX1.out).mono ?_
        · have h1 := HJ.out; have h2 := HJl.out; have h3 := HL2.out; rw [h1, if_neg hz] at h2; simp only [List.length_append, List.length_cons, List.length_nil] at h2 ⊢; omega
        rintro e V ⟨rfl, hV⟩
        have HDV := Lib.hid (HD1.out.trans hV)
        clear hV
        go_wp2_with fail
        go_roundg (n - (i + 1))
        case measure => have := B1.out; omega
        case rel => exact ⟨i + 1, rfl, by omega, by simp, by rw [HJ.out, if_neg hz]; simpa using HDV.out⟩
    · have hin : i = n := by omega
      subst hin
      have e1 : c.take i = c := by rw [HN.out]; exact Fr.take_len
      rw [e1] at HD
      go_wp2_with fail
      refine (wbyte 41 rfl HD.out.is (by have h3 := HL2.out; simp; omega) (by have := HD.out.size; omega)).mono ?_
      rintro e V ⟨rfl, hV⟩
      have HDV := Lib.hid (HD.out.trans hV)
      clear hV
      go_wp2_with fail
      go_end0
      exact ⟨rfl, by simpa using HDV.out⟩

theorem form_any (N : Nat) (hN : N ≤ 1000000) : ∀ c : Fr, c.size ≤ N → FormOk c := by
  induction N with
  | zero => exact fun c hc => form_step c (by omega) (fun x h => by omega)
  | succ N ih => exact fun c hc => form_step c (by omega) (fun x h => ih (by omega) x (by omega))
end Go.Proofs.YtnaabplppfikcaaDoor
