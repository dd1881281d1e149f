/- The walk of SexprValid. -/
import Derived.Test.YtnaabplppfikcaaDoorFormat
import Derived.Test.YtnaabplppfikcaaDoorRValid
import Derived.Test.YtnaabplppfikcaaDoorLawRt
namespace Go.Proofs.YtnaabplppfikcaaDoor
open Go.RowKit

/-- Texts of generated nodes, the bad ones too, are short. -/
theorem join_long : ∀ (l : Fr) (d : Nat) (b : Bool) {bad : Bool}, Gen bad l d → (l.join b).length ≤ l.len * (long d + 1)
  | .nil, _, _, _, _ => Nat.zero_le _
  | .cons k t c o r, d, b, bad, h => by
    have hr := join_long r d false h.2
    have hl := long_ge d
    have hn : (ntxt k t c).length ≤ long d := by
      unfold ntxt
      rcases h.1 with ⟨rfl, ⟨i, hi, rfl⟩, rfl, _⟩ | ⟨rfl, ⟨i, hi, rfl⟩, rfl, _⟩ | ⟨h0, rfl, rfl, _, h4, hg⟩ | ⟨_, _, _, ⟨i, hi, rfl⟩, _, j, hj, rfl⟩ | ⟨_, rfl, ⟨i, hi, rfl⟩, rfl⟩
      · have := (wordT_ok i hi).2.2; simp only [if_true]; omega
      · have := (strT_ok i hi).2.2; rw [if_neg (by decide), if_pos rfl]; omega
      · obtain ⟨d', rfl⟩ : ∃ d', d = d' + 1 := ⟨d - 1, by omega⟩
        rw [if_neg (by decide), if_neg (by decide)]
        have hc := join_long c d' true hg
        have h5 : c.len * (long d' + 1) ≤ 4 * (long d' + 1) := Nat.mul_le_mul_right _ h4
        simp only [List.length_cons, List.length_append, List.length_nil, long]
        omega
      · have h1 := (strT_ok i hi).2
        have h2 := (wordT_ok j hj).2.2
        split
        · omega
        · split
          · omega
          · rw [join_one]; simp [ntxt]; omega
      · have := (strT_ok i hi).2.1; simp only [if_true]; omega
    have hp : (if b = true then ([] : List UInt8) else [32]).length ≤ 1 := by cases b <;> simp
    have hj : (Fr.cons k t c o r).join b = (if b = true then ([] : List UInt8) else [32]) ++ (ntxt k t c ++ r.join false) := rfl
    rw [hj]
    simp only [List.length_append, Fr.len, Nat.add_mul, Nat.one_mul] at hr ⊢
    omega
theorem long_bad {k o : Int} {t : List UInt8} {c : Fr} {bad : Bool} (h : Gen bad (.cons k t c o .nil) 3) : (ntxt k t c).length ≤ 5000 := by
  have h1 := join_long _ 3 true h
  have h2 : long 3 = 2046 := by decide
  simp only [Fr.len, h2] at h1
  rw [join_one] at h1
  omega

theorem keep8 {W Z : World} {p1 p2 p3 p4 p5 p6 p7 p8 : Addr} {v1 v2 v3 v4 v5 v6 v7 v8 : Value} (h1 : W.cell? p1 = some v1) (h2 : W.cell? p2 = some v2) (h3 : W.cell? p3 = some v3) (h4 : W.cell? p4 = some v4) (h5 : W.cell? p5 = some v5) (h6 : W.cell? p6 = some v6) (h7 : W.cell? p7 = some v7) (h8 : W.cell? p8 = some v8) (h : W.grownBy Z none) :
    Z.cell? p1 = some v1 ∧ Z.cell? p2 = some v2 ∧ Z.cell? p3 = some v3 ∧ Z.cell? p4 = some v4 ∧ Z.cell? p5 = some v5 ∧ Z.cell? p6 = some v6 ∧ Z.cell? p7 = some v7 ∧ Z.cell? p8 = some v8 :=
  ⟨h.cell h1 (by simp), h.cell h2 (by simp), h.cell h3 (by simp), h.cell h4 (by simp), h.cell h5 (by simp), h.cell h6 (by simp), h.cell h7 (by simp), h.cell h8 (by simp)⟩

/-- A node that is held in the block of the variable, wrapped j times. -/
structure Nest (W : World) (b5 : Nat) (wr : World) (j : Nat) (F : Fixed) (k : Int) (t : List UInt8) (c : Fr) (o : Int) (a : Option Addr) (n m : Nat) : Prop where
  grown : W.grownBy wr none
  row : wr.heap[b5]? = some (.cells #[.int .i64 k, .string ⟨t.toArray⟩, .slice a n m, .int .i64 o] 26 (0, 0))
  rd : Rd wr F 4 c.dat (.slice a n m)
  off : ∀ x y, F x y → x ≠ b5
  size : c.size ≤ 1000 + j
  txt : (ntxt k t c).length ≤ 5000 + 2 * j
  short : t.length ≤ 1000000 ∧ c.short

theorem nest_more {W2 U V : World} {b5 j : Nat} {F : Fixed} {k o : Int} {t : List UInt8} {c : Fr} {a : Option Addr} {n m : Nat} (h : Nest W2 b5 U j F k t c o a n m) (hB : W2.heap.size = b5) (hgV : U.grownBy V none) (hb5 : b5 < U.heap.size)
    (hrV : V.heap[b5]? = some (.cells #[.int .i64 k, .string ⟨t.toArray⟩, .slice a n m, .int .i64 o] 26 (0, 0)))
    (hnV : V.heap[U.heap.size]? = some (.cells #[.int .i64 k, .string ⟨t.toArray⟩, .slice a n m, .int .i64 o] 26 (0, 0))) :
    Nest W2 b5 ((((V.setCell ⟨b5, 0, none⟩ (.int .i64 3)).setCell ⟨b5, 1, none⟩ (.string ⟨#[]⟩)).setCell ⟨b5, 2, none⟩ (.slice (some ⟨U.heap.size, 0, none⟩) 1 1)).setCell ⟨b5, 3, none⟩ (.int .i64 0)) (j + 1) (fun x y => F x y ∨ (x = U.heap.size ∧ y < 4)) 3 [] (.cons k t c o .nil) 0 (some ⟨U.heap.size, 0, none⟩) 1 1 := by
  have hf : ∀ b, b ≠ b5 → ((((V.setCell ⟨b5, 0, none⟩ (.int .i64 3)).setCell ⟨b5, 1, none⟩ (.string ⟨#[]⟩)).setCell ⟨b5, 2, none⟩ (.slice (some ⟨U.heap.size, 0, none⟩) 1 1)).setCell ⟨b5, 3, none⟩ (.int .i64 0)).heap[b]? = V.heap[b]? := fun b hb => by
    rw [setCell_far hb, setCell_far hb, setCell_far hb, setCell_far hb]
  have hg := h.grown.trans hgV
  refine ⟨⟨hg.os, hg.tape, hg.output, by simp only [World.size_setCell]; exact hg.size, fun i hi hn => (hf i (by omega)).trans (hg.block i hi hn)⟩, set4_cells hrV, ?_, ?_, ?_, ?_, ?_⟩
  · have h1 := rd_one hnV (h.rd.grown hgV)
    exact h1.mono (fun x y hxy => World.cell?_of_block (hf x (by rcases hxy with hxy | ⟨rfl, _⟩; exact h.off x y hxy; omega))) (fun _ _ h => h)
  · intro x y hxy
    rcases hxy with hxy | ⟨rfl, _⟩
    · exact h.off x y hxy
    · omega
  · have := h.size; simp only [Fr.size]; omega
  · have := h.txt
    simp only [ntxt]
    rw [if_neg (by decide), if_neg (by decide), join_one]
    simp only [List.length_cons, List.length_append, List.length_nil]
    omega
  · exact ⟨by simp, h.short.1, h.short.2, trivial⟩

set_option maxRecDepth 100000 in
set_option maxHeartbeats 6400000 in
theorem law_valid (w : World) (a0 : Option Addr) (l0 c0 wb wo wc tb to tc : Nat) (depth : Int) (h0 : IntsAt w a0 l0) (ht : Tabs w wb wo wc tb to tc) :
    Calls Tryd.prog 6 #[.slice a0 l0 c0, .int .i64 depth] w fun e w' => e = .returned (.bool true) ∧ Below w.heap.size w w' := by
  have H0 := Lib.hid h0
  have HT := Lib.hid ht
  clear h0 ht
  go_enter Tryd.func6, Tryd.ntmps6
  go_wp2_with fail
  refine (new_any w a0 l0 c0 H0.out).mono ?_
  rintro e W1 ⟨rfl, hs1, hg1, _⟩
  have S1 := Lib.hid hs1
  have G1 := Lib.hid hg1
  clear hs1 hg1
  go_wp2_with fail
  refine (any_any true 3 (by omega) 3 rfl W1 w.heap.size wb wo wc tb to tc S1.out (HT.out.grown0 G1.out) HT.out.free).mono ?_
  intro e W2 hd
  obtain ⟨ka, ta, ca, oa, aa, na, ma, Fa, rfl, hmade⟩ := made hd G1.out
  have MA := Lib.hid hmade
  clear hd hmade S1 G1
  go_wp2_with fail
  obtain ⟨W, hW⟩ : ∃ W, W2.alloc (.cells #[.int .i64 ka, .string ⟨ta.toArray⟩, .slice aa na ma, .int .i64 oa] 26) = W := ⟨_, rfl⟩
  have hg2 : W2.grownBy W none := by rw [← hW]; exact World.grownBy_alloc _ _ _
  have hr5 : W.heap[W2.heap.size]? = some (.cells #[.int .i64 ka, .string ⟨ta.toArray⟩, .slice aa na ma, .int .i64 oa] 26 (0, 0)) := by rw [← hW]; exact heap_alloc_new W2 _
  have HGA := Lib.hid MA.out.2.1
  have hnest : Nest W2 W2.heap.size W 0 (fun b o => Fa b o ∧ There W2 b o) ka ta ca oa aa na ma := ⟨hg2, hr5, MA.out.1.there.below (below_grown hg2), fun x y h => Nat.ne_of_lt h.2, by have := gen_small HGA.out (by omega); omega, by have := long_bad HGA.out; omega, (gen_short _ _ HGA.out).1, (gen_short _ _ HGA.out).2.1⟩
  have HN := Lib.hid hnest
  have GW := Lib.hid MA.out.2.2
  obtain ⟨b5, hb5⟩ : ∃ b, W2.heap.size = b := ⟨_, rfl⟩
  rw [hW]
  rw [hb5] at HN ⊢
  have HB := Lib.hid hb5
  clear hW hg2 hr5 MA HT H0 hnest hb5
  obtain ⟨D, hD⟩ : ∃ D : Nat, depth % 42 = (D : Int) := Int.eq_ofNat_of_zero_le (Int.emod_nonneg _ (by omega))
  have hD42 : D < 42 := by have := Int.emod_lt_of_pos depth (b := 42) (by omega); omega
  have HD := Lib.hid hD
  clear hD
  go_loopg [6] 42 (fun kk v wr => ∃ (j : Nat) (k : Int) (t : List UInt8) (c : Fr) (o : Int) (a : Option Addr) (n m : Nat) (F : Fixed), kk = 42 - j ∧ j ≤ D ∧ v = .int .i64 (j : Nat) ∧ Nest W2 b5 wr j F k t c o a n m)
  case atStart => exact ⟨0, _, _, _, _, _, _, _, _, rfl, Nat.zero_le _, rfl, HN.out⟩
  case round =>
    obtain ⟨j, k, t, c, o, a, n, m, F, hk, hj, rfl, hnest⟩ := hrel
    rename World => U
    have B1 := Lib.hid hk
    have HE := Lib.hid hnest
    clear hk hnest
    go_wp2_with fail
    refine (mod_any depth 42 (by omega) (by omega) _).mono ?_
    rintro e X ⟨rfl, hX⟩
    subst hX
    rw [HD.out]
    have z0 := row_c0 HE.out.row
    have z1 := row_c1 HE.out.row
    have z2 := row_c2 HE.out.row
    have z3 := row_c3 HE.out.row
    by_cases hlt : j < D
    · have hj0 : (j : Int) < (D : Int) := by omega
      have hwi : IntKind.i64.wrap ((j : Int) + 1) = (j : Int) + 1 := wrap_i64 (by omega) (by omega)
      obtain ⟨V, hV⟩ : ∃ V, U.alloc (.cells #[.int .i64 k, .string ⟨t.toArray⟩, .slice a n m, .int .i64 o] 26) = V := ⟨_, rfl⟩
      have hgV : U.grownBy V none := by rw [← hV]; exact World.grownBy_alloc _ _ _
      have hb5 : b5 < U.heap.size := (Array.getElem?_eq_some_iff.1 HE.out.row).1
      have hrV : V.heap[b5]? = some (.cells #[.int .i64 k, .string ⟨t.toArray⟩, .slice a n m, .int .i64 o] 26 (0, 0)) := (hgV.block b5 hb5 (by simp)).trans HE.out.row
      have hnV : V.heap[U.heap.size]? = some (.cells #[.int .i64 k, .string ⟨t.toArray⟩, .slice a n m, .int .i64 o] 26 (0, 0)) := by rw [← hV]; exact heap_alloc_new U _
      have y0 := row_c0 hrV
      have y1 := row_c1 hrV
      have y2 := row_c2 hrV
      have y3 := row_c3 hrV
      have q0 := row_fz hrV 0
      have q1 := row_fz hrV 1
      have q2 := row_fz hrV 2
      have q3 := row_fz hrV 3
      rw [← hV] at y0 y1 y2 y3 q0 q1 q2 q3
      have HN2 : Hid (Nest W2 b5 ((((V.setCell ⟨b5, 0, none⟩ (.int .i64 3)).setCell ⟨b5, 1, none⟩ (.string ⟨#[]⟩)).setCell ⟨b5, 2, none⟩ (.slice (some ⟨U.heap.size, 0, none⟩) 1 1)).setCell ⟨b5, 3, none⟩ (.int .i64 0)) (j + 1) (fun x y => F x y ∨ (x = U.heap.size ∧ y < 4)) 3 [] (.cons k t c o .nil) 0 (some ⟨U.heap.size, 0, none⟩) 1 1) :=
        nest_more HE.out HB.out hgV hb5 hrV hnV
      clear hgV hrV hnV hb5
      subst hV
      go_wp2_with fail
      go_roundg (42 - (j + 1))
      case measure => have := B1.out; omega
      case rel => exact ⟨j + 1, _, _, _, _, _, _, _, _, rfl, by omega, by go_num, HN2.out⟩
    · have hj0 : ¬ (j : Int) < (D : Int) := by omega
      have hjD : j ≤ 41 := by omega
      have HSZ : Hid (c.size ≤ 1100) := by have := HE.out.size; show _ ≤ _; omega
      have HTX : Hid ((ntxt k t c).length ≤ 6000) := by have := HE.out.txt; show _ ≤ _; omega
      have HSH := Lib.hid HE.out.short
      have RA := Lib.hid HE.out.rd
      have GU := Lib.hid (GW.out.trans HE.out.grown)
      clear B1 HN HGA HD HB
      go_wp2_with fail
      refine (conv_any 1100 (by omega) c HSZ.out _ _ k o t a n m RA.out).mono ?_
      rintro e V1 ⟨ya, yn, ym, F2, rfl, hrd2, _, hg⟩
      have RD := Lib.hid hrd2
      have HG := Lib.hid hg
      clear hrd2 hg
      go_wp2_with fail
      have hrd2 := RD.out
      have hg := HG.out
      clear RD HG
      obtain ⟨Z, hZ⟩ : ∃ Z, V1.alloc (.cells #[.int .i64 k, .string ⟨t.toArray⟩, .slice ya yn ym, .int .i64 o] 39) = Z := ⟨_, rfl⟩
      have hgZ : V1.grownBy Z none := by rw [← hZ]; exact World.grownBy_alloc _ _ _
      have hr7 : Z.heap[V1.heap.size]? = some (.cells #[.int .i64 k, .string ⟨t.toArray⟩, .slice ya yn ym, .int .i64 o] 39 (0, 0)) := by rw [← hZ]; exact heap_alloc_new V1 _
      have RY := Lib.hid (hrd2.grown hgZ)
      have HG1 := Lib.hid (hg.trans hgZ)
      clear hrd2 hg hgZ
      rw [hZ]
      obtain ⟨b7, hb7⟩ : ∃ b, V1.heap.size = b := ⟨_, rfl⟩
      rw [hb7] at hr7 ⊢
      have R7 := Lib.hid hr7
      clear hZ hb7 hr7
      refine (format_any c (by have := HSZ.out; omega) _ F2 k o t ya yn ym HSH.out.1 HSH.out.2 (by have := HTX.out; omega) RY.out).mono ?_
      rintro e V2 ⟨rfl, hg⟩
      have HG2 := Lib.hid (HG1.out.trans hg)
      have HG7 := Lib.hid hg
      clear hg
      obtain ⟨B, hB⟩ : ∃ B, vnode k t c 40 = B := ⟨_, rfl⟩
      have HV := Lib.hid hB
      rw [fmtOut, hB]
      clear hB
      replace z0 := HG2.out.cell z0 (by simp)
      replace z1 := HG2.out.cell z1 (by simp)
      replace z2 := HG2.out.cell z2 (by simp)
      replace z3 := HG2.out.cell z3 (by simp)
      have x0 := HG7.out.cell (row_c0 R7.out) (by simp)
      have x1 := HG7.out.cell (row_c1 R7.out) (by simp)
      have x2 := HG7.out.cell (row_c2 R7.out) (by simp)
      have x3 := HG7.out.cell (row_c3 R7.out) (by simp)
      have hgC : V2.grownBy V2.drew none := grown_drew1 V2
      have RN := Lib.hid (RA.out.grown HG2.out)
      have RX := Lib.hid (RY.out.grown HG7.out)
      cases B
      · go_wp2_with fail
        go_region_held3 (fun w' => w'.cell? ⟨b5, 0, none⟩ = some (.int .i64 k) ∧ w'.cell? ⟨b5, 1, none⟩ = some (.string ⟨t.toArray⟩) ∧ w'.cell? ⟨b5, 2, none⟩ = some (.slice a n m) ∧ w'.cell? ⟨b5, 3, none⟩ = some (.int .i64 o) ∧ w'.cell? ⟨b7, 0, none⟩ = some (.int .i64 k) ∧ w'.cell? ⟨b7, 1, none⟩ = some (.string ⟨t.toArray⟩) ∧ w'.cell? ⟨b7, 2, none⟩ = some (.slice ya yn ym) ∧ w'.cell? ⟨b7, 3, none⟩ = some (.int .i64 o))
          (with_reducible exact keep8 z0 z1 z2 z3 x0 x1 x2 x3 hgC)
          (first
            | (go_at_call 15; refine (check_any _).mono ?_; rintro e Y ⟨rfl, hb⟩; replace hgC := hgC.trans (grown_of_below hb); clear hb)
            | (go_at_call 25; refine (Valid_any c (by have := HSZ.out; omega) _ F2 k o t ya yn ym HSH.out.1 HSH.out.2 (RX.out.grown hgC)).mono ?_; rintro e Y ⟨rfl, hb⟩; rw [HV.out]; replace hgC := hgC.trans hb; clear hb)
            | (go_at_call 26; refine (nodeValid_any c (by have := HSZ.out; omega) _ _ k o t a n m HSH.out.1 HSH.out.2 (RN.out.grown hgC)).mono ?_; rintro e Y ⟨rfl, hb⟩; rw [HV.out]; replace hgC := hgC.trans hb; clear hb))
        go_wp2_with fail
        refine (nodeValid_any c (by have := HSZ.out; omega) _ _ k o t a n m HSH.out.1 HSH.out.2 (RN.out.grown hgC)).mono ?_
        rintro e Y ⟨rfl, hb⟩
        rw [HV.out]
        replace hgC := hgC.trans hb
        clear hb
        go_wp2_with fail
        go_ret
        exact ⟨rfl, below_grown (GU.out.trans (HG2.out.trans hgC))⟩
      · go_wp2_with fail
        go_region_held3 (fun w' => w'.cell? ⟨b5, 0, none⟩ = some (.int .i64 k) ∧ w'.cell? ⟨b5, 1, none⟩ = some (.string ⟨t.toArray⟩) ∧ w'.cell? ⟨b5, 2, none⟩ = some (.slice a n m) ∧ w'.cell? ⟨b5, 3, none⟩ = some (.int .i64 o) ∧ w'.cell? ⟨b7, 0, none⟩ = some (.int .i64 k) ∧ w'.cell? ⟨b7, 1, none⟩ = some (.string ⟨t.toArray⟩) ∧ w'.cell? ⟨b7, 2, none⟩ = some (.slice ya yn ym) ∧ w'.cell? ⟨b7, 3, none⟩ = some (.int .i64 o))
          (with_reducible exact keep8 z0 z1 z2 z3 x0 x1 x2 x3 hgC)
          (first
            | (go_at_call 15; refine (check_any _).mono ?_; rintro e Y ⟨rfl, hb⟩; replace hgC := hgC.trans (grown_of_below hb); clear hb)
            | (go_at_call 25; refine (Valid_any c (by have := HSZ.out; omega) _ F2 k o t ya yn ym HSH.out.1 HSH.out.2 (RX.out.grown hgC)).mono ?_; rintro e Y ⟨rfl, hb⟩; rw [HV.out]; replace hgC := hgC.trans hb; clear hb)
            | (go_at_call 26; refine (nodeValid_any c (by have := HSZ.out; omega) _ _ k o t a n m HSH.out.1 HSH.out.2 (RN.out.grown hgC)).mono ?_; rintro e Y ⟨rfl, hb⟩; rw [HV.out]; replace hgC := hgC.trans hb; clear hb))
        go_wp2_with fail
        refine (nodeValid_any c (by have := HSZ.out; omega) _ _ k o t a n m HSH.out.1 HSH.out.2 (RN.out.grown hgC)).mono ?_
        rintro e Y ⟨rfl, hb⟩
        rw [HV.out]
        replace hgC := hgC.trans hb
        clear hb
        have z0 := hgC.cell z0 (by simp)
        have z1 := hgC.cell z1 (by simp)
        have z2 := hgC.cell z2 (by simp)
        have z3 := hgC.cell z3 (by simp)
        go_wp2_with fail
        refine (fmt_any 1100 (by omega) c HSZ.out _ _ k o t a n m (by have := HTX.out; omega) (RN.out.grown hgC)).mono ?_
        rintro e Y2 ⟨rfl, hb⟩
        replace hgC := hgC.trans hb
        clear hb
        go_wp2_with fail
        go_ret
        exact ⟨rfl, below_grown (GU.out.trans (HG2.out.trans hgC))⟩
end Go.Proofs.YtnaabplppfikcaaDoor
