/- The walk of SexprMeasures. -/
import Derived.Test.YtnaabplppfikcaaDoorAny
import Derived.Test.YtnaabplppfikcaaDoorCount
import Derived.Test.YtnaabplppfikcaaDoorDepth
import Derived.Test.YtnaabplppfikcaaDoorEqual
import Derived.Test.YtnaabplppfikcaaDoorREqual
import Derived.Test.YtnaabplppfikcaaDoorCheck
import Derived.Deep.Cut
namespace Go.Proofs.YtnaabplppfikcaaDoor
open Go.RowKit

theorem Tabs.free {w : World} {wb wo wc tb to tc : Nat} (h : Tabs w wb wo wc tb to tc) : Free wb tb w.heap.size :=
  ⟨Nat.ne_of_lt (World.block_lt_of_cell? w _ h.gw), Nat.ne_of_lt (World.block_lt_of_cell? w _ h.gs), Nat.ne_of_lt (World.block_lt_of_cell? w _ (h.ws 0 (by omega))), Nat.ne_of_lt (World.block_lt_of_cell? w _ (h.ss 0 (by omega)))⟩
theorem Tabs.grown0 {w w' : World} {wb wo wc tb to tc : Nat} (h : Tabs w wb wo wc tb to tc) (hg : w.grownBy w' none) : Tabs w' wb wo wc tb to tc :=
  ⟨hg.cell h.gw (by simp), hg.cell h.gs (by simp), fun i hi => hg.cell (h.ws i hi) (by simp), fun i hi => hg.cell (h.ss i hi) (by simp)⟩
theorem IntsAt.grown {w w' : World} {a : Option Addr} {len : Nat} (h : IntsAt w a len) (hg : w.grownBy w' none) : IntsAt w' a len :=
  ⟨h.1, fun i hi => by obtain ⟨b, off, z, h1, h2⟩ := h.2 i hi; exact ⟨b, off, z, h1, hg.cell h2 (by simp)⟩⟩

/-- A generated node, whose stream is new. -/
def MadeNode (bad : Bool) (d : Nat) (w W : World) (k : Int) (t : List UInt8) (c : Fr) (o : Int) (a : Option Addr) (n m : Nat) (F : Fixed) : Prop :=
  Rd W F 4 c.dat (.slice a n m) ∧ Gen bad (.cons k t c o .nil) d ∧ w.grownBy W none

theorem made {bad : Bool} {d : Nat} {w W1 W2 : World} {e : Ending} (h : AnyDone bad d W1 w.heap.size e W2) (hg : w.grownBy W1 none) :
    ∃ k t c o a n m F, e = .returned (.agg #[.int .i64 k, .string ⟨t.toArray⟩, .slice a n m, .int .i64 o]) ∧ MadeNode bad d w W2 k t c o a n m F := by
  obtain ⟨k, t, c, o, a, n, m, F, he, h1, _, h3, _, h5⟩ := h
  exact ⟨k, t, c, o, a, n, m, F, he, h1, h3, hg.andThen h5 (fun j e => .inl (by cases e; exact Nat.le_refl _))⟩

theorem gen_small {bad : Bool} {k o : Int} {t : List UInt8} {c : Fr} {d : Nat} (h : Gen bad (.cons k t c o .nil) d) (hd : d ≤ 4) : c.size ≤ 1000 := by
  have h1 := h.size
  have h2 : most d ≤ 597 := by
    rcases (by omega : d = 0 ∨ d = 1 ∨ d = 2 ∨ d = 3 ∨ d = 4) with rfl | rfl | rfl | rfl | rfl <;> decide
  simp only [Fr.size, Fr.len] at h1
  omega

theorem keep8 {W Z : World} {p1 p2 p3 p4 p5 p6 p7 p8 : Addr} {v1 v2 v3 v4 v5 v6 v7 v8 : Value} (h1 : W.cell? p1 = some v1) (h2 : W.cell? p2 = some v2) (h3 : W.cell? p3 = some v3) (h4 : W.cell? p4 = some v4) (h5 : W.cell? p5 = some v5) (h6 : W.cell? p6 = some v6) (h7 : W.cell? p7 = some v7) (h8 : W.cell? p8 = some v8) (h : W.grownBy Z none) :
    Z.cell? p1 = some v1 ∧ Z.cell? p2 = some v2 ∧ Z.cell? p3 = some v3 ∧ Z.cell? p4 = some v4 ∧ Z.cell? p5 = some v5 ∧ Z.cell? p6 = some v6 ∧ Z.cell? p7 = some v7 ∧ Z.cell? p8 = some v8 :=
  ⟨h.cell h1 (by simp), h.cell h2 (by simp), h.cell h3 (by simp), h.cell h4 (by simp), h.cell h5 (by simp), h.cell h6 (by simp), h.cell h7 (by simp), h.cell h8 (by simp)⟩
theorem grown_alloc {W Z : World} {o : Obj} (h : W.grownBy Z none) : W.grownBy (Z.alloc o) none := h.trans (World.grownBy_alloc _ _ _)
theorem grown_set {W Z : World} {g o : Nat} {v : Value} (h : W.grownBy Z none) (hp : W.heap.size ≤ g) : W.grownBy (Z.setCell ⟨g, o, none⟩ v) none :=
  ⟨h.os, h.tape, h.output, by simp only [World.size_setCell]; exact h.size, fun i hi hn => (setCell_far (by omega)).trans (h.block i hi hn)⟩
theorem grown_drew1 (W : World) : W.grownBy W.drew none := grown_drewN W 1 none
theorem grown_drewOf {W Z : World} (h : W.grownBy Z none) : W.grownBy Z.drew none := h.trans (grown_drewN Z 1 none)
theorem drew_heap (w : World) : w.drew.heap = w.heap := rfl

theorem chain_same {X : World} {g : Nat} {z0 z1 z2 z3 a b c d : Value} {T : TypeId} (h : X.heap[g]? = some (.cells #[z0, z1, z2, z3] T (0, 0))) : ((((X.setCell ⟨g, 0, none⟩ a).setCell ⟨g, 1, none⟩ b).setCell ⟨g, 2, none⟩ c).setCell ⟨g, 3, none⟩ d).heap[g]? = some (.cells #[a, b, c, d] T (0, 0)) := set4_cells h
theorem far_set {X : World} {g b o : Nat} {v : Value} {R : Option Obj} (hb : b ≠ g) (h : X.heap[b]? = R) : (X.setCell ⟨g, o, none⟩ v).heap[b]? = R := (setCell_far hb).trans h
theorem far_alloc {X : World} {b : Nat} {o : Obj} {R : Option Obj} (hb : b < X.heap.size) (h : X.heap[b]? = R) : (X.alloc o).heap[b]? = R := (Below.heap_alloc X o b hb).trans h
theorem new_alloc {X : World} {b : Nat} {o : Obj} (hb : b = X.heap.size) : (X.alloc o).heap[b]? = some o := by rw [hb]; exact heap_alloc_new X o
theorem at_drew {X : World} {b : Nat} {R : Option Obj} (h : X.heap[b]? = R) : X.drew.heap[b]? = R := h
theorem at_grown {X V : World} {b : Nat} {R : Option Obj} (hg : X.grownBy V none) (hb : b < X.heap.size) (h : X.heap[b]? = R) : V.heap[b]? = R := (hg.block b hb (by simp)).trans h

theorem keep16 {W Z : World} {p0 p1 p2 p3 p4 p5 p6 p7 p8 p9 p10 p11 p12 p13 p14 p15 : Addr} {v0 v1 v2 v3 v4 v5 v6 v7 v8 v9 v10 v11 v12 v13 v14 v15 : Value} (h0 : W.cell? p0 = some v0) (h1 : W.cell? p1 = some v1) (h2 : W.cell? p2 = some v2) (h3 : W.cell? p3 = some v3) (h4 : W.cell? p4 = some v4) (h5 : W.cell? p5 = some v5) (h6 : W.cell? p6 = some v6) (h7 : W.cell? p7 = some v7) (h8 : W.cell? p8 = some v8) (h9 : W.cell? p9 = some v9) (h10 : W.cell? p10 = some v10) (h11 : W.cell? p11 = some v11) (h12 : W.cell? p12 = some v12) (h13 : W.cell? p13 = some v13) (h14 : W.cell? p14 = some v14) (h15 : W.cell? p15 = some v15) (h : W.grownBy Z none) :
    Z.cell? p0 = some v0 ∧ Z.cell? p1 = some v1 ∧ Z.cell? p2 = some v2 ∧ Z.cell? p3 = some v3 ∧ Z.cell? p4 = some v4 ∧ Z.cell? p5 = some v5 ∧ Z.cell? p6 = some v6 ∧ Z.cell? p7 = some v7 ∧ Z.cell? p8 = some v8 ∧ Z.cell? p9 = some v9 ∧ Z.cell? p10 = some v10 ∧ Z.cell? p11 = some v11 ∧ Z.cell? p12 = some v12 ∧ Z.cell? p13 = some v13 ∧ Z.cell? p14 = some v14 ∧ Z.cell? p15 = some v15 :=
  ⟨h.cell h0 (by simp), h.cell h1 (by simp), h.cell h2 (by simp), h.cell h3 (by simp), h.cell h4 (by simp), h.cell h5 (by simp), h.cell h6 (by simp), h.cell h7 (by simp), h.cell h8 (by simp), h.cell h9 (by simp), h.cell h10 (by simp), h.cell h11 (by simp), h.cell h12 (by simp), h.cell h13 (by simp), h.cell h14 (by simp), h.cell h15 (by simp)⟩
theorem grown_below {w w' : World} (h : Below w.heap.size w w') : w.grownBy w' none := ⟨h.os, h.tape, h.output, h.size, fun i hi _ => h.block i hi⟩
/-- Two nodes in a block of their own. -/
theorem rd_two {W : World} {b : Nat} {k o k' o' : Int} {t t' : List UInt8} {c c' : Fr} {cv cv' : Value} {F F' : Fixed} {T : TypeId} {fr : Nat × Nat} (h : W.heap[b]? = some (.cells #[.int .i64 k, .string ⟨t.toArray⟩, cv, .int .i64 o, .int .i64 k', .string ⟨t'.toArray⟩, cv', .int .i64 o'] T fr)) (hc : Rd W F 4 c.dat cv) (hc' : Rd W F' 4 c'.dat cv') :
    Rd W (fun x j => F x j ∨ F' x j ∨ (x = b ∧ j < 8)) 4 (Fr.cons k t c o (.cons k' t' c' o' .nil)).dat (.slice (some ⟨b, 0, none⟩) 2 2) := by
  obtain ⟨zs, h1, h2⟩ := hc
  obtain ⟨zs', h1', h2'⟩ := hc'
  refine ⟨[.int .i64 k, .string ⟨t.toArray⟩, cv, .int .i64 o, .int .i64 k', .string ⟨t'.toArray⟩, cv', .int .i64 o'], .inr ⟨b, 0, 2, 2, rfl, Nat.le_refl _, by unfold maxLen; omega, rfl, fun j u hu => ?_⟩, ?_⟩
  · have hj : j < 8 := (List.getElem?_eq_some_iff.1 hu).1
    refine ⟨.inr (.inr ⟨rfl, by omega⟩), ?_⟩
    rw [cell_of_row W _ _ _ _ _ h, Nat.zero_add]
    simpa using hu
  · exact ⟨_, rfl, _, rfl, cv, zs, _, rfl, h1.mono (Fix.refl _ _) (fun _ _ h => .inl h), h2.mono (Fix.refl _ _) (fun _ _ h => .inl h), _, rfl, _, rfl, _, rfl, cv', zs', _, rfl, h1'.mono (Fix.refl _ _) (fun _ _ h => .inr (.inl h)), h2'.mono (Fix.refl _ _) (fun _ _ h => .inr (.inl h)), _, rfl, rfl⟩

/-- Both nodes have been converted. -/
structure Two (w W : World) (b7 b8 : Nat) (ka : Int) (ta : List UInt8) (ca : Fr) (oa : Int) (kb : Int) (tb : List UInt8) (cb : Fr) (ob : Int) (xa : Option Addr) (xn xm : Nat) (ya : Option Addr) (yn ym : Nat) (Fx Fy : Fixed) (Z : World) : Prop where
  grown : W.grownBy Z none
  row7 : Z.heap[b7]? = some (.cells #[.int .i64 ka, .string ⟨ta.toArray⟩, .slice xa xn xm, .int .i64 oa] 39 (0, 0))
  row8 : Z.heap[b8]? = some (.cells #[.int .i64 kb, .string ⟨tb.toArray⟩, .slice ya yn ym, .int .i64 ob] 39 (0, 0))
  rx : Rd Z Fx 4 ca.dat (.slice xa xn xm)
  ry : Rd Z Fy 4 cb.dat (.slice ya yn ym)

set_option maxRecDepth 100000 in
set_option maxHeartbeats 6400000 in
theorem law_measures (w : World) (a0 a1 : Option Addr) (l0 l1 c0 c1 wb wo wc tb to tc : Nat) (h0 : IntsAt w a0 l0) (h1 : IntsAt w a1 l1) (ht : Tabs w wb wo wc tb to tc) :
    Calls Tryd.prog 5 #[.slice a0 l0 c0, .slice a1 l1 c1] w fun e w' => e = .returned (.bool true) ∧ Below w.heap.size w w' := by
  have H0 := Lib.hid h0
  have H1 := Lib.hid h1
  have HT := Lib.hid ht
  clear h0 h1 ht
  go_enter Tryd.func5, Tryd.ntmps5
  go_wp2_with fail
  refine (new_any w a0 l0 c0 H0.out).mono ?_
  rintro e W1 ⟨rfl, hs1, hg1, _⟩
  have S1 := Lib.hid hs1
  have G1 := Lib.hid hg1
  clear hs1 hg1
  go_wp2_with fail
  refine (any_any true 4 (by omega) 4 rfl W1 w.heap.size wb wo wc tb to tc S1.out (HT.out.grown0 G1.out) HT.out.free).mono ?_
  intro e W2 hd
  obtain ⟨ka, ta, ca, oa, aa, na, ma, Fa, rfl, hmade⟩ := made hd G1.out
  have MA := Lib.hid hmade
  clear hd hmade S1 G1
  go_wp2_with fail
  refine (new_any W2 a1 l1 c1 (H1.out.grown MA.out.2.2)).mono ?_
  rintro e W3 ⟨rfl, hs1, hg1, _⟩
  have S1 := Lib.hid hs1
  have G1 := Lib.hid hg1
  clear hs1 hg1
  go_wp2_with fail
  have HT2 := Lib.hid (HT.out.grown0 MA.out.2.2)
  refine (any_any true 4 (by omega) 4 rfl W3 W2.heap.size wb wo wc tb to tc S1.out (HT2.out.grown0 G1.out) HT2.out.free).mono ?_
  intro e W4 hd
  obtain ⟨kb, tb', cb, ob, ab, nb, mb, Fb, rfl, hmade⟩ := made hd G1.out
  have MB := Lib.hid hmade
  have RA := Lib.hid (MA.out.1.grown MB.out.2.2)
  have RB := Lib.hid MB.out.1
  have GW := Lib.hid (MA.out.2.2.trans MB.out.2.2)
  have SA : Hid (ca.size ≤ 1000) := gen_small MA.out.2.1 (by omega)
  have SB : Hid (cb.size ≤ 1000) := gen_small MB.out.2.1 (by omega)
  clear hd hmade S1 G1 HT HT2 H0 H1 MA MB
  go_wp2_with fail
  obtain ⟨W, hW⟩ : ∃ W, (W4.alloc (.cells #[.int .i64 ka, .string ⟨ta.toArray⟩, .slice aa na ma, .int .i64 oa] 26)).alloc (.cells #[.int .i64 kb, .string ⟨tb'.toArray⟩, .slice ab nb mb, .int .i64 ob] 26) = W := ⟨_, rfl⟩
  have hg4 : W4.grownBy W none := by rw [← hW]; exact (World.grownBy_alloc _ _ _).trans (World.grownBy_alloc _ _ _)
  have hr5 : W.heap[W4.heap.size]? = some (.cells #[.int .i64 ka, .string ⟨ta.toArray⟩, .slice aa na ma, .int .i64 oa] 26 (0, 0)) := by
    rw [← hW]
    exact (Below.heap_alloc _ _ _ (by simp)).trans (heap_alloc_new W4 _)
  have hr6 : W.heap[W4.heap.size + 1]? = some (.cells #[.int .i64 kb, .string ⟨tb'.toArray⟩, .slice ab nb mb, .int .i64 ob] 26 (0, 0)) := by
    rw [← hW]
    have := heap_alloc_new (W4.alloc (.cells #[.int .i64 ka, .string ⟨ta.toArray⟩, .slice aa na ma, .int .i64 oa] 26)) (.cells #[.int .i64 kb, .string ⟨tb'.toArray⟩, .slice ab nb mb, .int .i64 ob] 26)
    simpa using this
  rw [hW]
  have RA' := Lib.hid (RA.out.grown hg4)
  have RB' := Lib.hid (RB.out.grown hg4)
  have GW' := Lib.hid (GW.out.trans hg4)
  obtain ⟨b6, hb6⟩ : ∃ b, W4.heap.size + 1 = b := ⟨_, rfl⟩
  rw [hb6] at hr6 ⊢
  obtain ⟨b5, hb5⟩ : ∃ b, W4.heap.size = b := ⟨_, rfl⟩
  rw [hb5] at hr5 ⊢
  have HR5 := Lib.hid hr5
  have HR6 := Lib.hid hr6
  have z50 := row_c0 hr5
  have z51 := row_c1 hr5
  have z52 := row_c2 hr5
  have z53 := row_c3 hr5
  have z60 := row_c0 hr6
  have z61 := row_c1 hr6
  have z62 := row_c2 hr6
  have z63 := row_c3 hr6
  have n5 : b5 < W.heap.size := (Array.getElem?_eq_some_iff.1 hr5).1
  have n6 : b6 < W.heap.size := (Array.getElem?_eq_some_iff.1 hr6).1
  clear hW hg4 hb5 hb6 hr5 hr6 RA RB GW
  have m1 : W.heap.size ≠ b5 := by omega
  have m2 : W.heap.size ≠ b6 := by omega
  have m3 : W.heap.size + 1 ≠ b5 := by omega
  have m4 : W.heap.size + 1 ≠ b6 := by omega
  go_cut [7, 8] from 17 (fun s7 s8 wc => ∃ b7 b8 xa xn xm ya yn ym Fx Fy, s7 = .pointer (some ⟨b7, 0, none⟩) ∧ s8 = .pointer (some ⟨b8, 0, none⟩) ∧ Two w W b7 b8 ka ta ca oa kb tb' cb ob xa xn xm ya yn ym Fx Fy wc)
  case rest =>
    obtain ⟨b7, b8, xa, xn, xm, ya, yn, ym, Fx, Fy, rfl, rfl, htwo⟩ := hcut
    rename World => Z
    have z70 := row_c0 htwo.row7
    have z71 := row_c1 htwo.row7
    have z72 := row_c2 htwo.row7
    have z73 := row_c3 htwo.row7
    have z80 := row_c0 htwo.row8
    have z81 := row_c1 htwo.row8
    have z82 := row_c2 htwo.row8
    have z83 := row_c3 htwo.row8
    replace z50 := htwo.grown.cell z50 (by simp)
    replace z51 := htwo.grown.cell z51 (by simp)
    replace z52 := htwo.grown.cell z52 (by simp)
    replace z53 := htwo.grown.cell z53 (by simp)
    replace z60 := htwo.grown.cell z60 (by simp)
    replace z61 := htwo.grown.cell z61 (by simp)
    replace z62 := htwo.grown.cell z62 (by simp)
    replace z63 := htwo.grown.cell z63 (by simp)
    have RA1 := Lib.hid (RA'.out.grown htwo.grown)
    have RB1 := Lib.hid (RB'.out.grown htwo.grown)
    have RX1 := Lib.hid htwo.rx
    have RY1 := Lib.hid htwo.ry
    have GZ := Lib.hid (GW'.out.trans htwo.grown)
    clear htwo m1 m2 m3 m4 n5 n6 RA' RB' GW' HR5 HR6
    go_wp2_with fail
    go_cut [9, 10] from 21 (fun s9 s10 wc => ∃ b9 b10 F9 F10, s9 = .slice (some ⟨b9, 0, none⟩) 2 2 ∧ s10 = .slice (some ⟨b10, 0, none⟩) 2 2 ∧ Rd wc F9 4 (Fr.cons ka ta ca oa (.cons kb tb' cb ob .nil)).dat (.slice (some ⟨b9, 0, none⟩) 2 2) ∧ Rd wc F10 4 (Fr.cons ka ta ca oa (.cons kb tb' cb ob .nil)).dat (.slice (some ⟨b10, 0, none⟩) 2 2) ∧ Z.grownBy wc none)
    case rest =>
      obtain ⟨b9, b10, F9, F10, rfl, rfl, r9, r10, hgz⟩ := hcut
      rename World => X
      have R9 := Lib.hid r9
      have R10 := Lib.hid r10
      replace z50 := hgz.cell z50 (by simp)
      replace z51 := hgz.cell z51 (by simp)
      replace z52 := hgz.cell z52 (by simp)
      replace z53 := hgz.cell z53 (by simp)
      replace z60 := hgz.cell z60 (by simp)
      replace z61 := hgz.cell z61 (by simp)
      replace z62 := hgz.cell z62 (by simp)
      replace z63 := hgz.cell z63 (by simp)
      replace z70 := hgz.cell z70 (by simp)
      replace z71 := hgz.cell z71 (by simp)
      replace z72 := hgz.cell z72 (by simp)
      replace z73 := hgz.cell z73 (by simp)
      replace z80 := hgz.cell z80 (by simp)
      replace z81 := hgz.cell z81 (by simp)
      replace z82 := hgz.cell z82 (by simp)
      replace z83 := hgz.cell z83 (by simp)
      have RA2 := Lib.hid (RA1.out.grown hgz)
      have RB2 := Lib.hid (RB1.out.grown hgz)
      have RX2 := Lib.hid (RX1.out.grown hgz)
      have RY2 := Lib.hid (RY1.out.grown hgz)
      have GX := Lib.hid (GZ.out.trans hgz)
      clear r9 r10 hgz RA1 RB1 RX1 RY1 GZ
      have HSZ : Hid (((Fr.cons ka ta ca oa (.cons kb tb' cb ob .nil))).size ≤ 3000) := by have h1 := SA.out; have h2 := SB.out; show _ ≤ _; simp only [Fr.size]; omega
      obtain ⟨r, hr⟩ : ∃ r, ((ka == kb) && (ta == tb') && ca.eqf cb) = r := ⟨_, rfl⟩
      have HQ := Lib.hid hr
      have HQ2 : Hid (((ka == ka) && (ta == ta) && ca.eqf ca) = true) := by show _ = _; simp [Fr.eqf_refl]
      clear hr
      have hgC : X.grownBy X.drew none := grown_drew1 X
      go_wp2_with fail
      go_region_held3 (fun w' => w'.cell? ⟨b5, 0, none⟩ = some (.int .i64 ka) ∧ w'.cell? ⟨b5, 1, none⟩ = some (.string ⟨ta.toArray⟩) ∧ w'.cell? ⟨b5, 2, none⟩ = some (.slice aa na ma) ∧ w'.cell? ⟨b5, 3, none⟩ = some (.int .i64 oa) ∧ w'.cell? ⟨b6, 0, none⟩ = some (.int .i64 kb) ∧ w'.cell? ⟨b6, 1, none⟩ = some (.string ⟨tb'.toArray⟩) ∧ w'.cell? ⟨b6, 2, none⟩ = some (.slice ab nb mb) ∧ w'.cell? ⟨b6, 3, none⟩ = some (.int .i64 ob) ∧ w'.cell? ⟨b7, 0, none⟩ = some (.int .i64 ka) ∧ w'.cell? ⟨b7, 1, none⟩ = some (.string ⟨ta.toArray⟩) ∧ w'.cell? ⟨b7, 2, none⟩ = some (.slice xa xn xm) ∧ w'.cell? ⟨b7, 3, none⟩ = some (.int .i64 oa) ∧ w'.cell? ⟨b8, 0, none⟩ = some (.int .i64 kb) ∧ w'.cell? ⟨b8, 1, none⟩ = some (.string ⟨tb'.toArray⟩) ∧ w'.cell? ⟨b8, 2, none⟩ = some (.slice ya yn ym) ∧ w'.cell? ⟨b8, 3, none⟩ = some (.int .i64 ob))
        (with_reducible exact keep16 z50 z51 z52 z53 z60 z61 z62 z63 z70 z71 z72 z73 z80 z81 z82 z83 hgC)
        (first
        | (go_at_call 15; refine (check_any _).mono ?_; rintro e U ⟨rfl, hb⟩; replace hgC := hgC.trans (grown_below hb); clear hb)
        | (go_at_call 19; refine (count_any 3000 (by omega) (Fr.cons ka ta ca oa (.cons kb tb' cb ob .nil)) HSZ.out _ F10 _ _ _ (R10.out.grown hgC)).mono ?_; rintro e U ⟨rfl, hb⟩; replace hgC := hgC.trans hb; clear hb)
        | (go_at_call 20; refine (rcount_any 3000 (by omega) (Fr.cons ka ta ca oa (.cons kb tb' cb ob .nil)) HSZ.out _ F9 _ _ _ (R9.out.grown hgC)).mono ?_; rintro e U ⟨rfl, hb⟩; replace hgC := hgC.trans hb; clear hb)
        | (go_at_call 21; refine (depth_any 3000 (by omega) (Fr.cons ka ta ca oa (.cons kb tb' cb ob .nil)) HSZ.out _ F10 _ _ _ (R10.out.grown hgC)).mono ?_; rintro e U ⟨rfl, hb⟩; replace hgC := hgC.trans hb; clear hb)
        | (go_at_call 22; refine (rdepth_any 3000 (by omega) (Fr.cons ka ta ca oa (.cons kb tb' cb ob .nil)) HSZ.out _ F9 _ _ _ (R9.out.grown hgC)).mono ?_; rintro e U ⟨rfl, hb⟩; replace hgC := hgC.trans hb; clear hb)
        | (go_at_call 23; refine (requal_any 3000 (by omega) ca (by have := SA.out; omega) cb _ Fa Fb ka kb oa ob ta tb' aa ab na nb ma mb (RA2.out.grown hgC) (RB2.out.grown hgC)).mono ?_; rintro e U ⟨rfl, hb⟩; rw [HQ.out]; replace hgC := hgC.trans hb; clear hb; have hdone := True.intro)
        | (go_at_call 17; have hq := hdone; clear hq; refine (equal_any 3000 (by omega) ca (by have := SA.out; omega) ca _ Fx Fx ka ka oa oa ta ta xa xa xn xn xm xm (RX2.out.grown hgC) (RX2.out.grown hgC)).mono ?_; rintro e U ⟨rfl, hb⟩; rw [HQ2.out]; replace hgC := hgC.trans hb; clear hb)
        | (go_at_call 17; refine (equal_any 3000 (by omega) ca (by have := SA.out; omega) cb _ Fx Fy ka kb oa ob ta tb' xa ya xn yn xm ym (RX2.out.grown hgC) (RY2.out.grown hgC)).mono ?_; rintro e U ⟨rfl, hb⟩; rw [HQ.out]; replace hgC := hgC.trans hb; clear hb))
      go_wp2_with fail
      go_ret
      exact ⟨rfl, below_grown (GX.out.trans hgC)⟩
    case first =>
      go_region_held3 (fun w' => w'.cell? ⟨b5, 0, none⟩ = some (.int .i64 ka) ∧ w'.cell? ⟨b5, 1, none⟩ = some (.string ⟨ta.toArray⟩) ∧ w'.cell? ⟨b5, 2, none⟩ = some (.slice aa na ma) ∧ w'.cell? ⟨b5, 3, none⟩ = some (.int .i64 oa) ∧ w'.cell? ⟨b6, 0, none⟩ = some (.int .i64 kb) ∧ w'.cell? ⟨b6, 1, none⟩ = some (.string ⟨tb'.toArray⟩) ∧ w'.cell? ⟨b6, 2, none⟩ = some (.slice ab nb mb) ∧ w'.cell? ⟨b6, 3, none⟩ = some (.int .i64 ob) ∧ w'.cell? ⟨b7, 0, none⟩ = some (.int .i64 ka) ∧ w'.cell? ⟨b7, 1, none⟩ = some (.string ⟨ta.toArray⟩) ∧ w'.cell? ⟨b7, 2, none⟩ = some (.slice xa xn xm) ∧ w'.cell? ⟨b7, 3, none⟩ = some (.int .i64 oa) ∧ w'.cell? ⟨b8, 0, none⟩ = some (.int .i64 kb) ∧ w'.cell? ⟨b8, 1, none⟩ = some (.string ⟨tb'.toArray⟩) ∧ w'.cell? ⟨b8, 2, none⟩ = some (.slice ya yn ym) ∧ w'.cell? ⟨b8, 3, none⟩ = some (.int .i64 ob))
        ((refine keep16 z50 z51 z52 z53 z60 z61 z62 z63 z70 z71 z72 z73 z80 z81 z82 z83 ?_; repeat (first | with_reducible exact grown_drew1 _ | with_reducible exact World.grownBy.refl _ _ | with_reducible refine grown_alloc ?_ | with_reducible refine grown_drewOf ?_)))
        (fail)
      all_goals
        go_wp2_with fail
        go_meet
        case rel =>
          refine ⟨_, _, _, _, rfl, rfl, rd_two (T := 26) (fr := (0, 0)) ?_ (RA1.out.grown ?_) (RB1.out.grown ?_), rd_two (T := 39) (fr := (0, 0)) ?_ (RX1.out.grown ?_) (RY1.out.grown ?_), ?_⟩
          · repeat (first | with_reducible refine far_alloc (by first | omega | (simp only [World.size_alloc, World.size_setCell, World.size_drew]; done) | (simp only [World.size_alloc, World.size_setCell, World.size_drew]; omega)) ?_ | with_reducible exact new_alloc (by first | omega | (simp only [World.size_alloc, World.size_setCell, World.size_drew]; done) | (simp only [World.size_alloc, World.size_setCell, World.size_drew]; omega)) | with_reducible refine at_drew ?_)
          · repeat (first | with_reducible exact grown_drew1 _ | with_reducible exact World.grownBy.refl _ _ | with_reducible refine grown_alloc ?_ | with_reducible refine grown_drewOf ?_)
          · repeat (first | with_reducible exact grown_drew1 _ | with_reducible exact World.grownBy.refl _ _ | with_reducible refine grown_alloc ?_ | with_reducible refine grown_drewOf ?_)
          · repeat (first | with_reducible refine far_alloc (by first | omega | (simp only [World.size_alloc, World.size_setCell, World.size_drew]; done) | (simp only [World.size_alloc, World.size_setCell, World.size_drew]; omega)) ?_ | with_reducible exact new_alloc (by first | omega | (simp only [World.size_alloc, World.size_setCell, World.size_drew]; done) | (simp only [World.size_alloc, World.size_setCell, World.size_drew]; omega)) | with_reducible refine at_drew ?_)
          · repeat (first | with_reducible exact grown_drew1 _ | with_reducible exact World.grownBy.refl _ _ | with_reducible refine grown_alloc ?_ | with_reducible refine grown_drewOf ?_)
          · repeat (first | with_reducible exact grown_drew1 _ | with_reducible exact World.grownBy.refl _ _ | with_reducible refine grown_alloc ?_ | with_reducible refine grown_drewOf ?_)
          · repeat (first | with_reducible exact grown_drew1 _ | with_reducible exact World.grownBy.refl _ _ | with_reducible refine grown_alloc ?_ | with_reducible refine grown_drewOf ?_)
  case first =>
    go_region_held3 (fun w' => w'.cell? ⟨b5, 0, none⟩ = some (.int .i64 ka) ∧ w'.cell? ⟨b5, 1, none⟩ = some (.string ⟨ta.toArray⟩) ∧ w'.cell? ⟨b5, 2, none⟩ = some (.slice aa na ma) ∧ w'.cell? ⟨b5, 3, none⟩ = some (.int .i64 oa) ∧ w'.cell? ⟨b6, 0, none⟩ = some (.int .i64 kb) ∧ w'.cell? ⟨b6, 1, none⟩ = some (.string ⟨tb'.toArray⟩) ∧ w'.cell? ⟨b6, 2, none⟩ = some (.slice ab nb mb) ∧ w'.cell? ⟨b6, 3, none⟩ = some (.int .i64 ob))
      ((refine keep8 z50 z51 z52 z53 z60 z61 z62 z63 ?_; repeat (first | with_reducible exact hgW2 | with_reducible exact hgW1 | with_reducible exact grown_drew1 _ | with_reducible exact World.grownBy.refl _ _ | with_reducible refine grown_alloc ?_ | with_reducible refine grown_drewOf ?_ | with_reducible refine grown_set ?_ (by omega))))
      (first
        | (go_at_call 18; have hq := hgW1; clear hq; refine (conv_any 1000 (by omega) cb SB.out _ Fb kb ob tb' ab nb mb (RB'.out.grown (by repeat (first | with_reducible exact hgW2 | with_reducible exact hgW1 | with_reducible exact grown_drew1 _ | with_reducible exact World.grownBy.refl _ _ | with_reducible refine grown_alloc ?_ | with_reducible refine grown_drewOf ?_ | with_reducible refine grown_set ?_ (by omega))))).mono ?_; rintro e V2 ⟨ya, yn, ym, F2, rfl, hrd2, hlow2, hg2⟩; have hgW2 : W.grownBy V2 none := (by refine World.grownBy.trans ?_ hg2; repeat (first | with_reducible exact hgW2 | with_reducible exact hgW1 | with_reducible exact grown_drew1 _ | with_reducible exact World.grownBy.refl _ _ | with_reducible refine grown_alloc ?_ | with_reducible refine grown_drewOf ?_ | with_reducible refine grown_set ?_ (by omega))); have sz2 := hg2.size; have f2 := (fun (b i : Nat) (h : b < _) => hg2.cell_far ⟨b, i, none⟩ h (by simp)); have f2' := (fun (b i : Nat) (h : b < _) => hg2.frozen_far ⟨b, i, none⟩ h (by simp)); (try simp at sz2); (try have p1 : W.heap.size < V2.heap.size := (by omega)); (try have p2 : W.heap.size + 1 < V2.heap.size := (by omega)); (try have p3 : V1.heap.size < V2.heap.size := (by omega)); (try have p4 : V1.heap.size + 1 < V2.heap.size := (by omega)); have Hrd2 := Lib.hid hrd2; have Hlow2 := Lib.hid hlow2; clear hrd2 hlow2)
        | (go_at_call 18; refine (conv_any 1000 (by omega) ca SA.out _ Fa ka oa ta aa na ma (RA'.out.grown (by repeat (first | with_reducible exact hgW2 | with_reducible exact hgW1 | with_reducible exact grown_drew1 _ | with_reducible exact World.grownBy.refl _ _ | with_reducible refine grown_alloc ?_ | with_reducible refine grown_drewOf ?_ | with_reducible refine grown_set ?_ (by omega))))).mono ?_; rintro e V1 ⟨xa, xn, xm, F1, rfl, hrd1, hlow1, hg1⟩; have hgW1 : W.grownBy V1 none := (by refine World.grownBy.trans ?_ hg1; repeat (first | with_reducible exact hgW2 | with_reducible exact hgW1 | with_reducible exact grown_drew1 _ | with_reducible exact World.grownBy.refl _ _ | with_reducible refine grown_alloc ?_ | with_reducible refine grown_drewOf ?_ | with_reducible refine grown_set ?_ (by omega))); have sz1 := hg1.size; have f1 := (fun (b i : Nat) (h : b < _) => hg1.cell_far ⟨b, i, none⟩ h (by simp)); have f1' := (fun (b i : Nat) (h : b < _) => hg1.frozen_far ⟨b, i, none⟩ h (by simp)); (try simp at sz1); (try have o1 : W.heap.size < V1.heap.size := (by omega)); (try have o2 : W.heap.size + 1 < V1.heap.size := (by omega)); have Hrd1 := Lib.hid hrd1; have Hlow1 := Lib.hid hlow1; clear hrd1 hlow1))
    all_goals
      go_wp2_with fail
      go_meet
      case rel =>
        refine ⟨_, _, xa, xn, xm, ya, yn, ym, F1, F2, rfl, rfl, ?_, ?_, ?_, ?_, ?_⟩
        · repeat (first | with_reducible exact hgW2 | with_reducible exact hgW1 | with_reducible exact grown_drew1 _ | with_reducible exact World.grownBy.refl _ _ | with_reducible refine grown_alloc ?_ | with_reducible refine grown_drewOf ?_ | with_reducible refine grown_set ?_ (by omega))
        · repeat (first | with_reducible rfl | with_reducible refine chain_same (z0 := .int .i64 0) (z1 := .string ⟨#[]⟩) (z2 := .slice none 0 0) (z3 := .int .i64 0) ?_ | with_reducible refine far_set (by first | omega | (simp only [World.size_alloc, World.size_setCell, World.size_drew]; done) | (simp only [World.size_alloc, World.size_setCell, World.size_drew]; omega)) ?_ | with_reducible refine far_alloc (by first | omega | (simp only [World.size_alloc, World.size_setCell, World.size_drew]; done) | (simp only [World.size_alloc, World.size_setCell, World.size_drew]; omega)) ?_ | with_reducible exact new_alloc (by first | omega | (simp only [World.size_alloc, World.size_setCell, World.size_drew]; done) | (simp only [World.size_alloc, World.size_setCell, World.size_drew]; omega)) | with_reducible refine at_drew ?_ | with_reducible refine at_grown hg2 (by first | omega | (simp only [World.size_alloc, World.size_setCell, World.size_drew]; done) | (simp only [World.size_alloc, World.size_setCell, World.size_drew]; omega)) ?_ | with_reducible refine at_grown hg1 (by first | omega | (simp only [World.size_alloc, World.size_setCell, World.size_drew]; done) | (simp only [World.size_alloc, World.size_setCell, World.size_drew]; omega)) ?_)
        · repeat (first | with_reducible rfl | with_reducible refine chain_same (z0 := .int .i64 0) (z1 := .string ⟨#[]⟩) (z2 := .slice none 0 0) (z3 := .int .i64 0) ?_ | with_reducible refine far_set (by first | omega | (simp only [World.size_alloc, World.size_setCell, World.size_drew]; done) | (simp only [World.size_alloc, World.size_setCell, World.size_drew]; omega)) ?_ | with_reducible refine far_alloc (by first | omega | (simp only [World.size_alloc, World.size_setCell, World.size_drew]; done) | (simp only [World.size_alloc, World.size_setCell, World.size_drew]; omega)) ?_ | with_reducible exact new_alloc (by first | omega | (simp only [World.size_alloc, World.size_setCell, World.size_drew]; done) | (simp only [World.size_alloc, World.size_setCell, World.size_drew]; omega)) | with_reducible refine at_drew ?_ | with_reducible refine at_grown hg2 (by first | omega | (simp only [World.size_alloc, World.size_setCell, World.size_drew]; done) | (simp only [World.size_alloc, World.size_setCell, World.size_drew]; omega)) ?_ | with_reducible refine at_grown hg1 (by first | omega | (simp only [World.size_alloc, World.size_setCell, World.size_drew]; done) | (simp only [World.size_alloc, World.size_setCell, World.size_drew]; omega)) ?_)
        · refine Hrd1.out.mono (fun b j hf => World.cell?_of_block ?_) (fun _ _ h => h)
          obtain ⟨lo, hi⟩ := Hlow1.out b j hf
          (try simp only [World.size_alloc, World.size_setCell, World.size_drew] at lo)
          repeat (first | with_reducible rfl | with_reducible refine chain_same (z0 := .int .i64 0) (z1 := .string ⟨#[]⟩) (z2 := .slice none 0 0) (z3 := .int .i64 0) ?_ | with_reducible refine far_set (by first | omega | (simp only [World.size_alloc, World.size_setCell, World.size_drew]; done) | (simp only [World.size_alloc, World.size_setCell, World.size_drew]; omega)) ?_ | with_reducible refine far_alloc (by first | omega | (simp only [World.size_alloc, World.size_setCell, World.size_drew]; done) | (simp only [World.size_alloc, World.size_setCell, World.size_drew]; omega)) ?_ | with_reducible exact new_alloc (by first | omega | (simp only [World.size_alloc, World.size_setCell, World.size_drew]; done) | (simp only [World.size_alloc, World.size_setCell, World.size_drew]; omega)) | with_reducible refine at_drew ?_ | with_reducible refine at_grown hg2 (by first | omega | (simp only [World.size_alloc, World.size_setCell, World.size_drew]; done) | (simp only [World.size_alloc, World.size_setCell, World.size_drew]; omega)) ?_ | with_reducible refine at_grown hg1 (by first | omega | (simp only [World.size_alloc, World.size_setCell, World.size_drew]; done) | (simp only [World.size_alloc, World.size_setCell, World.size_drew]; omega)) ?_)
        · refine Hrd2.out.mono (fun b j hf => World.cell?_of_block ?_) (fun _ _ h => h)
          obtain ⟨lo, hi⟩ := Hlow2.out b j hf
          (try simp only [World.size_alloc, World.size_setCell, World.size_drew] at lo)
          repeat (first | with_reducible rfl | with_reducible refine chain_same (z0 := .int .i64 0) (z1 := .string ⟨#[]⟩) (z2 := .slice none 0 0) (z3 := .int .i64 0) ?_ | with_reducible refine far_set (by first | omega | (simp only [World.size_alloc, World.size_setCell, World.size_drew]; done) | (simp only [World.size_alloc, World.size_setCell, World.size_drew]; omega)) ?_ | with_reducible refine far_alloc (by first | omega | (simp only [World.size_alloc, World.size_setCell, World.size_drew]; done) | (simp only [World.size_alloc, World.size_setCell, World.size_drew]; omega)) ?_ | with_reducible exact new_alloc (by first | omega | (simp only [World.size_alloc, World.size_setCell, World.size_drew]; done) | (simp only [World.size_alloc, World.size_setCell, World.size_drew]; omega)) | with_reducible refine at_drew ?_ | with_reducible refine at_grown hg2 (by first | omega | (simp only [World.size_alloc, World.size_setCell, World.size_drew]; done) | (simp only [World.size_alloc, World.size_setCell, World.size_drew]; omega)) ?_ | with_reducible refine at_grown hg1 (by first | omega | (simp only [World.size_alloc, World.size_setCell, World.size_drew]; done) | (simp only [World.size_alloc, World.size_setCell, World.size_drew]; omega)) ?_)
end Go.Proofs.YtnaabplppfikcaaDoor
