/- The walk of SexprSpacing. -/
import Derived.Test.YtnaabplppfikcaaDoorSpaced
import Derived.Test.YtnaabplppfikcaaDoorMade
import Derived.Test.YtnaabplppfikcaaDoorEqual
import Derived.Test.YtnaabplppfikcaaDoorCheck
import Derived.Test.YtnaabplppfikcaaDoorMod
import Derived.Deep.Cut
namespace Go.Proofs.YtnaabplppfikcaaDoor
open Go.RowKit

theorem grown_alloc {W Z : World} {o : Obj} (h : W.grownBy Z none) : W.grownBy (Z.alloc o) none := h.trans (World.grownBy_alloc _ _ _)
theorem grown_set {W Z : World} {g o : Nat} {v : Value} (h : W.grownBy Z none) (hp : W.heap.size ≤ g) : W.grownBy (Z.setCell ⟨g, o, none⟩ v) none :=
  ⟨h.os, h.tape, h.output, by simp only [World.size_setCell]; exact h.size, fun i hi hn => (setCell_far (by omega)).trans (h.block i hi hn)⟩
theorem grown_drew1 (W : World) : W.grownBy W.drew none := grown_drewN W 1 none
theorem grown_drewOf {W Z : World} (h : W.grownBy Z none) : W.grownBy Z.drew none := h.trans (grown_drewN Z 1 none)
theorem drew_heap (w : World) : w.drew.heap = w.heap := rfl

theorem chain_same {X : World} {g : Nat} {z0 z1 z2 z3 a b c d : Value} {T : TypeId} (h : X.heap[g]? = some (.cells #[z0, z1, z2, z3] T (0, 0))) : ((((X.setCell ⟨g, 0, none⟩ a).setCell ⟨g, 1, none⟩ b).setCell ⟨g, 2, none⟩ c).setCell ⟨g, 3, none⟩ d).heap[g]? = some (.cells #[a, b, c, d] T (0, 0)) := set4_cells h
theorem far_set {X : World} {g b o : Nat} {v : Value} {R : Option Obj} (hb : b ≠ g) (h : X.heap[b]? = R) : (X.setCell ⟨g, o, none⟩ v).heap[b]? = R := (setCell_far hb).trans h
theorem far_alloc {X : World} {b : Nat} {o : Obj} {R : Option Obj} (hb : b < X.heap.size) (h : X.heap[b]? = R) : (X.alloc o).heap[b]? = R := (Below.heap_alloc X o b hb).trans h
theorem new_alloc {X : World} {b : Nat} {o : Obj} (hb : b = X.heap.size) : (X.alloc o).heap[b]? = some o := by rw [hb]; exact heap_alloc_new X o
theorem at_drew {X : World} {b : Nat} {R : Option Obj} (h : X.heap[b]? = R) : X.drew.heap[b]? = R := h
theorem at_grown {X V : World} {b : Nat} {R : Option Obj} (hg : X.grownBy V none) (hb : b < X.heap.size) (h : X.heap[b]? = R) : V.heap[b]? = R := (hg.block b hb (by simp)).trans h


theorem chain2_same {X : World} {g : Nat} {z0 z1 a b : Value} {T : TypeId} (h : X.heap[g]? = some (.cells #[z0, z1] T (0, 0))) : ((X.setCell ⟨g, 0, none⟩ a).setCell ⟨g, 1, none⟩ b).heap[g]? = some (.cells #[a, b] T (0, 0)) := setCell_row (setCell_row h)
theorem at_grownS {X V : World} {b sb : Nat} {R : Option Obj} (hg : X.grownBy V (some sb)) (hb : b < X.heap.size) (hn : b ≠ sb) (h : X.heap[b]? = R) : V.heap[b]? = R := (hg.block b hb (fun e => hn (Option.some.inj e))).trans h
theorem keepSep {W Z : World} {gb go gc b5 : Nat} {v0 v1 v2 v3 : Value} (ht : SepTab W gb go gc) (h0 : W.cell? ⟨b5, 0, none⟩ = some v0) (h1 : W.cell? ⟨b5, 1, none⟩ = some v1) (h2 : W.cell? ⟨b5, 2, none⟩ = some v2) (h3 : W.cell? ⟨b5, 3, none⟩ = some v3) (h : W.grownBy Z none) :
    Z.cell? ⟨0, 0, none⟩ = some (.slice (some ⟨gb, go, none⟩) 6 gc) ∧ (∀ i, i < 6 → Z.cell? ⟨gb, go + i, none⟩ = some (.string ⟨(sepT i).toArray⟩)) ∧ Z.cell? ⟨b5, 0, none⟩ = some v0 ∧ Z.cell? ⟨b5, 1, none⟩ = some v1 ∧ Z.cell? ⟨b5, 2, none⟩ = some v2 ∧ Z.cell? ⟨b5, 3, none⟩ = some v3 :=
  ⟨h.cell ht.gv (by simp), fun i hi => h.cell (ht.ss i hi) (by simp), h.cell h0 (by simp), h.cell h1 (by simp), h.cell h2 (by simp), h.cell h3 (by simp)⟩
theorem SepTab.grown0 {w w' : World} {gb go gc : Nat} (h : SepTab w gb go gc) (hg : w.grownBy w' none) : SepTab w' gb go gc := ⟨hg.cell h.gv (by simp), fun i hi => hg.cell (h.ss i hi) (by simp)⟩
theorem set_same {X : World} {p : Addr} {v : Value} (h : X.cell? p = some v) (q : Addr) : (X.setCell p v).cell? q = X.cell? q := by
  by_cases hq : p = q
  · subst hq
    rw [World.cell?_setCell_same _ _ _ (by rw [h]), h]
  · exact World.cell?_setCell_other _ _ _ _ hq

theorem keep9 {W Z : World} {p0 p1 p2 p3 p4 p5 p6 p7 p8 : Addr} {v0 v1 v2 v3 v4 v5 v6 v7 v8 : Value} (h0 : W.cell? p0 = some v0) (h1 : W.cell? p1 = some v1) (h2 : W.cell? p2 = some v2) (h3 : W.cell? p3 = some v3) (h4 : W.cell? p4 = some v4) (h5 : W.cell? p5 = some v5) (h6 : W.cell? p6 = some v6) (h7 : W.cell? p7 = some v7) (h8 : W.cell? p8 = some v8) (h : W.grownBy Z none) :
    Z.cell? p0 = some v0 ∧ Z.cell? p1 = some v1 ∧ Z.cell? p2 = some v2 ∧ Z.cell? p3 = some v3 ∧ Z.cell? p4 = some v4 ∧ Z.cell? p5 = some v5 ∧ Z.cell? p6 = some v6 ∧ Z.cell? p7 = some v7 ∧ Z.cell? p8 = some v8 :=
  ⟨h.cell h0 (by simp), h.cell h1 (by simp), h.cell h2 (by simp), h.cell h3 (by simp), h.cell h4 (by simp), h.cell h5 (by simp), h.cell h6 (by simp), h.cell h7 (by simp), h.cell h8 (by simp)⟩
theorem rd_set2 {V : World} {b7 : Nat} {QF : Fixed} {d : Dat} {v : Value} {T : TypeId} (hrow : V.heap[b7]? = some (.cells #[.int .i64 0, .int .i64 0] T (0, 0))) (h : Rd V QF 4 d v) : Rd ((V.setCell ⟨b7, 0, none⟩ (.int .i64 0)).setCell ⟨b7, 1, none⟩ (.int .i64 0)) QF 4 d v := by
  have h0 : V.cell? ⟨b7, 0, none⟩ = some (.int .i64 0) := by rw [cell_of_row V _ _ _ _ _ hrow]; rfl
  have h1 : V.cell? ⟨b7, 1, none⟩ = some (.int .i64 0) := by rw [cell_of_row V _ _ _ _ _ hrow]; rfl
  exact h.mono (fun b j _ => (set_same ((set_same h0 _).trans h1) _).trans (set_same h0 _)) (fun _ _ h => h)
theorem eqf_size : ∀ {a b : Fr}, a.eqf b = true → a.size = b.size
  | .nil, .nil, _ => rfl
  | .cons k t c _ r, .cons k' t' c' _ r', h => by
    simp only [Fr.eqf, Bool.and_eq_true] at h
    simp only [Fr.size, eqf_size h.1.2, eqf_size h.2]
  | .nil, .cons _ _ _ _ _, h => by simp [Fr.eqf] at h
  | .cons _ _ _ _ _, .nil, h => by simp [Fr.eqf] at h

/-- What region 2 leaves. -/
structure Spc (W : World) (k : Int) (t : List UInt8) (c : Fr) (b7 : Nat) (qa : Option Addr) (qn qc : Nat) (QF : Fixed) (c' : Fr) (o' : Int) (Z : World) : Prop where
  grown : W.grownBy Z none
  row : Z.heap[b7]? = some (.cells #[.int .i64 0, .int .i64 0] 33 (0, 0))
  rd : Rd Z QF 4 (Fr.cons k t c' o' .nil).dat (.slice qa qn qc)
  eqf : c'.eqf c = true

set_option maxRecDepth 100000 in
set_option maxHeartbeats 6400000 in
theorem law_spacing (w : World) (a0 a1 : Option Addr) (l0 l1 c0 c1 wb wo wc tb to tc gb go gc : Nat) (h0 : IntsAt w a0 l0) (h1 : IntsAt w a1 l1) (ht : Tabs w wb wo wc tb to tc) (hq : SepTab w gb go gc) :
    Calls Tryd.prog 4 #[.slice a0 l0 c0, .slice a1 l1 c1] w fun e w' => e = .returned (.bool true) ∧ Below w.heap.size w w' := by
  have H0 := Lib.hid h0
  have H1 := Lib.hid h1
  have HT := Lib.hid ht
  have HQ := Lib.hid hq
  have hl1 : l1 ≤ 17592186044416 := h1.1
  clear h0 h1 ht hq
  go_enter Tryd.func4, Tryd.ntmps4
  go_wp2_with fail
  refine (new_any w a0 l0 c0 H0.out).mono ?_
  rintro e W1 ⟨rfl, hs1, hg1, _⟩
  have S1 := Lib.hid hs1
  have G1 := Lib.hid hg1
  clear hs1 hg1
  go_wp2_with fail
  refine (any_any false 4 (by omega) 4 rfl W1 w.heap.size wb wo wc tb to tc S1.out (HT.out.grown0 G1.out) HT.out.free).mono ?_
  intro e W2 hd
  obtain ⟨ka, ta, ca, oa, aa, na, ma, Fa, rfl, hmade⟩ := made hd G1.out
  have MA := Lib.hid hmade
  clear hd hmade S1 G1
  go_wp2_with fail
  obtain ⟨W, hW⟩ : ∃ W, W2.alloc (.cells #[.int .i64 ka, .string ⟨ta.toArray⟩, .slice aa na ma, .int .i64 oa] 26) = W := ⟨_, rfl⟩
  have hg2 : W2.grownBy W none := by rw [← hW]; exact World.grownBy_alloc _ _ _
  have hr5 : W.heap[W2.heap.size]? = some (.cells #[.int .i64 ka, .string ⟨ta.toArray⟩, .slice aa na ma, .int .i64 oa] 26 (0, 0)) := by rw [← hW]; exact heap_alloc_new W2 _
  rw [hW]
  have RA : Hid (Rd W (fun b j => Fa b j ∧ There W b j) 4 ca.dat (.slice aa na ma)) := (MA.out.1.grown hg2).there
  have GW := Lib.hid (MA.out.2.2.trans hg2)
  have HTW := Lib.hid (HQ.out.grown0 GW.out)
  have HIW := Lib.hid (H1.out.grown GW.out)
  have HGA := Lib.hid MA.out.2.1
  have SA : Hid (ca.size ≤ 1000) := gen_small MA.out.2.1 (by omega)
  obtain ⟨b5, hb5⟩ : ∃ b, W2.heap.size = b := ⟨_, rfl⟩
  rw [hb5] at hr5 ⊢
  have z50 := row_c0 hr5
  have z51 := row_c1 hr5
  have z52 := row_c2 hr5
  have z53 := row_c3 hr5
  have n0 : 0 < W.heap.size := World.block_lt_of_cell? W _ HTW.out.gv
  have n1 : gb < W.heap.size := World.block_lt_of_cell? W _ (HTW.out.ss 0 (by omega))
  clear hW hg2 hb5 hr5 MA HT HQ H0 H1
  obtain ⟨r, hr⟩ : ∃ r : Nat, (l1 : Int) % 6 = (r : Int) := Int.eq_ofNat_of_zero_le (Int.emod_nonneg _ (by omega))
  have hr6 : r < 6 := by have := Int.emod_lt_of_pos (l1 : Int) (b := 6) (by omega); omega
  have HJ := Lib.hid hr
  have i0 : (0 : Int) ≤ (r : Int) := by omega
  have i1 : (r : Int) < 6 := by omega
  have hz0 : (sepT r).length ≤ 6 := (sep_all r hr6).2.2
  clear hr
  go_cut [6, 7] from 8 (fun s6 s7 wc => ∃ b7 qa qn qc QF c' o', s6 = .slice qa qn qc ∧ s7 = .pointer (some ⟨b7, 0, none⟩) ∧ Spc W ka ta ca b7 qa qn qc QF c' o' wc)
  case rest =>
    obtain ⟨b7, qa, qn, qc, QF, c', o', rfl, rfl, hsp⟩ := hcut
    rename World => Z
    have y7 : Z.cell? ⟨b7, 0, none⟩ = some (.int .i64 0) := by rw [cell_of_row Z _ _ _ _ _ hsp.row]; rfl
    replace z50 := hsp.grown.cell z50 (by simp)
    replace z51 := hsp.grown.cell z51 (by simp)
    replace z52 := hsp.grown.cell z52 (by simp)
    replace z53 := hsp.grown.cell z53 (by simp)
    have hqn := hsp.rd.form.1
    obtain ⟨xb, xo, xa, xn, xm, rfl, x0, x1, x2, x3, hx⟩ := hsp.rd.elem (i := 0) (k := ka) (t := ta) (c := c') (o := o') rfl
    simp only [Fr.len, Nat.zero_add] at hqn
    subst hqn
    simp only [Nat.zero_mul, Nat.add_zero] at x0 x1 x2 x3
    have RX := Lib.hid hx
    have RA2 := Lib.hid (RA.out.grown hsp.grown)
    have GZ := Lib.hid (GW.out.trans hsp.grown)
    have HE : Hid (((ka == ka) && (ta == ta) && c'.eqf ca) = true) := by show _ = _; simp [hsp.eqf]
    have HCS : Hid (c'.size ≤ 3000) := by rw [eqf_size hsp.eqf]; have := SA.out; show _ ≤ _; omega
    clear hsp hx RA GW HTW HIW HGA
    have hgC : Z.grownBy Z.drew none := grown_drew1 Z
    go_wp2_with fail
    go_region_held3 (fun w' => w'.cell? ⟨b7, 0, none⟩ = some (.int .i64 0) ∧ w'.cell? ⟨b5, 0, none⟩ = some (.int .i64 ka) ∧ w'.cell? ⟨b5, 1, none⟩ = some (.string ⟨ta.toArray⟩) ∧ w'.cell? ⟨b5, 2, none⟩ = some (.slice aa na ma) ∧ w'.cell? ⟨b5, 3, none⟩ = some (.int .i64 oa) ∧ w'.cell? ⟨xb, xo, none⟩ = some (.int .i64 ka) ∧ w'.cell? ⟨xb, xo + 1, none⟩ = some (.string ⟨ta.toArray⟩) ∧ w'.cell? ⟨xb, xo + 2, none⟩ = some (.slice xa xn xm) ∧ w'.cell? ⟨xb, xo + 3, none⟩ = some (.int .i64 o'))
      (with_reducible exact keep9 y7 z50 z51 z52 z53 x0 x1 x2 x3 hgC)
      (first
        | (go_at_call 15; refine (check_any _).mono ?_; rintro e U ⟨rfl, hb⟩; replace hgC := hgC.trans (grown_of_below hb); clear hb)
        | (go_at_call 18; refine (conv_any 1000 (by omega) ca SA.out _ _ ka oa ta aa na ma (RA2.out.grown hgC)).mono ?_; rintro e U ⟨ya, yn, ym, F2, rfl, hrd2, hlow2, hb⟩; replace hgC := hgC.trans hb; have RY := Lib.hid hrd2; clear hrd2 hlow2 hb)
        | (go_at_call 17; refine (equal_any 3000 (by omega) c' HCS.out ca _ QF F2 ka ka o' oa ta ta xa ya xn yn xm ym (RX.out.grown hgC) RY.out).mono ?_; rintro e U ⟨rfl, hb⟩; rw [HE.out]; replace hgC := hgC.trans hb; clear hb))
    go_wp2_with fail
    go_ret
    exact ⟨rfl, below_grown (GZ.out.trans hgC)⟩
  case first =>
    go_region_held3 (fun w' => w'.cell? ⟨0, 0, none⟩ = some (.slice (some ⟨gb, go, none⟩) 6 gc) ∧ (∀ i, i < 6 → w'.cell? ⟨gb, go + i, none⟩ = some (.string ⟨(sepT i).toArray⟩)) ∧ w'.cell? ⟨b5, 0, none⟩ = some (.int .i64 ka) ∧ w'.cell? ⟨b5, 1, none⟩ = some (.string ⟨ta.toArray⟩) ∧ w'.cell? ⟨b5, 2, none⟩ = some (.slice aa na ma) ∧ w'.cell? ⟨b5, 3, none⟩ = some (.int .i64 oa))
      ((refine keepSep HTW.out z50 z51 z52 z53 ?_; repeat (first | with_reducible exact hgW3 | with_reducible exact hgW2 | with_reducible exact hgW1 | with_reducible exact grown_drew1 _ | with_reducible exact World.grownBy.refl _ _ | with_reducible refine grown_alloc ?_ | with_reducible refine grown_drewOf ?_ | with_reducible refine grown_set ?_ (by omega))))
      (first
        | (go_at_call 14; refine (mod_any (l1 : Int) 6 (by omega) (by omega) _).mono ?_; rintro e X ⟨rfl, hX⟩; subst hX; rw [HJ.out])
        | (go_at_call 12; refine (new_any _ a1 l1 c1 (HIW.out.grown (by repeat (first | with_reducible exact hgW3 | with_reducible exact hgW2 | with_reducible exact hgW1 | with_reducible exact grown_drew1 _ | with_reducible exact World.grownBy.refl _ _ | with_reducible refine grown_alloc ?_ | with_reducible refine grown_drewOf ?_ | with_reducible refine grown_set ?_ (by omega))))).mono ?_; rintro e V1 ⟨rfl, hs1, hg1, hz1⟩; have hgW1 : W.grownBy V1 none := (by refine World.grownBy.trans ?_ hg1; repeat (first | with_reducible exact hgW3 | with_reducible exact hgW2 | with_reducible exact hgW1 | with_reducible exact grown_drew1 _ | with_reducible exact World.grownBy.refl _ _ | with_reducible refine grown_alloc ?_ | with_reducible refine grown_drewOf ?_ | with_reducible refine grown_set ?_ (by omega))); simp only [World.size_alloc, World.size_drew] at hs1 hz1; have f1 := (fun (b i : Nat) (h : b < _) => hg1.cell_far ⟨b, i, none⟩ h (by simp)); have f1' := (fun (b i : Nat) (h : b < _) => hg1.frozen_far ⟨b, i, none⟩ h (by simp)); have HS1 := Lib.hid hs1; clear hs1)
        | (go_at_call 13; refine (parse_any ((⟨(sepT r).toArray⟩ : ByteArray) ++ S2 ++ (⟨#[10, 59, 32, 101, 110, 100]⟩ : ByteArray)) _ (by omega)).mono ?_; intro e V3 hd; obtain ⟨qa, qn, qc, qk, qo, ql, QF, rfl, hrd, hb3, hm⟩ := hd.form; obtain ⟨c', o', heq, hp⟩ := spacing_parse HNT.out ⟨r, hr6, rfl⟩ (by omega) (by rw [bytes_len]; omega); rw [bytes_app, bytes_app, bytes_mk, show bytes (⟨#[10, 59, 32, 101, 110, 100]⟩ : ByteArray) = [10, 59, 32, 101, 110, 100] from rfl, hp] at hm; obtain ⟨rfl, rfl, rfl⟩ := hm; have hg3 := grown_of_below hb3; have hgW3 : W.grownBy V3 none := (by refine World.grownBy.trans ?_ hg3; repeat (first | with_reducible exact hgW3 | with_reducible exact hgW2 | with_reducible exact hgW1 | with_reducible exact grown_drew1 _ | with_reducible exact World.grownBy.refl _ _ | with_reducible refine grown_alloc ?_ | with_reducible refine grown_drewOf ?_ | with_reducible refine grown_set ?_ (by omega))); have sz3 := hg3.size; (try simp at sz3); (try have p3 : W.heap.size < V3.heap.size := (by omega)); (try have p4 : W.heap.size + 1 < V3.heap.size := (by omega)); (try have p5 : V2.heap.size < V3.heap.size := (by omega)); have f3 := (fun (b i : Nat) (h : b < _) => hg3.cell_far ⟨b, i, none⟩ h (by simp)); have f3' := (fun (b i : Nat) (h : b < _) => hg3.frozen_far ⟨b, i, none⟩ h (by simp)); have HRd := Lib.hid hrd; have HEq := Lib.hid heq; clear hd hrd hb3 heq hp)
        | (go_at_call 16; refine (spaced_any 1000 (by omega) ca SA.out 4 _ _ gb go gc _ ka oa ta aa na ma (by omega) HGA.out (by first | exact HS1.out | exact HS1.out.below ((Below.refl _ _).alloc (Nat.le_refl _) _)) (HTW.out.grown0 (by repeat (first | with_reducible exact hgW3 | with_reducible exact hgW2 | with_reducible exact hgW1 | with_reducible exact grown_drew1 _ | with_reducible exact World.grownBy.refl _ _ | with_reducible refine grown_alloc ?_ | with_reducible refine grown_drewOf ?_ | with_reducible refine grown_set ?_ (by omega)))) ⟨by omega, by omega⟩ (fun b j hf => by have := hf.2; unfold There at this; omega) (RA.out.grown (by repeat (first | with_reducible exact hgW3 | with_reducible exact hgW2 | with_reducible exact hgW1 | with_reducible exact grown_drew1 _ | with_reducible exact World.grownBy.refl _ _ | with_reducible refine grown_alloc ?_ | with_reducible refine grown_drewOf ?_ | with_reducible refine grown_set ?_ (by omega))))).mono ?_; rintro e V2 ⟨S2, rfl, hnt, hsz2, hs2, hg2⟩; have hgW2 : W.grownBy V2 none := (by refine World.grownBy.andThen ?_ hg2 (fun j e => .inl (by cases e; omega)); repeat (first | with_reducible exact hgW3 | with_reducible exact hgW2 | with_reducible exact hgW1 | with_reducible exact grown_drew1 _ | with_reducible exact World.grownBy.refl _ _ | with_reducible refine grown_alloc ?_ | with_reducible refine grown_drewOf ?_ | with_reducible refine grown_set ?_ (by omega))); have sz2 := hg2.size; (try simp at sz2); (try have p1 : W.heap.size < V2.heap.size := (by omega)); (try have p2 : W.heap.size + 1 < V2.heap.size := (by omega)); have hsum0 : S2.size ≤ 20000 := (Nat.le_trans hsz2 (wide_small (by omega))); have hsum1 : ¬ 9223372036854775807 < (sepT r).length + S2.size := (by omega); have hsum2 : ¬ 9223372036854775807 < (sepT r).length + S2.size + 6 := (by omega); have hsum3 : ((⟨(sepT r).toArray⟩ : ByteArray) ++ S2 ++ (⟨#[10, 59, 32, 101, 110, 100]⟩ : ByteArray)).size ≤ 30000 := (by rw [← bytes_len, bytes_app, bytes_app, List.length_append, List.length_append, bytes_mk, bytes_len]; show (sepT r).length + S2.size + 6 ≤ _; omega); have f2 := (fun (b i : Nat) (h : b < _) (hn : b ≠ _) => hg2.cell_far ⟨b, i, none⟩ h (fun e => hn (Option.some.inj e))); have f2' := (fun (b i : Nat) (h : b < _) (hn : b ≠ _) => hg2.frozen_far ⟨b, i, none⟩ h (fun e => hn (Option.some.inj e))); have HNT := Lib.hid hnt; clear hnt hsz2 hs2))
    all_goals
      go_wp2_with fail
      go_meet
      case rel =>
        refine ⟨_, qa, qn, qc, QF, c', o', rfl, rfl, ?_, ?_, ?_, HEq.out⟩
        · repeat (first | with_reducible exact hgW3 | with_reducible exact hgW2 | with_reducible exact hgW1 | with_reducible exact grown_drew1 _ | with_reducible exact World.grownBy.refl _ _ | with_reducible refine grown_alloc ?_ | with_reducible refine grown_drewOf ?_ | with_reducible refine grown_set ?_ (by omega))
        · repeat (first | with_reducible rfl | with_reducible refine chain2_same (z0 := .int .i64 0) (z1 := .int .i64 0) ?_ | with_reducible refine far_set (by first | omega | (simp only [World.size_alloc, World.size_setCell, World.size_drew]; done) | (simp only [World.size_alloc, World.size_setCell, World.size_drew]; omega)) ?_ | with_reducible refine far_alloc (by first | omega | (simp only [World.size_alloc, World.size_setCell, World.size_drew]; done) | (simp only [World.size_alloc, World.size_setCell, World.size_drew]; omega)) ?_ | with_reducible exact new_alloc (by first | omega | (simp only [World.size_alloc, World.size_setCell, World.size_drew]; done) | (simp only [World.size_alloc, World.size_setCell, World.size_drew]; omega)) | with_reducible refine at_drew ?_ | with_reducible refine at_grown hg3 (by first | omega | (simp only [World.size_alloc, World.size_setCell, World.size_drew]; done) | (simp only [World.size_alloc, World.size_setCell, World.size_drew]; omega)) ?_ | with_reducible refine at_grownS hg2 (by first | omega | (simp only [World.size_alloc, World.size_setCell, World.size_drew]; done) | (simp only [World.size_alloc, World.size_setCell, World.size_drew]; omega)) (by first | omega | (simp only [World.size_alloc, World.size_setCell, World.size_drew]; done) | (simp only [World.size_alloc, World.size_setCell, World.size_drew]; omega)) ?_ | with_reducible refine at_grown hg1 (by first | omega | (simp only [World.size_alloc, World.size_setCell, World.size_drew]; done) | (simp only [World.size_alloc, World.size_setCell, World.size_drew]; omega)) ?_)
        · first
            | exact HRd.out.grown (World.grownBy_alloc _ _ _)
            | (refine rd_set2 (T := 33) ?_ HRd.out
               repeat (first | with_reducible exact new_alloc (by first | omega | (simp only [World.size_alloc, World.size_setCell, World.size_drew]; done) | (simp only [World.size_alloc, World.size_setCell, World.size_drew]; omega)) | with_reducible refine far_alloc (by first | omega | (simp only [World.size_alloc, World.size_setCell, World.size_drew]; done) | (simp only [World.size_alloc, World.size_setCell, World.size_drew]; omega)) ?_ | with_reducible refine at_drew ?_ | with_reducible refine at_grown hg3 (by first | omega | (simp only [World.size_alloc, World.size_setCell, World.size_drew]; done) | (simp only [World.size_alloc, World.size_setCell, World.size_drew]; omega)) ?_ | with_reducible refine at_grownS hg2 (by first | omega | (simp only [World.size_alloc, World.size_setCell, World.size_drew]; done) | (simp only [World.size_alloc, World.size_setCell, World.size_drew]; omega)) (by first | omega | (simp only [World.size_alloc, World.size_setCell, World.size_drew]; done) | (simp only [World.size_alloc, World.size_setCell, World.size_drew]; omega)) ?_ | with_reducible refine at_grown hg1 (by first | omega | (simp only [World.size_alloc, World.size_setCell, World.size_drew]; done) | (simp only [World.size_alloc, World.size_setCell, World.size_drew]; omega)) ?_))
end Go.Proofs.YtnaabplppfikcaaDoor
