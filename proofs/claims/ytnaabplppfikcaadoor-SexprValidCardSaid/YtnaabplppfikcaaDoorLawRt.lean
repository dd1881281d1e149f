/- The walk of SexprRoundTrip. -/
import Derived.Test.YtnaabplppfikcaaDoorFormat
import Derived.Test.YtnaabplppfikcaaDoorLawSp
namespace Go.Proofs.YtnaabplppfikcaaDoor
open Go.RowKit

theorem wordT_v : ∀ i, i < 16 → allB wordB (wordT i) = true := by decide
theorem strT_v : ∀ i, i < 6 → allB stringB (strT i) = true := by decide
theorem gen_valid : ∀ (l : Fr) (d D : Nat), Gen false l d → d ≤ D → l.validF D = true
  | .nil, _, _, _, _ => rfl
  | .cons k t c o r, d, D, h, hD => by
    rw [validF_cons, gen_valid r d D h.2 hD, Bool.and_true]
    rcases h.1 with ⟨rfl, ⟨i, hi, rfl⟩, rfl, _⟩ | ⟨rfl, ⟨i, hi, rfl⟩, rfl, _⟩ | ⟨h0, rfl, rfl, _, _, hg⟩ | ⟨hb, _⟩ | ⟨hb, _⟩
    · have h1 := wordT_ok i hi
      have h2 : 0 < (wordT i).length := List.length_pos_iff.2 h1.1
      simp [vnode, Fr.len, wordT_v i hi, h1.2.2, h2]
    · have h1 := (strT_ok i hi).2.1
      have h2 : (strT i).length ≤ 2000 := by omega
      simp [vnode, Fr.len, strT_v i hi, h2]
    · have h1 := gen_valid c (d - 1) (D - 1) hg (by omega)
      have h2 : 0 < D := by omega
      simp [vnode, h1, h2]
    · cases hb
    · cases hb
theorem gen_short : ∀ (l : Fr) (d : Nat) {bad : Bool}, Gen bad l d → l.short
  | .nil, _, _, _ => trivial
  | .cons k t c o r, d, bad, h => by
    have hw : ∀ i, i < 16 → (wordT i).length ≤ 1000000 := by decide
    have hs : ∀ i, i < 6 → (strT i).length ≤ 1000000 := by decide
    have hr := gen_short r d h.2
    rcases h.1 with ⟨rfl, ⟨i, hi, rfl⟩, rfl, _⟩ | ⟨rfl, ⟨i, hi, rfl⟩, rfl, _⟩ | ⟨_, rfl, rfl, _, _, hg⟩ | ⟨_, _, _, ⟨i, hi, rfl⟩, _, j, hj, rfl⟩ | ⟨_, _, ⟨i, hi, rfl⟩, rfl⟩
    · exact ⟨hw i hi, trivial, hr⟩
    · exact ⟨hs i hi, trivial, hr⟩
    · exact ⟨Nat.zero_le _, gen_short c (d - 1) hg, hr⟩
    · exact ⟨hs i hi, ⟨hw j hj, trivial, trivial⟩, hr⟩
    · exact ⟨hs i hi, trivial, hr⟩
theorem rt_parse {k o : Int} {t : List UInt8} {c : Fr} {d : Nat} (h : Gen false (.cons k t c o .nil) d) (hd : d ≤ 30) (hl : (ntxt k t c).length ≤ 60000) : ∃ c', c'.eqf c = true ∧ parse (ntxt k t c) = .ok (.cons k t c' 0 .nil) := by
  obtain ⟨c', hc', h1⟩ := go_node1 (fun s hs => Gap.sep hs) (gen_node h) [] 0 0 .nil [] Stops.nil (by simp; omega)
  refine ⟨c', hc', ?_⟩
  rw [List.append_nil] at h1
  rw [parse, if_pos (by omega), h1]
  simp [go, endOf, Fr.app]
theorem long4 {k o : Int} {t : List UInt8} {c : Fr} (h : Gen false (.cons k t c o .nil) 4) : (ntxt k t c).length ≤ 20000 := by
  have h1 := join_len _ 4 true h
  have h2 : long 4 = 8190 := by decide
  simp only [Fr.len, h2] at h1
  rw [join_one] at h1
  omega

set_option maxRecDepth 100000 in
set_option maxHeartbeats 6400000 in
theorem law_round (w : World) (a0 : Option Addr) (l0 c0 wb wo wc tb to tc : Nat) (h0 : IntsAt w a0 l0) (ht : Tabs w wb wo wc tb to tc) :
    Calls Tryd.prog 7 #[.slice a0 l0 c0] w fun e w' => e = .returned (.bool true) ∧ Below w.heap.size w w' := by
  have H0 := Lib.hid h0
  have HT := Lib.hid ht
  clear h0 ht
  go_enter Tryd.func7, Tryd.ntmps7
  go_wp2_with fail
  refine (new_any w a0 l0 c0 H0.out).mono ?_
  rintro e W1 ⟨rfl, hs1, hg1, _⟩
  have S1 := Lib.hid hs1
  have G1 := Lib.hid hg1
  clear hs1 hg1
  go_wp2_with fail
  refine (any_any false 4 (by omega) 4 rfl W1 w.heap.size wb wo wc tb to tc S1.out (HT.out.grown0 G1.out) HT.out.free).mono ?_
  intro e W2 hd
  obtain ⟨ka, ta, ca, oa, aa, na, ma, Fa, rfl, hmade⟩ := made hd G1.out
  have MA := Lib.hid hmade
  clear hd hmade S1 G1
  go_wp2_with fail
  obtain ⟨W, hW⟩ : ∃ W, W2.alloc (.cells #[.int .i64 ka, .string ⟨ta.toArray⟩, .slice aa na ma, .int .i64 oa] 26) = W := ⟨_, rfl⟩
  have hg2 : W2.grownBy W none := by rw [← hW]; exact World.grownBy_alloc _ _ _
  have hr5 : W.heap[W2.heap.size]? = some (.cells #[.int .i64 ka, .string ⟨ta.toArray⟩, .slice aa na ma, .int .i64 oa] 26 (0, 0)) := by rw [← hW]; exact heap_alloc_new W2 _
  rw [hW]
  have RA := Lib.hid (MA.out.1.grown hg2)
  have GW := Lib.hid (MA.out.2.2.trans hg2)
  have HGA := Lib.hid MA.out.2.1
  have SA : Hid (ca.size ≤ 1000) := gen_small MA.out.2.1 (by omega)
  have HLn : Hid ((ntxt ka ta ca).length ≤ 20000) := long4 MA.out.2.1
  have HSh := Lib.hid (gen_short _ _ MA.out.2.1)
  have HVa : Hid (vnode ka ta ca 40 = true) := by have := gen_valid _ 4 40 MA.out.2.1 (by omega); rw [validF_cons] at this; simp [Fr.validF] at this; exact this
  obtain ⟨b5, hb5⟩ : ∃ b, W2.heap.size = b := ⟨_, rfl⟩
  rw [hb5] at hr5 ⊢
  have z50 := row_c0 hr5
  have z51 := row_c1 hr5
  have z52 := row_c2 hr5
  have z53 := row_c3 hr5
  clear hW hg2 hb5 hr5 MA HT H0
  go_wp2_with fail
  refine (conv_any 1000 (by omega) ca SA.out _ _ ka oa ta aa na ma RA.out).mono ?_
  rintro e V1 ⟨ya, yn, ym, F2, rfl, hrd2, _, hg⟩
  have RY := Lib.hid hrd2
  have HG1 := Lib.hid hg
  clear hrd2 hg
  go_wp2_with fail
  refine (format_any ca (by have := SA.out; omega) _ F2 ka oa ta ya yn ym HSh.out.1 HSh.out.2.1 (by have := HLn.out; omega) RY.out).mono ?_
  rintro e V2 ⟨rfl, hg⟩
  have HG2 := Lib.hid (HG1.out.trans hg)
  rw [fmtOut, HVa.out, if_pos rfl]
  obtain ⟨ST, hST⟩ : ∃ S : ByteArray, ⟨(ntxt ka ta ca).toArray⟩ = S := ⟨_, rfl⟩
  have HST := Lib.hid hST
  have HSTb : Hid (bytes ST = ntxt ka ta ca) := by rw [← hST]; exact bytes_mk _
  have hSTs : ST.size ≤ 20000 := by rw [← bytes_len, HSTb.out]; exact HLn.out
  rw [hST]
  clear hg hST RY HG1
  go_wp2_with fail
  refine (parse_any ST _ (by omega)).mono ?_
  intro e V3 hd
  obtain ⟨qa, qn, qc, qk, qo, ql, QF, rfl, hrd, hb3, hm⟩ := hd.form
  obtain ⟨c', heq, hp⟩ := rt_parse HGA.out (by omega) (by have := HLn.out; omega)
  rw [HSTb.out, hp] at hm
  obtain ⟨rfl, rfl, rfl⟩ := hm
  have HgW := Lib.hid (HG2.out.trans (grown_of_below hb3))
  have Hrd := Lib.hid hrd
  clear hd hrd hb3 hp
  go_wp2_with fail
  have hgW := HgW.out
  have hrd := Hrd.out
  obtain ⟨Z, hZ⟩ : ∃ Z, V3.alloc (.cells #[.int .i64 0, .int .i64 0] 33) = Z := ⟨_, rfl⟩
  have hgZ : W.grownBy Z none := by rw [← hZ]; exact hgW.trans (World.grownBy_alloc _ _ _)
  have hrZ : Rd Z QF 4 (Fr.cons ka ta c' 0 .nil).dat (.slice qa qn qc) := by rw [← hZ]; exact hrd.below ((Below.refl _ _).alloc (Nat.le_refl _) _)
  have y7 : Z.cell? ⟨V3.heap.size, 0, none⟩ = some (.int .i64 0) := by rw [← hZ, cell_of_row _ _ _ _ _ _ (heap_alloc_new V3 _)]; rfl
  clear hrd hgW HgW Hrd
  rw [hZ]
  obtain ⟨b7, hb7⟩ : ∃ b, V3.heap.size = b := ⟨_, rfl⟩
  rw [hb7] at y7 ⊢
  clear hZ hb7
  replace z50 := hgZ.cell z50 (by simp)
  replace z51 := hgZ.cell z51 (by simp)
  replace z52 := hgZ.cell z52 (by simp)
  replace z53 := hgZ.cell z53 (by simp)
  have hqn := hrZ.form.1
  obtain ⟨xb, xo, xa, xn, xm, rfl, x0, x1, x2, x3, hx⟩ := hrZ.elem (i := 0) (k := ka) (t := ta) (c := c') (o := 0) rfl
  simp only [Fr.len, Nat.zero_add] at hqn
  subst hqn
  simp only [Nat.zero_mul, Nat.add_zero] at x0 x1 x2 x3
  have RX := Lib.hid hx
  have RA2 := Lib.hid (RA.out.grown hgZ)
  have GZ := Lib.hid (GW.out.trans hgZ)
  have HE : Hid (((ka == ka) && (ta == ta) && c'.eqf ca) = true) := by show _ = _; simp [heq]
  have HCS : Hid (c'.size ≤ 3000) := by rw [eqf_size heq]; have := SA.out; show _ ≤ _; omega
  clear hgZ hrZ hx RA GW HGA HG2 heq
  have hgC : Z.grownBy Z.drew none := grown_drew1 Z
  go_region_held3 (fun w' => w'.cell? ⟨b7, 0, none⟩ = some (.int .i64 0) ∧ w'.cell? ⟨b5, 0, none⟩ = some (.int .i64 ka) ∧ w'.cell? ⟨b5, 1, none⟩ = some (.string ⟨ta.toArray⟩) ∧ w'.cell? ⟨b5, 2, none⟩ = some (.slice aa na ma) ∧ w'.cell? ⟨b5, 3, none⟩ = some (.int .i64 oa) ∧ w'.cell? ⟨xb, xo, none⟩ = some (.int .i64 ka) ∧ w'.cell? ⟨xb, xo + 1, none⟩ = some (.string ⟨ta.toArray⟩) ∧ w'.cell? ⟨xb, xo + 2, none⟩ = some (.slice xa xn xm) ∧ w'.cell? ⟨xb, xo + 3, none⟩ = some (.int .i64 0))
    (with_reducible exact keep9 y7 z50 z51 z52 z53 x0 x1 x2 x3 hgC)
    (first
      | (go_at_call 15; refine (check_any _).mono ?_; rintro e U ⟨rfl, hb⟩; replace hgC := hgC.trans (grown_of_below hb); clear hb)
      | (go_at_call 10; refine (fmt_any 1000 (by omega) ca SA.out _ _ ka oa ta aa na ma (by have := HLn.out; omega) (RA2.out.grown hgC)).mono ?_; rintro e U ⟨rfl, hb⟩; rw [HST.out]; replace hgC := hgC.trans hb; clear hb)
      | (go_at_call 18; refine (conv_any 1000 (by omega) ca SA.out _ _ ka oa ta aa na ma (RA2.out.grown hgC)).mono ?_; rintro e U ⟨va, vn, vm, F3, rfl, hrd3, hlow3, hb⟩; replace hgC := hgC.trans hb; have RY := Lib.hid hrd3; clear hrd3 hlow3 hb)
      | (go_at_call 17; refine (equal_any 3000 (by omega) c' HCS.out ca _ QF F3 ka ka 0 oa ta ta xa va xn vn xm vm (RX.out.grown hgC) RY.out).mono ?_; rintro e U ⟨rfl, hb⟩; rw [HE.out]; replace hgC := hgC.trans hb; clear hb))
  go_wp2_with fail
  go_ret
  exact ⟨rfl, below_grown (GZ.out.trans hgC)⟩
end Go.Proofs.YtnaabplppfikcaaDoor
