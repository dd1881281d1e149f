/- tellaw1.spaced. -/
import Derived.Test.YtnaabplppfikcaaDoorSpPure
import Derived.Test.YtnaabplppfikcaaDoorGen
import Derived.Deep.RegionHeld3
import Derived.Deep.LoopGhost
namespace Go.Proofs.YtnaabplppfikcaaDoor
open Go.RowKit

/-- The table of separators. -/
structure SepTab (w : World) (gb go gc : Nat) : Prop where
  gv : w.cell? ⟨0, 0, none⟩ = some (.slice (some ⟨gb, go, none⟩) 6 gc)
  ss : ∀ i, i < 6 → w.cell? ⟨gb, go + i, none⟩ = some (.string ⟨(sepT i).toArray⟩)
/-- It lies in none of the blocks that are written. -/
structure SepFree (gb sb : Nat) : Prop where
  a : 0 ≠ sb
  b : gb ≠ sb
theorem SepTab.grown {w w' : World} {gb go gc sb : Nat} (h : SepTab w gb go gc) (hg : w.grownBy w' (some sb)) (hf : SepFree gb sb) : SepTab w' gb go gc :=
  ⟨hg.cell h.gv (fun e => hf.a (Option.some.inj e)), fun i hi => hg.cell (h.ss i hi) (fun e => hf.b (Option.some.inj e))⟩

theorem Rd.grownS {w w' : World} {G : Fixed} {size : Nat} {dt : Dat} {v : Value} {sb : Nat} (h : Rd w G size dt v) (hg : w.grownBy w' (some sb)) (hG : ∀ b j, G b j → b ≠ sb) : Rd w' G size dt v :=
  h.there.mono (fun b j hf => hg.cell_far ⟨b, j, none⟩ hf.2 (fun e => hG b j hf.1 (Option.some.inj e))) (fun _ _ h => h.1)

/-- The i-th node of a slice, and that its cells are fixed. -/
theorem Rd.elemF {w : World} {F : Fixed} {l : Fr} {a : Option Addr} {n m i : Nat} {k o : Int} {t : List UInt8} {c : Fr} (h : Rd w F 4 l.dat (.slice a n m)) (hi : l.nth i = some (k, t, c, o)) :
    ∃ b off a' n' m', a = some ⟨b, off, none⟩ ∧ F b (off + i * 4) ∧ w.cell? ⟨b, off + i * 4, none⟩ = some (.int .i64 k) ∧ w.cell? ⟨b, off + i * 4 + 1, none⟩ = some (.string ⟨t.toArray⟩) ∧
      w.cell? ⟨b, off + i * 4 + 2, none⟩ = some (.slice a' n' m') ∧ w.cell? ⟨b, off + i * 4 + 3, none⟩ = some (.int .i64 o) ∧ Rd w F 4 c.dat (.slice a' n' m') := by
  obtain ⟨b, off, a', n', m', rfl, e⟩ := h.elem hi
  refine ⟨b, off, a', n', m', rfl, ?_, e⟩
  obtain ⟨ys, hr, he⟩ := h
  obtain ⟨cv, e0, _⟩ := enc_nth he hi
  rcases hr with ⟨h1, _⟩ | ⟨b', off', n'', cap, h1, h2, h3, h4, h5⟩
  · cases h1
  · injection h1 with h1 _ _
    injection h1 with h1
    injection h1 with h1 h1' _
    subst h1; subst h1'
    exact (h5 _ _ e0).1

theorem gen_nth : ∀ {l : Fr} {d i : Nat} {k o : Int} {t : List UInt8} {c : Fr}, Gen false l d → l.nth i = some (k, t, c, o) → Gen false (.cons k t c o .nil) d
  | .cons k t c o r, d, 0, _, _, _, _, h, e => by
    simp only [Fr.nth, Option.some.injEq, Prod.mk.injEq] at e
    obtain ⟨rfl, rfl, rfl, rfl⟩ := e
    exact ⟨h.1, trivial⟩
  | .cons k t c o r, d, i + 1, _, _, _, _, h, e => gen_nth h.2 (show r.nth i = _ from e)

def SpDone (d : Nat) (w : World) (sb : Nat) (k : Int) (t : List UInt8) (c : Fr) (e : Ending) (w' : World) : Prop :=
  ∃ S : ByteArray, e = .returned (.string S) ∧ NodeTxt SepQ k t c d (bytes S) ∧ S.size ≤ wide d ∧ Strm w' sb ∧ w.grownBy w' (some sb)
def SpOk (c : Fr) : Prop := ∀ (d : Nat) (w : World) (sb gb go gc : Nat) (G : Fixed) (k o : Int) (t : List UInt8) (a : Option Addr) (n m : Nat), d ≤ 4 → Gen false (.cons k t c o .nil) d → Strm w sb → SepTab w gb go gc → SepFree gb sb → (∀ b j, G b j → b ≠ sb) → Rd w G 4 c.dat (.slice a n m) →
    Calls Tryd.prog 16 #[.pointer (some ⟨sb, 0, none⟩), .agg #[.int .i64 k, .string ⟨t.toArray⟩, .slice a n m, .int .i64 o]] w (SpDone d w sb k t c)

theorem wide_small {d : Nat} (h : d ≤ 4) : wide d ≤ 20000 := by
  rcases (by omega : d = 0 ∨ d = 1 ∨ d = 2 ∨ d = 3 ∨ d = 4) with rfl | rfl | rfl | rfl | rfl <;> decide
theorem sep_size {i : Nat} (h : i < 6) : (⟨(sepT i).toArray⟩ : ByteArray).size ≤ 6 := by
  have := (sep_all i h).2.2
  show (sepT i).toArray.size ≤ 6
  simpa using this

set_option maxRecDepth 100000 in
set_option maxHeartbeats 6400000 in
theorem spaced_step (c : Fr) (hc : c.size ≤ 1000000) (IH : Hid (∀ x : Fr, x.size < c.size → SpOk x)) : SpOk c := by
  intro d w sb gb go gc G k o t a n m hd hgen hst htab hfree hG hrd
  obtain ⟨hn, hnm, hm⟩ := hrd.form
  have HR := Lib.hid hrd
  have HN := Lib.hid hn
  have HGen := Lib.hid hgen
  have HSt := Lib.hid hst
  have HTab := Lib.hid htab
  have HFr := Lib.hid hfree
  have HG := Lib.hid hG
  have hlen : n ≤ 1000000 := by have := Fr.len_le_size c; omega
  have hslt := hst.lt
  have HSL := Lib.hid hslt
  clear hrd hn hm hgen hst htab hfree hG hslt
  by_cases h3 : k = 3
  · subst h3
    obtain ⟨h0, ht0, ho0, h4, hgc⟩ : 0 < d ∧ t = [] ∧ o = 0 ∧ c.len ≤ 4 ∧ Gen false c (d - 1) := by
      rcases HGen.out.1 with h | h | h | h | h
      · exact absurd h.1 (by decide)
      · exact absurd h.1 (by decide)
      · exact ⟨h.1, h.2.2.1, h.2.2.2.1, h.2.2.2.2.1, h.2.2.2.2.2⟩
      · cases h.1
      · cases h.1
    subst ht0; subst ho0
    have HGc := Lib.hid hgc
    have hn4 : n ≤ 4 := by rw [HN.out]; exact h4
    obtain ⟨wd, hwd⟩ : ∃ x, wide (d - 1) = x := ⟨_, rfl⟩
    have HWd := Lib.hid hwd
    have hwd1 : wd ≤ 20000 := by rw [← hwd]; exact wide_small (by omega)
    have HWd2 : Hid (wide d = 32 + 4 * wd) := by
      obtain ⟨d', rfl⟩ : ∃ d', d = d' + 1 := ⟨d - 1, by omega⟩
      rw [← hwd]
      rfl
    clear hgc hwd h4
    go_enter Tryd.func16, Tryd.ntmps16
    go_wp2_with fail
    obtain ⟨Y, hY⟩ : ∃ Y, w.alloc (.cells #[.int .i64 3, .string ⟨#[]⟩, .slice a n m, .int .i64 0] 26) = Y := ⟨_, rfl⟩
    have hYg : w.grownBy Y (some sb) := by rw [← hY]; exact World.grownBy_alloc _ _ _
    have hY1 : Y.cell? ⟨w.heap.size, 2, none⟩ = some (.slice a n m) := by rw [← hY]; exact row_c2 (heap_alloc_new w _)
    have hYs : Strm Y sb := by rw [← hY]; exact HSt.out.below ((Below.refl _ _).alloc (Nat.le_refl _) _)
    have HYg := Lib.hid hYg
    have HY1 := Lib.hid hY1
    have HYs := Lib.hid hYs
    rw [hY]
    obtain ⟨bo, hbo⟩ : ∃ r, w.heap.size = r := ⟨_, rfl⟩
    rw [hbo] at HY1 ⊢
    have HBO : Hid (bo ≠ sb) := by have := HSL.out; show _ ≠ _; omega
    clear hYg hY1 hY hbo hYs
    go_loopg [5, 6] n (fun kk v5 v6 wr => ∃ i S X, kk = n - i ∧ i ≤ n ∧ v5 = .string S ∧ v6 = .int .i64 (i : Nat) ∧ bytes S = 40 :: X ∧ Acc (c.take i) (d - 1) X ∧ S.size ≤ 1 + i * (6 + wd) ∧ Strm wr sb ∧ Y.grownBy wr (some sb))
    case atStart => exact ⟨0, ⟨#[40]⟩, [], by omega, Nat.zero_le _, rfl, rfl, rfl, by rw [Fr.take_zero]; exact Acc.nil _, by show 1 ≤ _; omega, HYs.out, World.grownBy.refl _ _⟩
    case round =>
      obtain ⟨i, S, X, hk, hi, rfl, rfl, hS, hAcc, hSz, hsU, hgU⟩ := hrel
      rename World => U
      have B1 := Lib.hid hk
      have HS := Lib.hid hS
      have HA := Lib.hid hAcc
      have HU := Lib.hid hsU
      have HGU := Lib.hid hgU
      have HTU := Lib.hid ((HTab.out.grown HYg.out HFr.out).grown hgU HFr.out)
      have z1 : U.drew.cell? ⟨bo, 2, none⟩ = some (.slice a n m) := HGU.out.cell HY1.out (fun e => HBO.out (Option.some.inj e))
      have z1' : U.cell? ⟨bo, 2, none⟩ = some (.slice a n m) := z1
      have gv : U.drew.cell? ⟨0, 0, none⟩ = some (.slice (some ⟨gb, go, none⟩) 6 gc) := HTU.out.gv
      have gs : ∀ i, i < 6 → U.drew.cell? ⟨gb, go + i, none⟩ = some (.string ⟨(sepT i).toArray⟩) := HTU.out.ss
      have him : i * (6 + wd) ≤ 4 * (6 + wd) := Nat.mul_le_mul_right _ (by omega)
      have hS1 : S.size ≤ 100000 := by omega
      have HSz := Lib.hid hSz
      clear hk hS hAcc hsU hgU hSz
      by_cases hlt : i < n
      · have hi0 : (0 : Int) ≤ (i : Int) := by omega
        have hi1 : (i : Int) < (n : Int) := by omega
        have hwi : IntKind.i64.wrap ((i : Int) + 1) = (i : Int) + 1 := wrap_i64 (by omega) (by omega)
        obtain ⟨k2, t2, c2, o2, hnth, hsz⟩ := Fr.nth_lt (l := c) (i := i) (by have := HN.out; omega)
        have HT := Lib.hid hnth
        have HSx := Lib.hid hsz
        have HRU := (HR.out.grownS (HYg.out.trans HGU.out) HG.out).drewN 1
        obtain ⟨xb, xo, xa, xn, xm, rfl, hF, x0, x1, x2, x3, hx⟩ := HRU.elemF hnth
        have x0' : U.drew.cell? ⟨xb, xo + i * 4, none⟩ = some (.int .i64 k2) := x0
        have x1' : U.drew.cell? ⟨xb, xo + i * 4 + 1, none⟩ = some (.string ⟨t2.toArray⟩) := x1
        have x2' : U.drew.cell? ⟨xb, xo + i * 4 + 2, none⟩ = some (.slice xa xn xm) := x2
        have x3' : U.drew.cell? ⟨xb, xo + i * 4 + 3, none⟩ = some (.int .i64 o2) := x3
        have HX : Hid (Rd U.drew G 4 c2.dat (.slice xa xn xm)) := hx
        have HXB : Hid (xb ≠ sb) := HG.out _ _ hF
        clear hnth hsz hx hF HRU x0 x1 x2 x3
        go_wp2_with fail
        go_region_held3 (fun w' => w'.cell? ⟨0, 0, none⟩ = some (.slice (some ⟨gb, go, none⟩) 6 gc) ∧ (∀ i, i < 6 → w'.cell? ⟨gb, go + i, none⟩ = some (.string ⟨(sepT i).toArray⟩)) ∧ w'.cell? ⟨bo, 2, none⟩ = some (.slice (some ⟨xb, xo, none⟩) n m) ∧ w'.cell? ⟨xb, xo + i * 4, none⟩ = some (.int .i64 k2) ∧ w'.cell? ⟨xb, xo + i * 4 + 1, none⟩ = some (.string ⟨t2.toArray⟩) ∧ w'.cell? ⟨xb, xo + i * 4 + 2, none⟩ = some (.slice xa xn xm) ∧ w'.cell? ⟨xb, xo + i * 4 + 3, none⟩ = some (.int .i64 o2))
          (first
            | with_reducible exact kp2
            | with_reducible exact kp1
            | with_reducible exact ⟨gv, gs, z1, x0', x1', x2', x3'⟩)
          (first
            | (go_at_call 16; have hq := kp1; clear hq; refine (IH.out c2 HSx.out (d - 1) V sb gb go gc G k2 o2 t2 xa xn xm (by omega) (gen_nth HGc.out HT.out) HV1.out (HTV.out) HFr.out HG.out (HX.out.grownS HGV.out HG.out)).mono ?_; rintro e V2 ⟨S2, rfl, hnt, hsz2, hs2, hg2⟩; have HNT := Lib.hid hnt; have HV2 := Lib.hid hs2; have HGV2 := Lib.hid (HGV.out.trans hg2); have HTV2 := Lib.hid (HTV.out.grown hg2 HFr.out); have hz2 : S2.size ≤ wd := (by rw [HWd.out] at hsz2; exact hsz2); have hz3 : ((⟨(sepT r).toArray⟩ : ByteArray) ++ S2).size ≤ 30000 := (by rw [← bytes_len, bytes_app, List.length_append, bytes_len, bytes_len]; omega); have hsum1 : ¬ 9223372036854775807 < (sepT r).length + S2.size := (by omega); have hsum2 : ¬ 9223372036854775807 < S.size + ((sepT r).length + S2.size) := (by omega); have hn2 : ∀ {b : Nat}, b ≠ sb → some b ≠ some sb := (fun h e => h (Option.some.inj e)); have kp2 : _ ∧ _ ∧ _ ∧ _ ∧ _ ∧ _ ∧ _ := ⟨HTV2.out.gv, HTV2.out.ss, HGV2.out.cell z1 (hn2 HBO.out), HGV2.out.cell x0' (hn2 HXB.out), HGV2.out.cell x1' (hn2 HXB.out), HGV2.out.cell x2' (hn2 HXB.out), HGV2.out.cell x3' (hn2 HXB.out)⟩; clear hnt hsz2 hs2 hg2 hn2)
            | (go_at_call 33; refine (next_at 6 rfl (by omega) (by omega) (HU.out.below (Below.drewN' (m := 1) rfl))).mono ?_; rintro e V ⟨⟨r, hr, rfl⟩, hs, hg⟩; have HV1 := Lib.hid hs; have HGV := Lib.hid hg; have HTV := Lib.hid ((HTU.out.grown (grown_drewN U 1 (some sb)) HFr.out).grown hg HFr.out); have i0 : (0 : Int) ≤ (r : Int) := (by omega); have i1 : (r : Int) < 6 := (by omega); have hz := sep_size hr; have hz0 : (sepT r).length ≤ 6 := (sep_all r hr).2.2; have hn2 : ∀ {b : Nat}, b ≠ sb → some b ≠ some sb := (fun h e => h (Option.some.inj e)); have kp1 : _ ∧ _ ∧ _ ∧ _ ∧ _ ∧ _ ∧ _ := ⟨HTV.out.gv, HTV.out.ss, hg.cell z1 (hn2 HBO.out), hg.cell x0' (hn2 HXB.out), hg.cell x1' (hn2 HXB.out), hg.cell x2' (hn2 HXB.out), hg.cell x3' (hn2 HXB.out)⟩; clear hs hg hn2))
        go_wp2_with fail
        go_roundg (n - (i + 1))
        case measure => have := B1.out; omega
        case rel =>
          refine ⟨i + 1, _, X ++ (sepT r ++ bytes S2), rfl, by omega, rfl, by simp, ?_, ?_, ?_, HV2.out, (HGU.out.trans (grown_drewN U 1 (some sb))).trans HGV2.out⟩
          · rw [bytes_app, bytes_app, HS.out, bytes_mk]; rfl
          · rw [Fr.take_succ HT.out]
            exact HA.out.snoc ⟨r, hr, rfl⟩ HNT.out
          · rw [← bytes_len, bytes_app, bytes_app, List.length_append, List.length_append, bytes_len, bytes_len, bytes_len]
            have := HSz.out
            rw [Nat.add_mul, Nat.one_mul]
            omega
      · have hin : i = n := by omega
        subst hin
        go_wp2_with fail
        go_region_held3 (fun w' => w'.cell? ⟨0, 0, none⟩ = some (.slice (some ⟨gb, go, none⟩) 6 gc) ∧ (∀ i, i < 6 → w'.cell? ⟨gb, go + i, none⟩ = some (.string ⟨(sepT i).toArray⟩)))
          (first
            | with_reducible exact kp1
            | with_reducible exact ⟨gv, gs⟩)
          ((go_at_call 33; refine (next_at 6 rfl (by omega) (by omega) (HU.out.below (Below.drewN' (m := 1) rfl))).mono ?_; rintro e V ⟨⟨r, hr, rfl⟩, hs, hg⟩; have HV1 := Lib.hid hs; have HGV := Lib.hid hg; have HTV := Lib.hid ((HTU.out.grown (grown_drewN U 1 (some sb)) HFr.out).grown hg HFr.out); have i0 : (0 : Int) ≤ (r : Int) := (by omega); have i1 : (r : Int) < 6 := (by omega); have hz := sep_size hr; have hz0 : (sepT r).length ≤ 6 := (sep_all r hr).2.2; have hz4 : (S ++ (⟨(sepT r).toArray⟩ : ByteArray)).size ≤ 200000 := (by rw [← bytes_len, bytes_app, List.length_append, bytes_len, bytes_len]; omega); have hsum1 : ¬ 9223372036854775807 < S.size + (sepT r).length := (by omega); have hsum2 : ¬ 9223372036854775807 < S.size + (sepT r).length + 1 := (by omega); have kp1 : _ ∧ _ := ⟨HTV.out.gv, HTV.out.ss⟩; clear hs hg))
        go_wp2_with fail
        go_ret
        refine ⟨S ++ (⟨(sepT r).toArray⟩ : ByteArray) ++ (⟨#[41]⟩ : ByteArray), rfl, .inr (.inr ⟨rfl, rfl, h0, X ++ sepT r, ?_, ?_⟩), ?_, HV1.out, (HYg.out.trans (HGU.out.trans (grown_drewN U 1 (some sb)))).trans HGV.out⟩
        · rw [bytes_app, bytes_app, HS.out, bytes_mk]; simp [bytes]
        · have := HA.out.close (sep := sepT r) ⟨r, hr, rfl⟩
          have e1 : c.take i = c := by rw [HN.out]; exact Fr.take_len
          rwa [e1] at this
        · rw [← bytes_len, bytes_app, bytes_app, List.length_append, List.length_append, bytes_len, bytes_len, HWd2.out]
          have := HSz.out
          show _ + _ + 1 ≤ _
          omega
  · have hlt := leaf_len HGen.out h3
    have HLf := Lib.hid (leaf_txt HGen.out h3)
    have g3 : (k != 3) = true := by simp [h3]
    have hw := wide_ge d
    clear h3
    go_enter Tryd.func16, Tryd.ntmps16
    go_wp2_with fail
    refine (fmt_any 1000000 (by omega) c hc _ G k o t a n m (by omega) (HR.out.below ((Below.refl _ _).alloc (Nat.le_refl _) _))).mono ?_
    rintro e W ⟨rfl, hg⟩
    have HGW := Lib.hid ((World.grownBy_alloc w (.cells #[.int .i64 k, .string ⟨t.toArray⟩, .slice a n m, .int .i64 o] 26) none).trans hg)
    clear hg
    go_wp2_with fail
    go_ret
    refine ⟨⟨(ntxt k t c).toArray⟩, rfl, by rw [bytes_mk]; exact HLf.out, by rw [← bytes_len, bytes_mk]; omega, HSt.out.below (below_grown HGW.out), HGW.out.but _⟩

theorem spaced_any (N : Nat) (hN : N ≤ 1000000) : ∀ c : Fr, c.size ≤ N → SpOk c := by
  induction N with
  | zero => exact fun c hc => spaced_step c (by omega) (fun x h => by omega)
  | succ N ih => exact fun c hc => spaced_step c (by omega) (fun x h => ih (by omega) x (by omega))
end Go.Proofs.YtnaabplppfikcaaDoor
