/- telmake.AnyNode: the walk. -/
import Derived.Test.YtnaabplppfikcaaDoorGen
import Derived.Deep.RegionLaw
import Derived.Deep.LoopGhost
namespace Go.Proofs.YtnaabplppfikcaaDoor
open Go.RowKit

/-- AnyNode at depth d is as it should be. -/
def AnyOk (bad : Bool) (d : Nat) : Prop := ∀ (z : Int), z = d → ∀ (w : World) (sb wb wo wc tb to tc : Nat), Strm w sb → Tabs w wb wo wc tb to tc → Free wb tb sb →
    Calls Tryd.prog 11 #[.pointer (some ⟨sb, 0, none⟩), .int .i64 z, .bool bad] w (AnyDone bad d w sb)

set_option maxRecDepth 100000 in
set_option maxHeartbeats 6400000 in
theorem any_step (bad : Bool) (d : Nat) (hd : d ≤ 100) (IH : Hid (∀ d', d = d' + 1 → AnyOk bad d')) : AnyOk bad d := by
  intro z hz w sb wb wo wc tb to tc h ht hf
  have HM := Lib.hid (Mid.start h ht hf)
  have HZ := Lib.hid hz
  have hz1 : (0 : Int) ≤ z := by omega
  have hz2 : z ≤ 100 := by omega
  clear h ht hf hz
  go_enter Tryd.func11, Tryd.ntmps11
  go_wp2_with fail
  refine (next_at 12 rfl (by omega) (by omega) HM.out.strm).mono ?_
  rintro e W ⟨⟨r, hr, rfl⟩, hs, hg⟩
  have HW := Lib.hid (HM.out.next hs hg)
  clear hs hg HM
  obtain ⟨rb, hrb⟩ : ∃ rb, w.heap.size = rb := ⟨_, rfl⟩
  rw [hrb] at HW ⊢
  clear hrb
  by_cases hA : bad = true ∧ (r : Int) = 11
  · obtain ⟨rfl, x1⟩ := hA
    go_wp2_with fail
    have HD1 := Lib.hid HW.out.drew
    clear HW
    go_region_held3 (fun w' => w'.cell? ⟨1, 0, none⟩ = some (.slice (some ⟨tb, to, none⟩) 6 tc) ∧ (∀ i, i < 6 → w'.cell? ⟨tb, to + i, none⟩ = some (.string ⟨(strT i).toArray⟩)) ∧ w'.cell? ⟨2, 0, none⟩ = some (.slice (some ⟨wb, wo, none⟩) 16 wc) ∧ (∀ i, i < 16 → w'.cell? ⟨wb, wo + i, none⟩ = some (.string ⟨(wordT i).toArray⟩)))
      (first
        | with_reducible exact ⟨HD4.out.tabs.gs, HD4.out.tabs.ss, HD4.out.tabs.gw, HD4.out.tabs.ws⟩
        | with_reducible exact ⟨(HD4.out.alloc _).tabs.gs, (HD4.out.alloc _).tabs.ss, (HD4.out.alloc _).tabs.gw, (HD4.out.alloc _).tabs.ws⟩
        | with_reducible exact ⟨(HD4.out.alloc _).putGs _ _ _ _, (HD4.out.alloc _).putSs _ _ _ _, (HD4.out.alloc _).putGw _ _ _ _, (HD4.out.alloc _).putWs _ _ _ _⟩
        | with_reducible exact ⟨HD3.out.tabs.gs, HD3.out.tabs.ss, HD3.out.tabs.gw, HD3.out.tabs.ws⟩
        | with_reducible exact ⟨HD2.out.tabs.gs, HD2.out.tabs.ss, HD2.out.tabs.gw, HD2.out.tabs.ws⟩
        | with_reducible exact ⟨HD1.out.tabs.gs, HD1.out.tabs.ss, HD1.out.tabs.gw, HD1.out.tabs.ws⟩)
      (first
        | (go_at_call 33; refine (next_at 16 rfl (by omega) (by omega) HD3.out.strm).mono ?_; rintro e W4 ⟨⟨r4, hr4, rfl⟩, hs, hg⟩; have HD4 := Lib.hid (HD3.out.next hs hg); have j0 : (0 : Int) ≤ (r4 : Int) := (by omega); have j1 : (r4 : Int) < 16 := (by omega); have HD5 := Lib.hid (HD4.out.alloc (.cells #[.int .i64 1, .string ⟨(wordT r4).toArray⟩, .slice none 0 0, .int .i64 0] 26 (0, 0))); have q0 := HD5.out.r0; have q1 := HD5.out.r1; have q2 := HD5.out.r2; have q3 := HD5.out.r3; have q4 := HD5.out.fz; clear hs hg)
        | (go_at_call 33; refine (next_at 6 rfl (by omega) (by omega) HD2.out.strm).mono ?_; rintro e W3 ⟨⟨r3, hr3, rfl⟩, hs, hg⟩; have HD3 := Lib.hid (HD2.out.next hs hg); have i0 : (0 : Int) ≤ (r3 : Int) := (by omega); have i1 : (r3 : Int) < 6 := (by omega); clear hs hg)
        | (go_at_call 33; refine (next_at 5 rfl (by omega) (by omega) HD1.out.strm).mono ?_; rintro e W2 ⟨⟨r2, hr2, rfl⟩, hs, hg⟩; have HD2 := Lib.hid (HD1.out.next hs hg); clear hs hg))
    have HP := (HD4.out.alloc (.cells #[.int .i64 1, .string ⟨(wordT r4).toArray⟩, .slice none 0 0, .int .i64 0] 26 (0, 0))).put' (a := .int .i64 r2) (b := .string ⟨(strT r3).toArray⟩) (c := .slice (some ⟨W4.heap.size, 0, none⟩) 1 1) (d := .int .i64 0)
    have HR := rd_one (c := .nil) (k := 1) (o := 0) (t := wordT r4) (heap_alloc_new W4 (.cells #[.int .i64 1, .string ⟨(wordT r4).toArray⟩, .slice none 0 0, .int .i64 0] 26 (0, 0))) (Rd.nil _ (fun _ _ => False) _)
    have HRl := HD4.out.rlt
    have HR2 := HR.mono (w' := ((((W4.alloc (.cells #[.int .i64 1, .string ⟨(wordT r4).toArray⟩, .slice none 0 0, .int .i64 0] 26 (0, 0))).setCell ⟨rb, 0, none⟩ (.int .i64 r2)).setCell ⟨rb, 1, none⟩ (.string ⟨(strT r3).toArray⟩)).setCell ⟨rb, 2, none⟩ (.slice (some ⟨W4.heap.size, 0, none⟩) 1 1)).setCell ⟨rb, 3, none⟩ (.int .i64 0)) (fun b j hf => by
      rcases hf with hf | ⟨rfl, _⟩
      · exact hf.elim
      · refine World.cell?_of_block ?_
        have hne : W4.heap.size ≠ rb := by omega
        rw [setCell_far hne, setCell_far hne, setCell_far hne, setCell_far hne]) (fun _ _ h => h)
    have hsz : W4.heap.size < (((((W4.alloc (.cells #[.int .i64 1, .string ⟨(wordT r4).toArray⟩, .slice none 0 0, .int .i64 0] 26 (0, 0))).setCell ⟨rb, 0, none⟩ (.int .i64 r2)).setCell ⟨rb, 1, none⟩ (.string ⟨(strT r3).toArray⟩)).setCell ⟨rb, 2, none⟩ (.slice (some ⟨W4.heap.size, 0, none⟩) 1 1)).setCell ⟨rb, 3, none⟩ (.int .i64 0)).heap.size := by simp
    generalize ((((W4.alloc (.cells #[.int .i64 1, .string ⟨(wordT r4).toArray⟩, .slice none 0 0, .int .i64 0] 26 (0, 0))).setCell ⟨rb, 0, none⟩ (.int .i64 r2)).setCell ⟨rb, 1, none⟩ (.string ⟨(strT r3).toArray⟩)).setCell ⟨rb, 2, none⟩ (.slice (some ⟨W4.heap.size, 0, none⟩) 1 1)).setCell ⟨rb, 3, none⟩ (.int .i64 0) = X at HP HR2 hsz ⊢
    have y0 := HP.c0
    have y1 := HP.c1
    have y2 := HP.c2
    have y3 := HP.c3
    have HP' := Lib.hid HP
    have HR' := Lib.hid HR2
    clear HP HR HR2 q0 q1 q2 q3 q4
    go_wp2_with fail
    (try simp only [Exit.inBlock, Exit.then])
    refine bodyPost_ret (v := .agg #[.int .i64 r2, .string ⟨(strT r3).toArray⟩, .slice (some ⟨W4.heap.size, 0, none⟩) 1 1, .int .i64 0]) (by simp [results, Tryd.results11, go_sem, y0, y1, y2, y3]) rfl ?_
    exact ⟨r2, strT r3, .cons 1 (wordT r4) .nil 0 .nil, 0, _, _, _, _, rfl, HR'.out, fun b j hf => by
      rcases hf with hf | ⟨rfl, _⟩
      · exact hf.elim
      · exact ⟨HD4.out.grown.size, hsz⟩, ⟨.inr (.inr (.inr (.inl ⟨rfl, by omega, by omega, ⟨r3, hr3, rfl⟩, rfl, r4, hr4, rfl⟩))), trivial⟩, HP'.out.strm, HP'.out.grown⟩
  by_cases hB : bad = true ∧ (r : Int) = 10
  · obtain ⟨rfl, x1⟩ := hB
    have x2 : ¬ (10 : Int) = 11 := by omega
    go_wp2_with fail
    have HD1 := Lib.hid HW.out.drew
    clear HW
    go_region_held3 (fun w' => w'.cell? ⟨1, 0, none⟩ = some (.slice (some ⟨tb, to, none⟩) 6 tc) ∧ (∀ i, i < 6 → w'.cell? ⟨tb, to + i, none⟩ = some (.string ⟨(strT i).toArray⟩)) ∧ w'.cell? ⟨2, 0, none⟩ = some (.slice (some ⟨wb, wo, none⟩) 16 wc) ∧ (∀ i, i < 16 → w'.cell? ⟨wb, wo + i, none⟩ = some (.string ⟨(wordT i).toArray⟩)))
      (first
        | with_reducible exact ⟨HD3.out.tabs.gs, HD3.out.tabs.ss, HD3.out.tabs.gw, HD3.out.tabs.ws⟩
        | with_reducible exact ⟨HD3.out.putGs _ _ _ _, HD3.out.putSs _ _ _ _, HD3.out.putGw _ _ _ _, HD3.out.putWs _ _ _ _⟩
        | with_reducible exact ⟨HD2.out.tabs.gs, HD2.out.tabs.ss, HD2.out.tabs.gw, HD2.out.tabs.ws⟩
        | with_reducible exact ⟨HD1.out.tabs.gs, HD1.out.tabs.ss, HD1.out.tabs.gw, HD1.out.tabs.ws⟩)
      (first
        | (go_at_call 34; refine (raw_any _ sb HD2.out.strm).mono ?_; rintro e W3 ⟨⟨zo, rfl⟩, hs, hg⟩; have HD3 := Lib.hid (HD2.out.next hs hg); have q0 := HD3.out.r0; have q1 := HD3.out.r1; have q2 := HD3.out.r2; have q3 := HD3.out.r3; have q4 := HD3.out.fz; clear hs hg)
        | (go_at_call 33; refine (next_at 6 rfl (by omega) (by omega) HD1.out.strm).mono ?_; rintro e W2 ⟨⟨r3, hr3, rfl⟩, hs, hg⟩; have HD2 := Lib.hid (HD1.out.next hs hg); have i0 : (0 : Int) ≤ (r3 : Int) := (by omega); have i1 : (r3 : Int) < 6 := (by omega); clear hs hg))
    have HP := HD3.out.put' (a := .int .i64 1) (b := .string ⟨(strT r3).toArray⟩) (c := .slice none 0 0) (d := .int .i64 zo)
    generalize ((((W3.setCell ⟨rb, 0, none⟩ (.int .i64 1)).setCell ⟨rb, 1, none⟩ (.string ⟨(strT r3).toArray⟩)).setCell ⟨rb, 2, none⟩ (.slice none 0 0)).setCell ⟨rb, 3, none⟩ (.int .i64 zo)) = X at HP ⊢
    have y0 := HP.c0
    have y1 := HP.c1
    have y2 := HP.c2
    have y3 := HP.c3
    have HP' := Lib.hid HP
    clear HP q0 q1 q2 q3 q4
    go_wp2_with fail
    (try simp only [Exit.inBlock, Exit.then])
    refine bodyPost_ret (v := .agg #[.int .i64 1, .string ⟨(strT r3).toArray⟩, .slice none 0 0, .int .i64 zo]) (by simp [results, Tryd.results11, go_sem, y0, y1, y2, y3]) rfl ?_
    exact ⟨1, strT r3, .nil, zo, none, 0, 0, fun _ _ => False, rfl, Rd.nil _ _ _, fun _ _ h => h.elim, ⟨.inr (.inr (.inr (.inr ⟨rfl, rfl, ⟨r3, hr3, rfl⟩, rfl⟩))), trivial⟩, HP'.out.strm, HP'.out.grown⟩
  have hN : PosN bad r := by
    unfold PosN
    cases bad
    · exact .inl rfl
    · refine .inr ⟨rfl, fun e => hA ⟨rfl, e⟩, fun e => hB ⟨rfl, e⟩⟩
  clear hA hB
  by_cases hC : (r : Int) < 4 ∨ ((4 : Int) ≤ r ∧ z ≤ 0)
  · rcases hN with rfl | ⟨rfl, x1, x2⟩ <;> rcases hC with x3 | ⟨x3, x4⟩
    all_goals
      go_wp2_with fail
      have g2 := HW.out.drew.tabs.gw
      have s2 := HW.out.drew.tabs.ws
      go_region_held3 (fun w' => w'.cell? ⟨2, 0, none⟩ = some (.slice (some ⟨wb, wo, none⟩) 16 wc) ∧ (∀ i, i < 16 → w'.cell? ⟨wb, wo + i, none⟩ = some (.string ⟨(wordT i).toArray⟩)))
        (first
          | with_reducible exact ⟨kp1, kp2⟩
          | with_reducible exact ⟨g2, s2⟩
          | with_reducible exact ⟨HW2.out.putGw _ _ _ _, HW2.out.putWs _ _ _ _⟩)
        ((go_at_call 33; refine (next_at 16 rfl (by omega) (by omega) HW.out.drew.strm).mono ?_; rintro e W2 ⟨⟨r2, hr2, rfl⟩, hs, hg⟩; have HW2 := Lib.hid (HW.out.drew.next hs hg); have kp1 := HW2.out.tabs.gw; have kp2 := HW2.out.tabs.ws; have q0 := HW2.out.r0; have q1 := HW2.out.r1; have q2 := HW2.out.r2; have q3 := HW2.out.r3; have q4 := HW2.out.fz; have i0 : (0 : Int) ≤ (r2 : Int) := (by omega); have i1 : (r2 : Int) < 16 := (by omega); clear hs hg))
      have HP := HW2.out.put' (a := .int .i64 1) (b := .string ⟨(wordT r2).toArray⟩) (c := .slice none 0 0) (d := .int .i64 0)
      generalize ((((W2.setCell ⟨rb, 0, none⟩ (.int .i64 1)).setCell ⟨rb, 1, none⟩ (.string ⟨(wordT r2).toArray⟩)).setCell ⟨rb, 2, none⟩ (.slice none 0 0)).setCell ⟨rb, 3, none⟩ (.int .i64 0)) = X at HP ⊢
      have y0 := HP.c0
      have y1 := HP.c1
      have y2 := HP.c2
      have y3 := HP.c3
      have HP' := Lib.hid HP
      clear HP kp1 kp2 q0 q1 q2 q3 q4 g2 s2
      go_wp2_with fail
      (try simp only [Exit.inBlock, Exit.then])
      refine bodyPost_ret (v := .agg #[.int .i64 1, .string ⟨(wordT r2).toArray⟩, .slice none 0 0, .int .i64 0]) (by simp [results, Tryd.results11, go_sem, y0, y1, y2, y3]) rfl ?_
      exact ⟨1, wordT r2, .nil, 0, none, 0, 0, fun _ _ => False, rfl, Rd.nil _ _ _, fun _ _ h => h.elim, ⟨.inl ⟨rfl, ⟨r2, hr2, rfl⟩, rfl, rfl⟩, trivial⟩, HP'.out.strm, HP'.out.grown⟩

  have y1 : (4 : Int) ≤ r := by omega
  have y2 : 0 < z := by omega
  clear hC
  by_cases hD : (r : Int) < 6
  · rcases hN with rfl | ⟨rfl, x1, x2⟩
    all_goals
      go_wp2_with fail
      have g2 := HW.out.drew.tabs.gs
      have s2 := HW.out.drew.tabs.ss
      go_region_held3 (fun w' => w'.cell? ⟨1, 0, none⟩ = some (.slice (some ⟨tb, to, none⟩) 6 tc) ∧ (∀ i, i < 6 → w'.cell? ⟨tb, to + i, none⟩ = some (.string ⟨(strT i).toArray⟩)))
        (first
          | with_reducible exact ⟨kp1, kp2⟩
          | with_reducible exact ⟨g2, s2⟩
          | with_reducible exact ⟨HW2.out.putGs _ _ _ _, HW2.out.putSs _ _ _ _⟩)
        ((go_at_call 33; refine (next_at 6 rfl (by omega) (by omega) HW.out.drew.strm).mono ?_; rintro e W2 ⟨⟨r2, hr2, rfl⟩, hs, hg⟩; have HW2 := Lib.hid (HW.out.drew.next hs hg); have kp1 := HW2.out.tabs.gs; have kp2 := HW2.out.tabs.ss; have q0 := HW2.out.r0; have q1 := HW2.out.r1; have q2 := HW2.out.r2; have q3 := HW2.out.r3; have q4 := HW2.out.fz; have i0 : (0 : Int) ≤ (r2 : Int) := (by omega); have i1 : (r2 : Int) < 6 := (by omega); clear hs hg))
      have HP := HW2.out.put' (a := .int .i64 2) (b := .string ⟨(strT r2).toArray⟩) (c := .slice none 0 0) (d := .int .i64 0)
      generalize ((((W2.setCell ⟨rb, 0, none⟩ (.int .i64 2)).setCell ⟨rb, 1, none⟩ (.string ⟨(strT r2).toArray⟩)).setCell ⟨rb, 2, none⟩ (.slice none 0 0)).setCell ⟨rb, 3, none⟩ (.int .i64 0)) = X at HP ⊢
      have y0 := HP.c0
      have y1 := HP.c1
      have y2 := HP.c2
      have y3 := HP.c3
      have HP' := Lib.hid HP
      clear HP kp1 kp2 q0 q1 q2 q3 q4 g2 s2
      go_wp2_with fail
      (try simp only [Exit.inBlock, Exit.then])
      refine bodyPost_ret (v := .agg #[.int .i64 2, .string ⟨(strT r2).toArray⟩, .slice none 0 0, .int .i64 0]) (by simp [results, Tryd.results11, go_sem, y0, y1, y2, y3]) rfl ?_
      exact ⟨2, strT r2, .nil, 0, none, 0, 0, fun _ _ => False, rfl, Rd.nil _ _ _, fun _ _ h => h.elim, ⟨.inr (.inl ⟨rfl, ⟨r2, hr2, rfl⟩, rfl, rfl⟩), trivial⟩, HP'.out.strm, HP'.out.grown⟩

  have y3 : (6 : Int) ≤ r := by omega
  clear hD
  rcases hN with rfl | ⟨rfl, x1, x2⟩
  · go_wp2_with fail
    have HF0 : Hid (Fill w rb wb wo wc tb to tc sb W.heap.size false (d - 1) (W.alloc (.cells #[.int .i64 3, .string ⟨#[]⟩, .slice none 0 0, .int .i64 0] 26 (0, 0))) (fun _ _ => False) none 0 .nil []) :=
      ⟨HW.out.alloc _, HW.out.rlt, heap_alloc_new W _, Kids.nil _ _ _, trivial⟩
    refine (next_at 5 rfl (by omega) (by omega) HF0.out.mid.strm).mono ?_
    rintro e Y ⟨⟨cnt, hcnt, rfl⟩, hs, hg⟩
    have HF := Lib.hid (HF0.out.next hs hg)
    clear hs hg HF0
    obtain ⟨nb, hnb⟩ : ∃ nb, W.heap.size = nb := ⟨_, rfl⟩
    rw [hnb] at HF ⊢
    have HNB : Hid (rb < nb) := by have := HW.out.rlt; show _ < _; omega
    clear hnb HW
    obtain ⟨d', hd'⟩ : ∃ d', d = d' + 1 := ⟨d - 1, by have := HZ.out; omega⟩
    have IH' := Lib.hid (IH.out d' hd')
    have HD := Lib.hid hd'
    have HE : Hid (d - 1 = d') := by show _ = _; omega
    have HZ' : Hid (z - 1 = (d' : Int)) := by have := HZ.out; show _ = _; omega
    have hw1 : IntKind.i64.wrap (z - 1) = z - 1 := wrap_i64 (by omega) (by omega)
    clear IH hd'
    obtain ⟨ti, hi0, hz0, hz1', hz2'⟩ := info_parts infoRefNode
    have Hz0 := Lib.hid hz0
    have Hz1 := Lib.hid hz1'
    have Hz2 := Lib.hid hz2'
    have Hi0 := Lib.hid hi0
    clear hz0 hz1' hz2' hi0
    go_wp2_with fail
    go_loopg [10] cnt (fun k v wr => ∃ i F ca cc l ys, k = cnt - i ∧ i ≤ cnt ∧ v = .int .i64 (i : Nat) ∧ l.len = i ∧ Fill w rb wb wo wc tb to tc sb nb false (d - 1) wr F ca cc l ys)
    case atStart => exact ⟨0, _, _, _, _, _, by omega, Nat.zero_le _, rfl, rfl, HF.out⟩
    case round =>
      obtain ⟨i, F, ca, cc, l, ys, hk, hi, rfl, hli, hfl⟩ := hrel
      have B1 := Lib.hid hk
      have HL := Lib.hid hli
      have HFl := Lib.hid hfl
      clear hk hfl hli HF
      by_cases hlt : i < cnt
      · have hi1 : (i : Int) < (cnt : Int) := by omega
        have hwi : IntKind.i64.wrap ((i : Int) + 1) = (i : Int) + 1 := wrap_i64 (by omega) (by omega)
        go_wp2_with fail
        rename World => U
        have u2 := HFl.out.drew.c2
        have hown : ∀ b, (Value.slice ca l.len cc).ownBlock = some b → b < U.heap.size := fun b e => (HFl.out.kids.own.lt b e).2
        have HO := Lib.hid hown
        have HUL := Lib.hid HFl.out.nlt
        clear hown
        go_region_law (first
          | (refine step_append_fix _ (by rfl) _ _ _ (by rfl) (nb + 1) 26 ti _ 4 56 Tryd.underlying24 Hi0.out Hz0.out Hz1.out Hz2.out rfl (by omega) (.slice ca l.len cc) l.len ys (by rfl) ((HV.out.alloc _).kids.own) ⟨V.heap.size, 0, none⟩ 1 1 [.int .i64 k2, .string ⟨t2.toArray⟩, .slice a2 n2 m2, .int .i64 o2] (by rfl) (by rfl) (World.news_of_block (cs := #[.int .i64 k2, .string ⟨t2.toArray⟩, .slice a2 n2 m2, .int .i64 o2]) (t := 26) (fr := (0, 0)) (heap_alloc_new V _)) (by simp [Value.oneCell']) (by omega) (by have := HL.out; unfold maxLen; omega) (by have := HL.out; omega) (by have := HV.out.nlt; simp; omega) ?_; intro g cg w3 hAp; have hrow3 := (HV.out.alloc _).after hAp; have t2' := row_c2 hrow3; have t3' := row_fz hrow3; have HA := Lib.hid hAp; clear hrow3 hAp)
          | (refine step_call rfl 11 #[.pointer (some ⟨sb, 0, none⟩), .int .i64 (z - 1), .bool false] (by kernel_rfl) ?_; refine (IH'.out _ HZ'.out _ sb wb wo wc tb to tc HFl.out.drew.mid.strm HFl.out.drew.mid.tabs HFl.out.mid.free).mono ?_; rintro e V ⟨k2, t2, c2, o2, a2, n2, m2, F2, rfl, hrd, hlow, hgen, hst, hgr⟩; refine ⟨_, rfl, ?_⟩; have HV := Lib.hid (HFl.out.drew.next hst hgr); have v2 := HV.out.c2; have v3 := HV.out.fz; have v4 := (HV.out.alloc (.cells #[.int .i64 k2, .string ⟨t2.toArray⟩, .slice a2 n2 m2, .int .i64 o2] 26 (0, 0))).c2; have HR := Lib.hid hrd; have HLo := Lib.hid hlow; have HG := Lib.hid hgen; clear hrd hlow hgen hst hgr))
        all_goals
          obtain ⟨F', ys', hf'⟩ := HV.out.more HR.out HLo.out HO.out HUL.out (HE.out.symm ▸ HG.out) HA.out
          have HN := Lib.hid hf'
          clear hf'
          go_wp2_with fail
          go_roundg (cnt - (i + 1))
          case measure => have := B1.out; omega
          case rel => exact ⟨i + 1, F', _, _, _, ys', rfl, by omega, by go_num, by rw [Fr.len_app, HL.out]; rfl, HN.out⟩
      · have hin : i = cnt := by omega
        subst hin
        rename World => U
        have n0 := row_c0 HFl.out.row
        have n1 := row_c1 HFl.out.row
        have n2 := row_c2 HFl.out.row
        have n3 := row_c3 HFl.out.row
        have q0 := HFl.out.mid.r0
        have q1 := HFl.out.mid.r1
        have q2 := HFl.out.mid.r2
        have q3 := HFl.out.mid.r3
        have q4 := HFl.out.mid.fz
        go_wp2_with fail
        have HP := HFl.out.mid.put' (a := .int .i64 3) (b := .string ⟨#[]⟩) (c := .slice ca l.len cc) (d := .int .i64 0)
        have HK := HFl.out.fin (x := .int .i64 3) (y := .string ⟨#[]⟩) (u := .slice ca l.len cc) (v := .int .i64 0)
        generalize ((((U.setCell ⟨rb, 0, none⟩ (.int .i64 3)).setCell ⟨rb, 1, none⟩ (.string ⟨#[]⟩)).setCell ⟨rb, 2, none⟩ (.slice ca l.len cc)).setCell ⟨rb, 3, none⟩ (.int .i64 0)) = X at HP HK ⊢
        have y0 := HP.c0
        have y1 := HP.c1
        have y2 := HP.c2
        have y3 := HP.c3
        (try simp only [Exit.inBlock, Exit.then])
        refine bodyPost_ret (v := .agg #[.int .i64 3, .string ⟨#[]⟩, .slice ca l.len cc, .int .i64 0]) (by simp [results, Tryd.results11, go_sem, y0, y1, y2, y3]) rfl ?_
        exact ⟨3, [], l, 0, ca, l.len, cc, F, rfl, HK.rd, fun b j hf => ⟨by have := (HK.low b j hf).1; have := HNB.out; have := HFl.out.mid.eq; omega, (HK.low b j hf).2⟩, ⟨.inr (.inr (.inl ⟨by have := HD.out; omega, rfl, rfl, rfl, by have := HL.out; omega, HFl.out.gen⟩)), trivial⟩, HP.strm, HP.grown⟩
  · go_wp2_with fail
    have HF0 : Hid (Fill w rb wb wo wc tb to tc sb W.heap.size true (d - 1) (W.alloc (.cells #[.int .i64 3, .string ⟨#[]⟩, .slice none 0 0, .int .i64 0] 26 (0, 0))) (fun _ _ => False) none 0 .nil []) :=
      ⟨HW.out.alloc _, HW.out.rlt, heap_alloc_new W _, Kids.nil _ _ _, trivial⟩
    refine (next_at 5 rfl (by omega) (by omega) HF0.out.mid.strm).mono ?_
    rintro e Y ⟨⟨cnt, hcnt, rfl⟩, hs, hg⟩
    have HF := Lib.hid (HF0.out.next hs hg)
    clear hs hg HF0
    obtain ⟨nb, hnb⟩ : ∃ nb, W.heap.size = nb := ⟨_, rfl⟩
    rw [hnb] at HF ⊢
    have HNB : Hid (rb < nb) := by have := HW.out.rlt; show _ < _; omega
    clear hnb HW
    obtain ⟨d', hd'⟩ : ∃ d', d = d' + 1 := ⟨d - 1, by have := HZ.out; omega⟩
    have IH' := Lib.hid (IH.out d' hd')
    have HD := Lib.hid hd'
    have HE : Hid (d - 1 = d') := by show _ = _; omega
    have HZ' : Hid (z - 1 = (d' : Int)) := by have := HZ.out; show _ = _; omega
    have hw1 : IntKind.i64.wrap (z - 1) = z - 1 := wrap_i64 (by omega) (by omega)
    clear IH hd'
    obtain ⟨ti, hi0, hz0, hz1', hz2'⟩ := info_parts infoRefNode
    have Hz0 := Lib.hid hz0
    have Hz1 := Lib.hid hz1'
    have Hz2 := Lib.hid hz2'
    have Hi0 := Lib.hid hi0
    clear hz0 hz1' hz2' hi0
    go_wp2_with fail
    go_loopg [10] cnt (fun k v wr => ∃ i F ca cc l ys, k = cnt - i ∧ i ≤ cnt ∧ v = .int .i64 (i : Nat) ∧ l.len = i ∧ Fill w rb wb wo wc tb to tc sb nb true (d - 1) wr F ca cc l ys)
    case atStart => exact ⟨0, _, _, _, _, _, by omega, Nat.zero_le _, rfl, rfl, HF.out⟩
    case round =>
      obtain ⟨i, F, ca, cc, l, ys, hk, hi, rfl, hli, hfl⟩ := hrel
      have B1 := Lib.hid hk
      have HL := Lib.hid hli
      have HFl := Lib.hid hfl
      clear hk hfl hli HF
      by_cases hlt : i < cnt
      · have hi1 : (i : Int) < (cnt : Int) := by omega
        have hwi : IntKind.i64.wrap ((i : Int) + 1) = (i : Int) + 1 := wrap_i64 (by omega) (by omega)
        go_wp2_with fail
        rename World => U
        have u2 := HFl.out.drew.c2
        have hown : ∀ b, (Value.slice ca l.len cc).ownBlock = some b → b < U.heap.size := fun b e => (HFl.out.kids.own.lt b e).2
        have HO := Lib.hid hown
        have HUL := Lib.hid HFl.out.nlt
        clear hown
        go_region_law (first
          | (refine step_append_fix _ (by rfl) _ _ _ (by rfl) (nb + 1) 26 ti _ 4 56 Tryd.underlying24 Hi0.out Hz0.out Hz1.out Hz2.out rfl (by omega) (.slice ca l.len cc) l.len ys (by rfl) ((HV.out.alloc _).kids.own) ⟨V.heap.size, 0, none⟩ 1 1 [.int .i64 k2, .string ⟨t2.toArray⟩, .slice a2 n2 m2, .int .i64 o2] (by rfl) (by rfl) (World.news_of_block (cs := #[.int .i64 k2, .string ⟨t2.toArray⟩, .slice a2 n2 m2, .int .i64 o2]) (t := 26) (fr := (0, 0)) (heap_alloc_new V _)) (by simp [Value.oneCell']) (by omega) (by have := HL.out; unfold maxLen; omega) (by have := HL.out; omega) (by have := HV.out.nlt; simp; omega) ?_; intro g cg w3 hAp; have hrow3 := (HV.out.alloc _).after hAp; have t2' := row_c2 hrow3; have t3' := row_fz hrow3; have HA := Lib.hid hAp; clear hrow3 hAp)
          | (refine step_call rfl 11 #[.pointer (some ⟨sb, 0, none⟩), .int .i64 (z - 1), .bool true] (by kernel_rfl) ?_; refine (IH'.out _ HZ'.out _ sb wb wo wc tb to tc HFl.out.drew.mid.strm HFl.out.drew.mid.tabs HFl.out.mid.free).mono ?_; rintro e V ⟨k2, t2, c2, o2, a2, n2, m2, F2, rfl, hrd, hlow, hgen, hst, hgr⟩; refine ⟨_, rfl, ?_⟩; have HV := Lib.hid (HFl.out.drew.next hst hgr); have v2 := HV.out.c2; have v3 := HV.out.fz; have v4 := (HV.out.alloc (.cells #[.int .i64 k2, .string ⟨t2.toArray⟩, .slice a2 n2 m2, .int .i64 o2] 26 (0, 0))).c2; have HR := Lib.hid hrd; have HLo := Lib.hid hlow; have HG := Lib.hid hgen; clear hrd hlow hgen hst hgr))
        all_goals
          obtain ⟨F', ys', hf'⟩ := HV.out.more HR.out HLo.out HO.out HUL.out (HE.out.symm ▸ HG.out) HA.out
          have HN := Lib.hid hf'
          clear hf'
          go_wp2_with fail
          go_roundg (cnt - (i + 1))
          case measure => have := B1.out; omega
          case rel => exact ⟨i + 1, F', _, _, _, ys', rfl, by omega, by go_num, by rw [Fr.len_app, HL.out]; rfl, HN.out⟩
      · have hin : i = cnt := by omega
        subst hin
        rename World => U
        have n0 := row_c0 HFl.out.row
        have n1 := row_c1 HFl.out.row
        have n2 := row_c2 HFl.out.row
        have n3 := row_c3 HFl.out.row
        have q0 := HFl.out.mid.r0
        have q1 := HFl.out.mid.r1
        have q2 := HFl.out.mid.r2
        have q3 := HFl.out.mid.r3
        have q4 := HFl.out.mid.fz
        go_wp2_with fail
        have HP := HFl.out.mid.put' (a := .int .i64 3) (b := .string ⟨#[]⟩) (c := .slice ca l.len cc) (d := .int .i64 0)
        have HK := HFl.out.fin (x := .int .i64 3) (y := .string ⟨#[]⟩) (u := .slice ca l.len cc) (v := .int .i64 0)
        generalize ((((U.setCell ⟨rb, 0, none⟩ (.int .i64 3)).setCell ⟨rb, 1, none⟩ (.string ⟨#[]⟩)).setCell ⟨rb, 2, none⟩ (.slice ca l.len cc)).setCell ⟨rb, 3, none⟩ (.int .i64 0)) = X at HP HK ⊢
        have y0 := HP.c0
        have y1 := HP.c1
        have y2 := HP.c2
        have y3 := HP.c3
        (try simp only [Exit.inBlock, Exit.then])
        refine bodyPost_ret (v := .agg #[.int .i64 3, .string ⟨#[]⟩, .slice ca l.len cc, .int .i64 0]) (by simp [results, Tryd.results11, go_sem, y0, y1, y2, y3]) rfl ?_
        exact ⟨3, [], l, 0, ca, l.len, cc, F, rfl, HK.rd, fun b j hf => ⟨by have := (HK.low b j hf).1; have := HNB.out; have := HFl.out.mid.eq; omega, (HK.low b j hf).2⟩, ⟨.inr (.inr (.inl ⟨by have := HD.out; omega, rfl, rfl, rfl, by have := HL.out; omega, HFl.out.gen⟩)), trivial⟩, HP.strm, HP.grown⟩

theorem any_any (bad : Bool) : ∀ d : Nat, d ≤ 100 → AnyOk bad d
  | 0, h => any_step bad 0 h (fun d' e => by omega)
  | d + 1, h => any_step bad (d + 1) h (fun d' e => by
    obtain rfl : d' = d := by omega
    exact any_any bad d' (by omega))
end Go.Proofs.YtnaabplppfikcaaDoor
