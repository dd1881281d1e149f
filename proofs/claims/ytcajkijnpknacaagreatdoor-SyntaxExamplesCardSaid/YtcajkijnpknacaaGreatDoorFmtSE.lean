/- syntax.Format of the one session that the statement formats. -/
import Derived.Test.YtcajkijnpknacaaGreatDoorRunSE
import Derived.Test.YtcajkijnpknacaaGreatDoorBuild
namespace Go.Proofs.YtcajkijnpknacaaGreatDoor
open Go Go.RowKit

noncomputable def taskL : List Nat := [116, 97, 115, 107]
noncomputable def textL : List Nat := [40, 116, 97, 115, 107, 32, 40, 108, 111, 97, 100, 32, 112, 41, 41, 10]
noncomputable def isTextR : Option Resp → Bool
  | some (.call (.str l) _) => l == textL
  | _ => false
theorem of_isText {r : Option Resp} (h : isTextR r = true) : ∃ s', r = some (.call (.str textL) s') := by
  unfold isTextR at h
  split at h
  · rename_i l s
    obtain rfl : l = textL := by simpa using h
    exact ⟨_, rfl⟩
  · cases h

set_option maxRecDepth 1000000 in
set_option maxHeartbeats 0 in
theorem run_formTexts : isTextR (evA xSE Tryz.prog libSE 3000 (.call 11 [.slice (sE Tryz.prog).nx 0 1 1 1, .sx (.var 5)] ((sE Tryz.prog).cells [.str taskL]))) = true := by kernel_rfl

theorem task_ok : ∀ x ∈ taskL, x < 256 := by decide

theorem formTexts_at {W : World} (ht : TabsAt tabSE W) {v : Value} (hv : DR (fzAll W) formD v) :
    Calls Tryz.prog 11 #[.slice (some ⟨W.heap.size, 0, none⟩) 1 1, v] (W.alloc (.cells #[.string (bsOf taskL)] 9 (0, 0))) fun e W' => e = .returned (.string (bsOf textL)) ∧ Below W.heap.size W W' := by
  obtain ⟨s', hs⟩ := of_isText run_formTexts
  have hr := start_hr (E := envSE) (P := Tryz.prog) W
  obtain ⟨hr', t'⟩ := hr.pushed (.cells false (writeN .leaf 0 [.str taskL]) 1) 1 (.cells #[.string (bsOf taskL)] 9 (0, 0)) (w' := W.alloc (.cells #[.string (bsOf taskL)] 9 (0, 0))) ⟨rfl, rfl, rfl⟩ rfl
    (fun h => ⟨_, _, _, h, fun _ => rfl, Nat.le_refl _, (fun j x hj => by
      rcases writeN_get hj with ⟨_, h6⟩ | ⟨_, h6⟩
      · rw [Nat.sub_zero] at h6
        match j, h6 with
        | 0, h6 =>
          obtain rfl := Option.some.inj h6
          exact ⟨by omega, _, rfl, rfl, task_ok⟩
        | n + 1, h6 => simp at h6
      · rw [Tr.get_leaf] at h6; cases h6), fun _ => ⟨Nat.le_refl _, rfl⟩⟩)
  have hg : Glob0 envSE Tryz.prog (Mp.start Tryz.prog W) := start_glob ht
  refine Calls.mono (evA_call (E := envSE) mixed xSE_ok Closed.all libSE_ok hs W.heap.size _ _ [.slice (some ⟨W.heap.size, 0, none⟩) 1 1, v] (hg.mono t'.ext) hr' ?_) ?_
  · exact ⟨_, _, rfl, ⟨_, 1, Mp.on_same _ _ _, rfl, Nat.le_refl _, Nat.le_refl _, by decide, Nat.le_refl _⟩, _, _, rfl, ⟨_, rfl, hv⟩, rfl⟩
  · rintro e w' ⟨u, σ, rfl, hu, _, h5⟩
    rw [show u = _ from hu.1]
    exact ⟨rfl, ((Below.refl _ W).alloc (Nat.le_refl _) _).trans (h5.below hr')⟩

theorem validate_pure : PureC tabSE Tryz.prog 9 [.agg [.sl [], .sl [[formD]]]] (.one (.int .i64 0)) :=
  pureC_run (E := envSE) mixed xSE_ok Closed.all libSE_ok run_validate rfl rfl

set_option maxRecDepth 100000 in
set_option maxHeartbeats 3200000 in
theorem format_below (W : World) (us : List Value) (ht : TabsAt tabSE W) (hd : DARs (fzAll W) [.agg [.sl [], .sl [[formD]]]] us) :
    Calls Tryz.prog 4 (List.toArray us) W fun e W' => ∃ u, e = .returned u ∧ Below W.heap.size W W' ∧ ∀ fz, DAR fz (.tup [.one (.str textL), .one (.int .i64 0)]) u := by
  have hd0 := hd
  obtain ⟨u0, us0, rfl, ⟨xs, rfl, x, us1, rfl, hx, y, us2, rfl, hy, rfl⟩, rfl⟩ := hd
  obtain ⟨a1, c1, rfl, hx1, hx2, hx3⟩ := hx
  obtain ⟨a2, c2, rfl, hy1, hy2, hy3⟩ := hy
  rcases hy3 with hy3 | ⟨g, d, arr, T, fr, z, rfl, hg, hz, hcd, _⟩
  · cases hy3
  obtain ⟨⟨v, hv, hvd⟩, _⟩ := hcd
  have HD := Lib.hid hd0
  have HT := Lib.hid ht
  have HG := Lib.hid hg
  have HV := Lib.hid hv
  have HVD := Lib.hid hvd
  clear hd0 ht hg hv hvd
  go_enter Tryz.func4, Tryz.ntmps4
  go_wp2_with fail
  have hb0 : Below W.heap.size W (W.alloc (Obj.cells #[Value.slice a1 0 c1, Value.slice (some { block := g, off := d }) 1 c2] 37)) := (Below.refl _ W).alloc (Nat.le_refl _) _
  refine (PureC.at_ validate_pure (us := [Value.agg #[Value.slice a1 0 c1, Value.slice (some { block := g, off := d }) 1 c2]]) (HT.out.below hb0 (Nat.le_refl _)) (HD.out.mono (fzAll_below hb0 (Nat.le_refl _)))).mono ?_
  rintro e W1 ⟨u, rfl, hb1, rfl⟩
  have hrow : W1.heap[W.heap.size]? = some (.cells #[Value.slice a1 0 c1, Value.slice (some { block := g, off := d }) 1 c2] 37 (0, 0)) := (hb1.block _ (by simp)).trans (World.alloc_heap_new _ _)
  have hlt : W.heap.size < W1.heap.size := (Array.getElem?_eq_some_iff.1 hrow).1
  have x0 : W1.cell? ⟨W.heap.size, 0, none⟩ = some (Value.slice a1 0 c1) := by rw [Lib.cell_of_heap hrow]; rfl
  have x1 : W1.cell? ⟨W.heap.size, 1, none⟩ = some (Value.slice (some { block := g, off := d }) 1 c2) := by rw [Lib.cell_of_heap hrow]; rfl
  have hbb := hb0.trans (hb1.mono (by simp))
  have hgW : g < W.heap.size := (Array.getElem?_eq_some_iff.1 HG.out).1
  have hg1 : W1.heap[g]? = some (.cells arr T fr) := (hbb.block g hgW).trans HG.out
  have hlt2 : g < W1.heap.size := by omega
  have x2 : W1.cell? ⟨g, d, none⟩ = some v := by rw [cell_of_row W1 _ _ _ _ _ hg1]; exact HV.out
  have HG1 := Lib.hid hg1
  have HB1 := Lib.hid hbb
  have HR1 := Lib.hid hrow
  clear hb0 hb1 hrow hbb hg1 hgW
  go_wp2_with fail
  refine wp_loop_rounds 1 ?_
  rw [rounds_succ]
  go_wp2_with fail
  refine wp_loop_rounds 2 ?_
  rw [rounds_succ]
  go_wp2_with fail
  have hbB : Below W1.heap.size W1 (W1.alloc (Obj.cells #[Value.pointer none, Value.slice none 0 0] 49)) := (Below.refl _ W1).alloc (Nat.le_refl _) _
  have hft := formTexts_at (W := W1.alloc (Obj.cells #[Value.pointer none, Value.slice none 0 0] 49)) ((HT.out.below HB1.out (Nat.le_refl _)).below hbB (Nat.le_refl _)) (v := v) (HVD.out.mono ((fzAll_below HB1.out (Nat.le_refl _)).trans (fzAll_below hbB (Nat.le_refl _))))
  rw [show (W1.alloc (Obj.cells #[Value.pointer none, Value.slice none 0 0] 49)).heap.size = W1.heap.size + 1 by simp] at hft
  refine hft.mono ?_
  rintro e W2 ⟨rfl, hb2⟩
  have hB2 : W2.heap[W1.heap.size]? = some (.cells #[.pointer none, .slice none 0 0] 49 (0, 0)) := (hb2.block _ (by omega)).trans (World.alloc_heap_new _ _)
  have hlt3 : W1.heap.size < W2.heap.size := (Array.getElem?_eq_some_iff.1 hB2).1
  have HIB := Lib.hid (show Lib.IsBuilder 49 5 W1.heap.size W1.heap.size (([] : List UInt8).map byteV) W2 from Or.inl ⟨Nat.le_refl _, .slice none 0 0, hB2, World.ownsRow_nil _ _ _ _, by simp [Value.ownBlock]⟩)
  have HB2 := Lib.hid (hbB.trans (hb2.mono (by omega)))
  clear hft hbB hb2 hB2
  go_wp2_with fail
  refine (writeString_any W1.heap.size W1.heap.size [] (bsOf textL) W2 HIB.out (by simp) (by decide) (by omega)).mono ?_
  rintro e W3 ⟨⟨rv, rfl⟩, hib, hb3, _⟩
  have HIC := Lib.hid hib
  have HB3 := Lib.hid (HB2.out.trans hb3)
  have hsz3 := hb3.size
  clear hib hb3
  go_wp2_with fail
  rw [rounds_succ]
  go_wp2_with fail
  refine (Tryz.Builder_String_any W1.heap.size W1.heap.size (bytes (bsOf textL)) W3 HIC.out (by omega)).mono ?_
  rintro e W4 ⟨rfl, hb4⟩
  have HB4 := Lib.hid (HB3.out.trans (hb4.mono (by omega)))
  clear hb4
  go_wp2_with fail
  go_ret2
  exact ⟨_, rfl, HB1.out.trans (HB4.out.mono (by omega)), fun fz => ⟨_, rfl, _, _, rfl, ⟨rfl, by decide⟩, _, _, rfl, rfl, rfl⟩⟩
end Go.Proofs.YtcajkijnpknacaaGreatDoor
