/- (*parser).add. -/
import Derived.Test.YtcajkijnpknacaaGreatDoorBytes
import Derived.Test.YtcajkijnpknacaaGreatDoorMem
import Derived.Deep.QuietTactic
import Derived.BigQuiet
import Derived.Deep.RegionHeld3
import Derived.Deep.RegionLaw
import Derived.Deep.DrawnRows
import Derived.Outline
import Derived.Deep.DeepFit
namespace Go.Proofs.YtcajkijnpknacaaGreatDoor
open Go.RowKit
attribute [local go_sem ↓] Go.wp_at_zero Go.wp_at_succ

theorem infoNode : (Tryz.prog.info? 64).map (fun i => (i.zero, i.size, i.bytes)) = some (some (.agg #[.int .i64 0, .string ⟨#[]⟩, .slice none 0 0, .int .i64 0]), 4, 56) := by kernel_rfl

set_option maxRecDepth 100000 in
set_option maxHeartbeats 1600000 in
theorem add_any (w : World) (base pb ob n cap : Nat) (cur : Array Value) (ca : Option Addr) (k cc : Nat) (xs : List Value) (kd o : Int) (t : ByteArray) (ka : Option Addr) (kn kc : Nat)
    (hp2 : w.cell? ⟨pb, 2, none⟩ = some (.slice (some ⟨ob, 0, none⟩) (n + 1) cap))
    (ho : Hid (w.heap[ob]? = some (.cells cur 64 (0, 0)))) (hn : n + 1 ≤ cap) (hcap : cap ≤ 9223372036854775807)
    (hcv : Hid (cur[n * 4 + 2]? = some (.slice ca k cc))) (hown : w.ownsRow base 64 4 (.slice ca k cc) k xs) (hk : k ≤ 65536) (hbase : base ≤ w.heap.size)
    (hne : (Value.slice ca k cc).ownBlock ≠ some ob) :
    Calls Tryz.prog 88 #[.pointer (some ⟨pb, 0, none⟩), .agg #[.int .i64 kd, .string t, .slice ka kn kc, .int .i64 o]] w fun e w' =>
      e = .returned (.tuple #[]) ∧ ∃ g c2, Added w w' base 64 ob 64 (n * 4 + 2) cur (.slice ca k cc) k xs [.int .i64 kd, .string t, .slice ka kn kc, .int .i64 o] g c2 := by
  obtain ⟨i0, hi0, hz0, hz1, hz2⟩ := info_parts infoNode
  have lp := World.block_lt_of_cell? w _ hp2
  have lo : ob < w.heap.size := (Array.getElem?_eq_some_iff.1 ho.out).1
  have hq2 : ∀ o, (w.alloc o).cell? ⟨pb, 2, none⟩ = some (.slice (some ⟨ob, 0, none⟩) (n + 1) cap) := fun o => (World.cell?_alloc_past _ _ _ lp).trans hp2
  go_enter Tryz.func88, Tryz.ntmps88
  go_wp2_with fail
  go_quiet (fail)
  go_wp2_with fail
  obtain ⟨W, hW⟩ : ∃ W, (w.alloc (.cells #[.int .i64 kd, .string t, .slice ka kn kc, .int .i64 o] 64)).drewN nq = W := ⟨_, rfl⟩
  rw [hW]
  have hWs : W.heap.size = w.heap.size + 1 := by rw [← hW]; simp
  have hWb : ∀ b, b < w.heap.size → W.heap[b]? = w.heap[b]? := fun b hb => by rw [← hW]; exact Below.heap_alloc w _ b hb
  have hWn : W.heap[w.heap.size]? = some (.cells #[.int .i64 kd, .string t, .slice ka kn kc, .int .i64 o] 64 (0, 0)) := by rw [← hW]; exact heap_alloc_new w _
  have hWo : W.os = w.os ∧ W.tape = w.tape ∧ W.output = w.output := by rw [← hW]; exact ⟨rfl, rfl, rfl⟩
  have hown' : W.ownsRow base 64 4 (.slice ca k cc) k xs := by rw [← hW]; exact hown.alloc _
  have b0 : W.cell? ⟨w.heap.size, 0, none⟩ = some (.int .i64 kd) := by rw [cell_of_row W _ 0 _ _ _ hWn]; rfl
  have b1 : W.cell? ⟨w.heap.size, 1, none⟩ = some (.string t) := by rw [cell_of_row W _ 1 _ _ _ hWn]; rfl
  have b2 : W.cell? ⟨w.heap.size, 2, none⟩ = some (.slice ka kn kc) := by rw [cell_of_row W _ 2 _ _ _ hWn]; rfl
  have b3 : W.cell? ⟨w.heap.size, 3, none⟩ = some (.int .i64 o) := by rw [cell_of_row W _ 3 _ _ _ hWn]; rfl
  have bt : W.cell? ⟨ob, n * 4 + 2, none⟩ = some (.slice ca k cc) := by
    rw [cell_of_row W _ _ cur 64 (0, 0) (by rw [hWb _ lo]; exact ho.out)]; exact hcv.out
  have l1 : w.heap.size < W.heap.size := by omega
  have l2 : ob < W.heap.size := by omega
  have fo : W.frozen? ⟨ob, n * 4 + 2, none⟩ = false := by simp [World.frozen?, hWb _ lo, ho.out]
  have hkk : (k : Int) < (k : Int) + 1 := by omega
  have HWs := Lib.hid hWs
  have HWb := Lib.hid hWb
  have HWn := Lib.hid hWn
  have HWo := Lib.hid hWo
  have Hz0 := Lib.hid hz0
  have Hz1 := Lib.hid hz1
  have Hz2 := Lib.hid hz2
  have Hi0 := Lib.hid hi0
  clear hW hWs hWb hWn hWo hp2 hq2 hz0 hz1 hz2 hi0
  go_region_law ((refine step_append_fix _ rfl (.tmp 19) (.tmp 22) 58 rfl base 64 i0 _ 4 56 Tryz.underlying58 Hi0.out Hz0.out Hz1.out Hz2.out rfl (by omega) (.slice ca k cc) k xs (by first | (simp [Act.eval]; done) | (simp [Act.eval, Act.put]; done)) ((hown'.alloc _).drew) ⟨W.heap.size, 0, none⟩ 1 1 [.int .i64 0, .string ⟨#[]⟩, .slice none 0 0, .int .i64 0] (by first | (simp [Act.eval]; done) | (simp [Act.eval, Act.put]; done)) rfl (World.news_of_block (cs := #[.int .i64 0, .string ⟨#[]⟩, .slice none 0 0, .int .i64 0]) (t := 64) (fr := (0, 0)) (heap_alloc_new W _)) (by simp [Value.oneCell']) (by omega) (by unfold maxLen; omega) (by omega) (by simp; omega) ?_; intro g c2 w1 hA; obtain ⟨⟨q0, q1, q2, q3⟩, qf⟩ := hA.four hown.1; obtain ⟨r0, r1, r2⟩ := add_mid hA hne l2 bt fo; have HA := Lib.hid hA; clear hA))
  all_goals
    go_end0
    refine ⟨rfl, g, c2, ?_⟩
    refine add_done HA.out hown.1 (by have := HWs.out; omega) HWb.out HWo.out lo ho.out hne r2 ?_
    first
      | (with_reducible refine set4_inl ?_; with_reducible rfl)
      | (with_reducible refine set4_inr ?_; with_reducible rfl)
end Go.Proofs.YtcajkijnpknacaaGreatDoor
