/- (*parser).parenthesis, way by way. -/
import Derived.Test.YtcajkijnpknacaaGreatDoorState
namespace Go.Proofs.YtcajkijnpknacaaGreatDoor
open Go.RowKit
attribute [local go_sem ↓] Go.wp_at_zero Go.wp_at_succ

def faultOf (k : Int) (pos : Nat) : List PanicEntry := [{ v := .iface 39 (.agg #[.int .i64 k, .int .i64 pos]), recovered := false }]

/-- Too deep: the call panics. -/
theorem paren_deep (w : World) (pb ob n cap pos : Nat) (s : ByteArray) (hp0 : w.cell? ⟨pb, 0, none⟩ = some (.string s)) (hp1 : w.cell? ⟨pb, 1, none⟩ = some (.int .i64 pos)) (hp2 : w.cell? ⟨pb, 2, none⟩ = some (.slice (some ⟨ob, 0, none⟩) (n + 1) cap))
    (hlt : pos < s.size) (_hs : s.size ≤ 65536) (hc : ((s[pos].toNat : Int) == 40) = true) (hd : 40 ≤ n) (hn : n ≤ 65536) :
    Calls Tryz.prog 53 #[.pointer (some ⟨pb, 0, none⟩)] w fun e w' => e = .panicked (faultOf 9 pos) ∧ ∃ m, w' = w.drewN m := by
  have i0 : (0 : Int) ≤ (pos : Int) := by omega
  have i1 : (pos : Int) < (s.size : Int) := by omega
  go_enter Tryz.func53, Tryz.ntmps53
  go_wp2_with fail
  go_quiet (fail)
  go_wp2_with fail
  refine (fail_any _ _ _).mono ?_
  rintro e w' ⟨rfl, rfl⟩
  exact ⟨rfl, rfl, _, rfl⟩

/-- Nothing is open: the call panics. -/
theorem paren_none (w : World) (pb ob cap pos : Nat) (s : ByteArray) (hp0 : w.cell? ⟨pb, 0, none⟩ = some (.string s)) (hp1 : w.cell? ⟨pb, 1, none⟩ = some (.int .i64 pos)) (hp2 : w.cell? ⟨pb, 2, none⟩ = some (.slice (some ⟨ob, 0, none⟩) 1 cap))
    (hlt : pos < s.size) (_hs : s.size ≤ 65536) (hc : ((s[pos].toNat : Int) == 40) = false) :
    Calls Tryz.prog 53 #[.pointer (some ⟨pb, 0, none⟩)] w fun e w' => e = .panicked (faultOf 2 pos) ∧ ∃ m, w' = w.drewN m := by
  have i0 : (0 : Int) ≤ (pos : Int) := by omega
  have i1 : (pos : Int) < (s.size : Int) := by omega
  go_enter Tryz.func53, Tryz.ntmps53
  go_wp2_with fail
  go_quiet (fail)
  go_wp2_with fail
  go_quiet (fail)
  go_wp2_with fail
  refine (fail_any _ _ _).mono ?_
  rintro e w' ⟨rfl, rfl⟩
  exact ⟨rfl, rfl, _, rfl⟩

/-- A list is opened. -/
structure Pushed (w w' : World) (base pb ob n : Nat) (s : ByteArray) (pos : Nat) (xs : List Value) (g c2 : Nat) : Prop where
  own : w'.ownsRow base 64 4 (.slice (some ⟨g, 0, none⟩) (n + 1) c2) (n + 1) (xs ++ openCells 3 (.slice none 0 0) pos)
  lies : g = ob ∨ w.heap.size ≤ g
  head : w'.heap[pb]? = some (.cells #[.string s, .int .i64 ((pos + 1 : Nat) : Int), .slice (some ⟨g, 0, none⟩) (n + 1) c2] 87 (0, 0))
  other : ∀ b, b < w.heap.size → b ≠ pb → b ≠ ob → w'.heap[b]? = w.heap[b]?
  size : w.heap.size ≤ w'.heap.size
  os : w'.os = w.os
  tape : w'.tape = w.tape
  output : w'.output = w.output

theorem push_done {w Y : World} {base pb ob n cap pos : Nat} {s : ByteArray} {xs : List Value} {g c2 : Nat} (hpo : ¬ pb = ob)
    (hA : Added w Y base 64 pb 87 2 #[.string s, .int .i64 pos, .slice (some ⟨ob, 0, none⟩) n cap] (.slice (some ⟨ob, 0, none⟩) n cap) n xs (openCells 3 (.slice none 0 0) pos) g c2) (lp : pb < w.heap.size) :
    Pushed w (Y.setCell ⟨pb, 1, none⟩ (.int .i64 ((pos : Int) + 1))) base pb ob n s pos xs g c2 := by
  have hs := setCell_same Y ⟨pb, 1, none⟩ (.int .i64 ((pos : Int) + 1))
  have hlies : g = ob ∨ w.heap.size ≤ g := by
    rcases hA.lies with h | h
    · exact .inl (by simpa [Value.ownBlock] using h.symm)
    · exact .inr h
  have hgp : g ≠ pb := by
    rcases hlies with rfl | h
    · exact fun h => hpo h.symm
    · omega
  refine ⟨ownsRow_of_block hA.own fun b e => setCell_far ?_, hlies, ?_, fun b hb h1 h2 => ?_, ?_, ?_, ?_, ?_⟩
  · have : g = b := by simpa [Value.ownBlock] using e
    rw [← this]; exact hgp
  · rw [setCell_row hA.top]; simp
  · rw [setCell_far h1]
    exact hA.other b hb h1 (by simpa [Value.ownBlock] using Ne.symm h2)
  · rw [hs.1]; exact hA.size
  · rw [hs.2.1]; exact hA.os
  · rw [hs.2.2.1]; exact hA.tape
  · rw [hs.2.2.2]; exact hA.output

set_option maxRecDepth 100000 in
set_option maxHeartbeats 1600000 in
theorem paren_open (w : World) (base pb ob n cap pos : Nat) (s : ByteArray) (xs : List Value)
    (hp : Hid (w.heap[pb]? = some (.cells #[.string s, .int .i64 pos, .slice (some ⟨ob, 0, none⟩) (n + 1) cap] 87 (0, 0))))
    (hown : w.ownsRow base 64 4 (.slice (some ⟨ob, 0, none⟩) (n + 1) cap) (n + 1) xs) (hbase : base ≤ w.heap.size) (hpo : ¬ pb = ob)
    (hlt : pos < s.size) (hs : s.size ≤ 65536) (hc : ((s[pos].toNat : Int) == 40) = true) (hd : n < 40) :
    Calls Tryz.prog 53 #[.pointer (some ⟨pb, 0, none⟩)] w fun e w' => e = .returned (.tuple #[]) ∧ ∃ g c2, Pushed w w' base pb ob (n + 1) s pos xs g c2 := by
  have i0 : (0 : Int) ≤ (pos : Int) := by omega
  have i1 : (pos : Int) < (s.size : Int) := by omega
  have p0 : w.cell? ⟨pb, 0, none⟩ = some (.string s) := by rw [cell_of_row w _ _ _ _ _ hp.out]; rfl
  have p1 : w.cell? ⟨pb, 1, none⟩ = some (.int .i64 pos) := by rw [cell_of_row w _ _ _ _ _ hp.out]; rfl
  have p2 : w.cell? ⟨pb, 2, none⟩ = some (.slice (some ⟨ob, 0, none⟩) (n + 1) cap) := by rw [cell_of_row w _ _ _ _ _ hp.out]; rfl
  have pf : w.frozen? ⟨pb, 2, none⟩ = false := by simp [World.frozen?, hp.out]
  have pg : w.frozen? ⟨pb, 1, none⟩ = false := by simp [World.frozen?, hp.out]
  have hd' : decide ((40 : Int) ≤ (n : Int)) = false := by simp; omega
  have hn0 : (0 : Int) ≤ (n : Int) + 1 := by omega
  have hn1 : (n : Int) + 1 < (n : Int) + 1 + 1 := by omega
  obtain ⟨i0', hi0, hz0, hz1, hz2⟩ := info_parts infoNode
  have Hz0 := Lib.hid hz0
  have Hz1 := Lib.hid hz1
  have Hz2 := Lib.hid hz2
  have Hi0 := Lib.hid hi0
  clear hz0 hz1 hz2 hi0
  go_enter Tryz.func53, Tryz.ntmps53
  go_wp2_with fail
  go_quiet (fail)
  rename Nat => m1
  go_wp2_with fail
  go_quiet (fail)
  rename Nat => m2
  go_wp2_with fail
  obtain ⟨W, hW⟩ : ∃ W, (w.drewN m1).drewN m2 = W := ⟨_, rfl⟩
  rw [hW]
  have hWh : W.heap = w.heap := by rw [← hW]; rfl
  have hWs : W.heap.size = w.heap.size := by rw [hWh]
  have hWo : W.os = w.os ∧ W.tape = w.tape ∧ W.output = w.output := by rw [← hW]; exact ⟨rfl, rfl, rfl⟩
  have hown' : W.ownsRow base 64 4 (.slice (some ⟨ob, 0, none⟩) (n + 1) cap) (n + 1) xs := by rw [← hW]; exact hown
  have q0 : W.cell? ⟨pb, 0, none⟩ = some (.string s) := by rw [← hW]; exact p0
  have q1 : W.cell? ⟨pb, 1, none⟩ = some (.int .i64 pos) := by rw [← hW]; exact p1
  have q2 : W.cell? ⟨pb, 2, none⟩ = some (.slice (some ⟨ob, 0, none⟩) (n + 1) cap) := by rw [← hW]; exact p2
  have qf : W.frozen? ⟨pb, 2, none⟩ = false := by rw [← hW]; exact pf
  have qg : W.frozen? ⟨pb, 1, none⟩ = false := by rw [← hW]; exact pg
  have lp : pb < W.heap.size := World.block_lt_of_cell? W _ q0
  have hne : (Value.slice (some ⟨ob, 0, none⟩) (n + 1) cap).ownBlock ≠ some pb := by simpa [Value.ownBlock] using Ne.symm hpo
  have hb' : base ≤ W.heap.size := by omega
  have HWh := Lib.hid hWh
  have HWo := Lib.hid hWo
  clear hW hWh hWs hWo p0 p1 p2 pf pg
  go_region_law ((refine step_append_fix _ rfl (.tmp 63) (.tmp 70) 58 rfl base 64 i0' _ 4 56 Tryz.underlying58 Hi0.out Hz0.out Hz1.out Hz2.out rfl (by omega) (.slice (some ⟨ob, 0, none⟩) (n + 1) cap) (n + 1) xs (by first | (simp [Act.eval]; done) | (simp [Act.eval, Act.put]; done)) ((hown'.alloc _).drew) ⟨W.heap.size, 0, none⟩ 1 1 [.int .i64 0, .string ⟨#[]⟩, .slice none 0 0, .int .i64 0] (by first | (simp [Act.eval]; done) | (simp [Act.eval, Act.put]; done)) rfl (World.news_of_block (cs := #[.int .i64 0, .string ⟨#[]⟩, .slice none 0 0, .int .i64 0]) (t := 64) (fr := (0, 0)) (heap_alloc_new W _)) (by simp [Value.oneCell']) (by omega) (by unfold maxLen; omega) (by omega) (by simp; omega) ?_; intro g c2 w1 hA; obtain ⟨⟨z0, z1, z2, z3⟩, zf⟩ := hA.four hown.1; obtain ⟨r0, r1, r2⟩ := add_mid hA hne lp q2 qf; obtain ⟨r3, r4, _⟩ := add_mid hA hne lp q1 qg; have HA := Lib.hid hA; clear hA))
  all_goals
    go_wp2_with fail
    go_end0
    refine ⟨rfl, g, c2, ?_⟩
    refine push_done hpo (add_done HA.out hown.1 (by rw [HWh.out]; exact Nat.le_refl _) (fun b _ => by rw [HWh.out]) HWo.out (by rw [← HWh.out]; exact lp) hp.out hne r2 ?_) (by rw [← HWh.out]; exact lp)
    first
      | (with_reducible refine set4_inl ?_; with_reducible rfl)
      | (with_reducible refine set4_inr ?_; with_reducible rfl)
end Go.Proofs.YtcajkijnpknacaaGreatDoor
