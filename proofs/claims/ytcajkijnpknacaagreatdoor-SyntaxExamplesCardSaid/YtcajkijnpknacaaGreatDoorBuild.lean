/- strings.Builder: copyCheck, WriteString. -/
import Derived.Test.YtcajkijnpknacaaGreatDoorQuoted
import Derived.Lib.Builder
import Derived.Lib.AppendStr
import Derived.Laws.Externs
namespace Go.Proofs.YtcajkijnpknacaaGreatDoor
open Go.RowKit

/-- What is neither the builder nor a row of bytes is as it was. -/
def Kept (b : Nat) (w w' : World) : Prop := w.heap.size ≤ w'.heap.size ∧ ∀ x cs T fr, x ≠ b → T ≠ 5 → w.heap[x]? = some (.cells cs T fr) → w'.heap[x]? = some (.cells cs T fr)
theorem Kept.refl (b : Nat) (w : World) : Kept b w w := ⟨Nat.le_refl _, fun _ _ _ _ _ _ h => h⟩
theorem Kept.trans {b : Nat} {w w' w'' : World} (h : Kept b w w') (k : Kept b w' w'') : Kept b w w'' := ⟨Nat.le_trans h.1 k.1, fun x cs T fr h1 h2 h3 => k.2 x cs T fr h1 h2 (h.2 x cs T fr h1 h2 h3)⟩
theorem Kept.alloc (b : Nat) (w : World) (o : Obj) : Kept b w (w.alloc o) := ⟨by simp, fun x cs T fr _ _ h => (Below.heap_alloc w o x (Array.getElem?_eq_some_iff.1 h).1).trans h⟩
theorem Kept.set (b o : Nat) (v : Value) (w : World) : Kept b w (w.setCell ⟨b, o, none⟩ v) := ⟨by simp, fun x cs T fr hx _ h => (setCell_far hx).trans h⟩
theorem Kept.grown {b base n : Nat} {w w' : World} {v : Value} {xs : List Value} (hown : w.ownsRow base 5 1 v n xs) (hg : w.grownBy w' v.ownBlock) : Kept b w w' :=
  ⟨hg.size, fun x cs T fr _ hT h => (hg.block x (Array.getElem?_eq_some_iff.1 h).1 (fun e => by
    rcases hown.2 with ⟨rfl, _⟩ | ⟨g, cap, cur, rfl, _, hgg, _⟩
    · simp [Value.ownBlock] at e
    · have : x = g := by simpa [Value.ownBlock] using e
      subst this
      rw [hgg] at h
      injection h with h
      injection h with _ h _
      exact hT h.symm)).trans h⟩

theorem liesBuilder : liesAt Tryz.prog Tryz.prog.depth 49 (2 / Tryz.prog.cellsOf 49) 0 49 1 = true := by kernel_rfl
theorem sizeBuilder : (Tryz.prog.info? 49).map (·.size) = some 2 := by kernel_rfl

set_option maxRecDepth 100000 in
set_option maxHeartbeats 1600000 in
theorem copy_used (b : Nat) (w : World) (h0 : w.cell? ⟨b, 0, none⟩ = some (.pointer (some ⟨b, 0, none⟩))) : Calls Tryz.prog 30 #[.pointer (some ⟨b, 0, none⟩)] w fun e w' => e = .returned (.tuple #[]) ∧ w' = w := by
  obtain ⟨j, hj, _⟩ := Option.map_eq_some_iff.1 sizeBuilder
  go_enter Tryz.func30, Tryz.ntmps30
  go_wp2_with fail
  rw [Lib.run_neq_ptr_same w _ Tryz.underlying46 hj]
  go_wp2_with fail
  go_end0
  exact ⟨rfl, rfl⟩

set_option maxRecDepth 100000 in
set_option maxHeartbeats 1600000 in
theorem copy_fresh (b : Nat) (w : World) (h0 : w.cell? ⟨b, 0, none⟩ = some (.pointer none)) (hsh : w.shape? b = some (49, 2)) (hf : w.frozen? ⟨b, 0, none⟩ = false) :
    Calls Tryz.prog 30 #[.pointer (some ⟨b, 0, none⟩)] w fun e w' => e = .returned (.tuple #[]) ∧ w' = w.setCell ⟨b, 0, none⟩ (.pointer (some ⟨b, 0, none⟩)) := by
  obtain ⟨j, hj, hjs⟩ := Option.map_eq_some_iff.1 sizeBuilder
  go_enter Tryz.func30, Tryz.ntmps30
  go_wp2_with fail
  rw [Lib.run_to_unsafe w ⟨b, 0, none⟩ Tryz.underlying46 Tryz.underlying95 hj (by rw [hjs]; decide) hsh (Nat.zero_lt_succ 1)]
  simp only [Result.andThen]
  rw [Oper.upon_value]
  go_wp2_with fail
  rw [run_callFunc_extern Tryz.func46 (by kernel_rfl) (by kernel_rfl) (by kernel_rfl) (e := Extern.AbiNoEscape.same) (by kernel_rfl)]
  rw [Lib.run_noEscape]
  simp only [Result.andThen]
  rw [Oper.upon_value]
  go_wp2_with fail
  rw [Lib.run_from_unsafe w ⟨b, 0, none⟩ Tryz.underlying95 Tryz.underlying46 hj hsh liesBuilder]
  simp only [Result.andThen]
  rw [Oper.upon_value]
  go_wp2_with fail
  go_end0
  exact ⟨rfl, rfl⟩

/-- copyCheck: behind it the builder holds its own address. -/
theorem copy_any (B b : Nat) (bs : List Value) (w : World) (h : Lib.IsBuilder 49 5 B b bs w) :
    Calls Tryz.prog 30 #[.pointer (some ⟨b, 0, none⟩)] w fun e w' => e = .returned (.tuple #[]) ∧ Lib.BuilderAt 49 5 B b (.pointer (some ⟨b, 0, none⟩)) bs w' ∧ Below B w w' ∧ w'.heap.size = w.heap.size ∧ Kept b w w' := by
  rcases h with h | h
  · refine (copy_fresh b w h.cell0 h.shape h.frozen0).mono ?_
    rintro e w' ⟨rfl, rfl⟩
    exact ⟨rfl, h.used _, (Below.refl B w).setCell (p := ⟨b, 0, none⟩) h.1 _, by simp, Kept.set _ _ _ _⟩
  · refine (copy_used b w h.cell0).mono ?_
    rintro e w' ⟨rfl, rfl⟩
    exact ⟨rfl, h, Below.refl B _, rfl, Kept.refl _ _⟩

theorem str_cells (s : ByteArray) : Lib.strCells s = (bytes s).map byteV := rfl

set_option maxRecDepth 100000 in
set_option maxHeartbeats 1600000 in
theorem writeString_any (B b : Nat) (l : List UInt8) (s : ByteArray) (w : World) (h : Lib.IsBuilder 49 5 B b (l.map byteV) w) (hl : l.length ≤ 1000000) (hs : s.size ≤ 1000000) (hB : B ≤ w.heap.size) :
    Calls Tryz.prog 10 #[.pointer (some ⟨b, 0, none⟩), .string s] w fun e w' => (∃ v, e = .returned v) ∧ Lib.IsBuilder 49 5 B b ((l ++ bytes s).map byteV) w' ∧ Below B w w' ∧ Kept b w w' := by
  obtain ⟨ti, hi0, hz0, hz1, hz2⟩ := info_parts infoByte
  have Hz0 := Lib.hid hz0
  have Hz1 := Lib.hid hz1
  have Hz2 := Lib.hid hz2
  have Hi0 := Lib.hid hi0
  clear hz0 hz1 hz2 hi0
  go_enter Tryz.func10, Tryz.ntmps10
  go_wp2_with fail
  refine (copy_any B b (l.map byteV) w h).mono ?_
  rintro e w1 ⟨rfl, h1, hb1, hs1, hk1⟩
  obtain ⟨hBb, v, hbk, hown, hne⟩ := h1
  rw [List.length_map] at hown
  obtain ⟨va, vc, rfl⟩ := ownsRow_slice hown
  have c1 : w1.cell? ⟨b, 1, none⟩ = some (.slice va l.length vc) := by rw [Lib.cell_of_heap hbk]; rfl
  have hlt : b < w1.heap.size := (Array.getElem?_eq_some_iff.1 hbk).1
  have hB1 : B ≤ w1.heap.size := by omega
  clear hs1
  go_wp2_with (at_builtin; refine Lib.wpList_append_own_string _ rfl _ _ 47 9 rfl B 5 ti Tryz.underlying47 Tryz.underlying9 Hi0.out Hz0.out Hz1.out Hz2.out (.slice va l.length vc) l.length (l.map byteV) rfl hown s rfl ?c3 ?c4 ?c5 ?_)
  case c3 => unfold maxLen; omega
  case c4 => omega
  case c5 => omega
  intro v' w2 hown' hgrow _
  have hb2 : w2.heap[b]? = some (.cells #[.pointer (some ⟨b, 0, none⟩), .slice va l.length vc] 49 (0, 0)) := by
    rw [hgrow.block b hlt (fun e => hne e.symm)]
    exact hbk
  have d1 : w2.cell? ⟨b, 1, none⟩ = some (.slice va l.length vc) := by rw [Lib.cell_of_heap hb2]; rfl
  have f1 : w2.frozen? ⟨b, 1, none⟩ = false := by simp [World.frozen?, hb2]
  obtain ⟨ua, uc, rfl⟩ := ownsRow_slice hown'
  go_wp2_with fail
  go_ret2
  refine ⟨⟨_, rfl⟩, .inr (Lib.BuilderAt.put (T := 49) (e := 5) hBb hb2 (bs' := (l ++ bytes s).map byteV) (by simpa [str_cells, bytes_len] using hown') (by decide)), ?_, hk1.trans ((Kept.grown hown hgrow).trans (Kept.set _ _ _ _))⟩
  exact (hb1.grown hgrow (by have := hb1.size; omega) (fun k hk => (hown.lt k hk).1)).setCell (p := ⟨b, 1, none⟩) hBb _
end Go.Proofs.YtcajkijnpknacaaGreatDoor
