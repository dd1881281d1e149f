/- strings.Builder: copyCheck, WriteByte, WriteString. -/
import Derived.Test.YtnaabplppfikcaaDoorQuote
import Derived.Lib.Builder
import Derived.Lib.AppendStr
import Derived.Laws.Externs
namespace Go.Proofs.YtnaabplppfikcaaDoor
open Go.RowKit

/-- What is neither the builder nor a row of bytes is as it was. -/
def Kept (b : Nat) (w w' : World) : Prop := w.heap.size ≤ w'.heap.size ∧ ∀ x cs T fr, x ≠ b → T ≠ 5 → w.heap[x]? = some (.cells cs T fr) → w'.heap[x]? = some (.cells cs T fr)
theorem Kept.refl (b : Nat) (w : World) : Kept b w w := ⟨Nat.le_refl _, fun _ _ _ _ _ _ h => h⟩
theorem Kept.trans {b : Nat} {w w' w'' : World} (h : Kept b w w') (k : Kept b w' w'') : Kept b w w'' := ⟨Nat.le_trans h.1 k.1, fun x cs T fr h1 h2 h3 => k.2 x cs T fr h1 h2 (h.2 x cs T fr h1 h2 h3)⟩
theorem Kept.alloc (b : Nat) (w : World) (o : Obj) : Kept b w (w.alloc o) := ⟨by simp, fun x cs T fr _ _ h => (Below.heap_alloc w o x (Array.getElem?_eq_some_iff.1 h).1).trans h⟩
theorem Kept.set (b o : Nat) (v : Value) (w : World) : Kept b w (w.setCell ⟨b, o, none⟩ v) := ⟨by simp, fun x cs T fr hx _ h => (setCell_far hx).trans h⟩
theorem Kept.grown {b base n : Nat} {w w' : World} {v : Value} {xs : List Value} (hown : w.ownsRow base 5 1 v n xs) (hg : w.grownBy w' v.ownBlock) : Kept b w w' :=
  ⟨hg.size, fun x cs T fr _ hT h => (hg.block x (Array.getElem?_eq_some_iff.1 h).1 (fun e => by
    rcases hown.2 with ⟨rfl, _⟩ | ⟨g, cap, cur, rfl, _, hgg, _⟩
    · simp [Value.ownBlock] at e
    · have : x = g := by simpa [Value.ownBlock] using e
      subst this
      rw [hgg] at h
      injection h with h
      injection h with _ h _
      exact hT h.symm)).trans h⟩

theorem liesBuilder : liesAt Tryd.prog Tryd.prog.depth 71 (2 / Tryd.prog.cellsOf 71) 0 71 1 = true := by kernel_rfl
theorem sizeBuilder : (Tryd.prog.info? 71).map (·.size) = some 2 := by kernel_rfl

set_option maxRecDepth 100000 in
set_option maxHeartbeats 1600000 in
theorem copy_used (b : Nat) (w : World) (h0 : w.cell? ⟨b, 0, none⟩ = some (.pointer (some ⟨b, 0, none⟩))) : Calls Tryd.prog 65 #[.pointer (some ⟨b, 0, none⟩)] w fun e w' => e = .returned (.tuple #[]) ∧ w' = w := by
  obtain ⟨j, hj, _⟩ := Option.map_eq_some_iff.1 sizeBuilder
  go_enter Tryd.func65, Tryd.ntmps65
  go_wp2_with fail
  rw [Lib.run_neq_ptr_same w _ Tryd.underlying68 hj]
  go_wp2_with fail
  go_end0
  exact ⟨rfl, rfl⟩

set_option maxRecDepth 100000 in
set_option maxHeartbeats 1600000 in
theorem copy_fresh (b : Nat) (w : World) (h0 : w.cell? ⟨b, 0, none⟩ = some (.pointer none)) (hsh : w.shape? b = some (71, 2)) (hf : w.frozen? ⟨b, 0, none⟩ = false) :
    Calls Tryd.prog 65 #[.pointer (some ⟨b, 0, none⟩)] w fun e w' => e = .returned (.tuple #[]) ∧ w' = w.setCell ⟨b, 0, none⟩ (.pointer (some ⟨b, 0, none⟩)) := by
  obtain ⟨j, hj, hjs⟩ := Option.map_eq_some_iff.1 sizeBuilder
  go_enter Tryd.func65, Tryd.ntmps65
  go_wp2_with fail
  rw [Lib.run_to_unsafe w ⟨b, 0, none⟩ Tryd.underlying68 Tryd.underlying102 hj (by rw [hjs]; decide) hsh (Nat.zero_lt_succ 1)]
  simp only [Result.andThen]
  rw [Oper.upon_value]
  go_wp2_with fail
  rw [run_callFunc_extern Tryd.func73 (by kernel_rfl) (by kernel_rfl) (by kernel_rfl) (e := Extern.AbiNoEscape.same) (by kernel_rfl)]
  rw [Lib.run_noEscape]
  simp only [Result.andThen]
  rw [Oper.upon_value]
  go_wp2_with fail
  rw [Lib.run_from_unsafe w ⟨b, 0, none⟩ Tryd.underlying102 Tryd.underlying68 hj hsh liesBuilder]
  simp only [Result.andThen]
  rw [Oper.upon_value]
  go_wp2_with fail
  go_end0
  exact ⟨rfl, rfl⟩

/-- copyCheck: behind it the builder holds its own address. -/
theorem copy_any (B b : Nat) (bs : List Value) (w : World) (h : Lib.IsBuilder 71 5 B b bs w) :
    Calls Tryd.prog 65 #[.pointer (some ⟨b, 0, none⟩)] w fun e w' => e = .returned (.tuple #[]) ∧ Lib.BuilderAt 71 5 B b (.pointer (some ⟨b, 0, none⟩)) bs w' ∧ Below B w w' ∧ w'.heap.size = w.heap.size ∧ Kept b w w' := by
  rcases h with h | h
  · refine (copy_fresh b w h.cell0 h.shape h.frozen0).mono ?_
    rintro e w' ⟨rfl, rfl⟩
    exact ⟨rfl, h.used _, (Below.refl B w).setCell (p := ⟨b, 0, none⟩) h.1 _, by simp, Kept.set _ _ _ _⟩
  · refine (copy_used b w h.cell0).mono ?_
    rintro e w' ⟨rfl, rfl⟩
    exact ⟨rfl, h, Below.refl B _, rfl, Kept.refl _ _⟩

set_option maxRecDepth 100000 in
set_option maxHeartbeats 1600000 in
theorem writeByte_any (B b : Nat) (l : List UInt8) (c : UInt8) (z : Int) (hz : z = (c.toNat : Int)) (w : World) (h : Lib.IsBuilder 71 5 B b (l.map byteV) w) (hl : l.length ≤ 1000000) (hB : B ≤ w.heap.size) :
    Calls Tryd.prog 58 #[.pointer (some ⟨b, 0, none⟩), .int .u8 z] w fun e w' => e = .returned .nilIface ∧ Lib.IsBuilder 71 5 B b ((l ++ [c]).map byteV) w' ∧ Below B w w' ∧ Kept b w w' := by
  subst hz
  obtain ⟨ti, hi0, hz0, hz1, hz2⟩ := info_parts infoByte
  have Hz0 := Lib.hid hz0
  have Hz1 := Lib.hid hz1
  have Hz2 := Lib.hid hz2
  have Hi0 := Lib.hid hi0
  clear hz0 hz1 hz2 hi0
  go_enter Tryd.func58, Tryd.ntmps58
  go_wp2_with fail
  refine (copy_any B b (l.map byteV) w h).mono ?_
  rintro e w1 ⟨rfl, h1, hb1, hs1, hk1⟩
  obtain ⟨hBb, v, hbk, hown, hne⟩ := h1
  rw [List.length_map] at hown
  obtain ⟨va, vc, rfl⟩ := ownsRow_slice hown
  have c1 : w1.cell? ⟨b, 1, none⟩ = some (.slice va l.length vc) := by rw [Lib.cell_of_heap hbk]; rfl
  have hlt : b < w1.heap.size := (Array.getElem?_eq_some_iff.1 hbk).1
  have hB1 : B ≤ w1.heap.size := by omega
  clear hs1
  go_wp2_with (at_builtin; refine wpList_append_fix _ rfl _ _ 69 rfl B 5 ti (.int .u8 0) 1 1 Tryd.underlying69 Hi0.out Hz0.out Hz1.out Hz2.out rfl (by omega) (.slice va l.length vc) l.length (l.map byteV) rfl (World.ownsRow.alloc hown _) ⟨w1.heap.size, 0, none⟩ 1 1 [.int .u8 (c.toNat : Int)] rfl rfl ?c1 ?c2 ?c3 ?c4 ?c5 ?c6 ?_)
  case c1 => exact cell_one_new _ _ _
  case c2 => simp [Value.oneCell']
  case c3 => omega
  case c4 => unfold maxLen; omega
  case c5 => omega
  case c6 => simp; omega
  intro g c2 w2 hA
  have hb2 : w2.heap[b]? = some (.cells #[.pointer (some ⟨b, 0, none⟩), .slice va l.length vc] 71 (0, 0)) := by
    rw [hA.grown.block b (by simp; omega) (fun e => hne e.symm), Below.heap_alloc _ _ _ hlt]
    exact hbk
  have d1 : w2.cell? ⟨b, 1, none⟩ = some (.slice va l.length vc) := by rw [Lib.cell_of_heap hb2]; rfl
  have f1 : w2.frozen? ⟨b, 1, none⟩ = false := by simp [World.frozen?, hb2]
  go_wp2_with fail
  go_ret
  have hgb : g ≠ b := by
    rcases hA.lies with e | ⟨e, _⟩
    · intro he; subst he; exact hne e
    · simp at e; omega
  refine ⟨rfl, .inr ⟨hBb, .slice (some ⟨g, 0, none⟩) (l.length + 1) c2, setCell_row hb2, ?_, ?_⟩, ?_, (hk1.trans (Kept.alloc _ _ _)).trans ((Kept.grown (World.ownsRow.alloc hown _) hA.grown).trans (Kept.set _ _ _ _))⟩
  · have ho := ownsRow_of_block (w' := w2.setCell ⟨b, 1, none⟩ (.slice (some ⟨g, 0, none⟩) (l.length + 1) c2)) hA.own (fun x e => by
      have : g = x := by simpa [Value.ownBlock] using e
      subst this
      exact setCell_far hgb)
    simpa [byteV] using ho
  · simp only [Value.ownBlock, ne_eq, Option.some.injEq]; exact hgb
  · exact (hb1.trans ((((Below.refl _ _).alloc (Nat.le_refl _) _).mono hB1).grown hA.grown (by simp; omega) (fun k e => (hown.lt k e).1))).setCell (p := ⟨b, 1, none⟩) hBb _

theorem str_cells (s : ByteArray) : Lib.strCells s = (bytes s).map byteV := rfl

set_option maxRecDepth 100000 in
set_option maxHeartbeats 1600000 in
theorem writeString_any (B b : Nat) (l : List UInt8) (s : ByteArray) (w : World) (h : Lib.IsBuilder 71 5 B b (l.map byteV) w) (hl : l.length ≤ 1000000) (hs : s.size ≤ 1000000) (hB : B ≤ w.heap.size) :
    Calls Tryd.prog 57 #[.pointer (some ⟨b, 0, none⟩), .string s] w fun e w' => (∃ v, e = .returned v) ∧ Lib.IsBuilder 71 5 B b ((l ++ bytes s).map byteV) w' ∧ Below B w w' ∧ Kept b w w' := by
  obtain ⟨ti, hi0, hz0, hz1, hz2⟩ := info_parts infoByte
  have Hz0 := Lib.hid hz0
  have Hz1 := Lib.hid hz1
  have Hz2 := Lib.hid hz2
  have Hi0 := Lib.hid hi0
  clear hz0 hz1 hz2 hi0
  go_enter Tryd.func57, Tryd.ntmps57
  go_wp2_with fail
  refine (copy_any B b (l.map byteV) w h).mono ?_
  rintro e w1 ⟨rfl, h1, hb1, hs1, hk1⟩
  obtain ⟨hBb, v, hbk, hown, hne⟩ := h1
  rw [List.length_map] at hown
  obtain ⟨va, vc, rfl⟩ := ownsRow_slice hown
  have c1 : w1.cell? ⟨b, 1, none⟩ = some (.slice va l.length vc) := by rw [Lib.cell_of_heap hbk]; rfl
  have hlt : b < w1.heap.size := (Array.getElem?_eq_some_iff.1 hbk).1
  have hB1 : B ≤ w1.heap.size := by omega
  clear hs1
  go_wp2_with (at_builtin; refine Lib.wpList_append_own_string _ rfl _ _ 69 9 rfl B 5 ti Tryd.underlying69 Tryd.underlying9 Hi0.out Hz0.out Hz1.out Hz2.out (.slice va l.length vc) l.length (l.map byteV) rfl hown s rfl ?c3 ?c4 ?c5 ?_)
  case c3 => unfold maxLen; omega
  case c4 => omega
  case c5 => omega
  intro v' w2 hown' hgrow _
  have hb2 : w2.heap[b]? = some (.cells #[.pointer (some ⟨b, 0, none⟩), .slice va l.length vc] 71 (0, 0)) := by
    rw [hgrow.block b hlt (fun e => hne e.symm)]
    exact hbk
  have d1 : w2.cell? ⟨b, 1, none⟩ = some (.slice va l.length vc) := by rw [Lib.cell_of_heap hb2]; rfl
  have f1 : w2.frozen? ⟨b, 1, none⟩ = false := by simp [World.frozen?, hb2]
  obtain ⟨ua, uc, rfl⟩ := ownsRow_slice hown'
  go_wp2_with fail
  go_ret2
  refine ⟨⟨_, rfl⟩, .inr (Lib.BuilderAt.put (T := 71) (e := 5) hBb hb2 (bs' := (l ++ bytes s).map byteV) (by simpa [str_cells, bytes_len] using hown') (by decide)), ?_, hk1.trans ((Kept.grown hown hgrow).trans (Kept.set _ _ _ _))⟩
  exact (hb1.grown hgrow (by have := hb1.size; omega) (fun k hk => (hown.lt k hk).1)).setCell (p := ⟨b, 1, none⟩) hBb _
end Go.Proofs.YtnaabplppfikcaaDoor
