/- telref1.ParseNodes. -/
import Derived.Test.YtnaabplppfikcaaRefNodes
import Derived.Test.YtnaabplppfikcaaParse
namespace Go.Proofs.Ytnaabplppfikcaa
open Go.RowKit

section
variable {w : World} {s : ByteArray}

theorem rparse_long (s : ByteArray) (w : World) (hs : ¬ s.size ≤ 65536) (hs' : s.size ≤ 9223372036854775807) : Calls Try.prog 7 #[.string s] w (ParseDone s w) := by
  have hR : parse (bytes s) = .error (4, 0) := by rw [parse, bytes_len, if_neg hs]
  have i1 : (65536 : Int) < (s.size : Int) := by omega
  have HR := Lib.hid hR
  clear hR
  go_enter Try.func7, Try.ntmps7
  go_wp2_with fail
  refine bodyPost_ret (v := .tuple #[.slice none 0 0, .agg #[.int .i64 4, .int .i64 0]]) (by simp [results, Try.results7, go_sem]) rfl ?_
  refine ⟨?_, by rw [HR.out]; rfl⟩
  first
    | exact (Below.refl _ _).alloc (Nat.le_refl _) _
    | exact (((Below.refl _ _).alloc (Nat.le_refl _) _).setCell (Nat.le_refl _) _).setCell (Nat.le_refl _) _

/-- The world in which the reference starts. -/
def rstartW (w : World) (s : ByteArray) : World :=
  (w.alloc (.cells #[.int .i64 0, .int .i64 0] 25)).alloc (.cells #[.string s, .int .i64 0, .int .i64 0, .int .i64 0] 49)
theorem rstartW_0 (w : World) (s : ByteArray) : (rstartW w s).heap[w.heap.size]? = some (.cells #[.int .i64 0, .int .i64 0] 25 (0, 0)) := by
  unfold rstartW
  rw [Below.heap_alloc _ _ _ (by simp)]
  exact heap_alloc_new w _
theorem rstartW_1 (w : World) (s : ByteArray) : (rstartW w s).heap[w.heap.size + 1]? = some (.cells #[.string s, .int .i64 0, .int .i64 0, .int .i64 0] 49 (0, 0)) := by
  have h := heap_alloc_new (w.alloc (.cells #[.int .i64 0, .int .i64 0] 25)) (.cells #[.string s, .int .i64 0, .int .i64 0, .int .i64 0] 49)
  simpa [rstartW] using h
theorem rstartW_below (w : World) (s : ByteArray) : Below w.heap.size w (rstartW w s) :=
  ((Below.refl _ _).alloc (Nat.le_refl _) _).alloc (by simp) _

theorem rparse_ok {w w1 X : World} {s : ByteArray} {F : Fixed} {v : Value} {l : Fr} {n base : Nat} {ys : List Value} (hrow : Row (rstartW w s) w1 F v l n ys) (hown : w1.ownsRow base 52 4 v n ys)
    (hp : parse (bytes s) = .ok l) (hB : Below w.heap.size w X) (hX : ∀ b, w.heap.size + 1 + 1 ≤ b → X.heap[b]? = w1.heap[b]?) : ParseDone s w (.returned (.tuple #[v, .agg #[.int .i64 0, .int .i64 0]])) X := by
  refine ⟨hB, ?_⟩
  rw [hp]
  have hs : (rstartW w s).heap.size = w.heap.size + 1 + 1 := by simp [rstartW]
  have hx : Fix F w1 X := fun b o hf => World.cell?_of_block (hX b (by have := (hrow.low b o hf).1; omega))
  exact ⟨v, F, rfl, (hrow.rd hown).mono hx fun _ _ h => h⟩

set_option maxRecDepth 100000 in
set_option maxHeartbeats 1600000 in
theorem rparse_any (s : ByteArray) (w : World) (hs : s.size ≤ 65536) : Calls Try.prog 7 #[.string s] w (ParseDone s w) := by
  have i1 : ¬ (65536 : Int) < (s.size : Int) := by omega
  have hpar : parse (bytes s) = go ((bytes s).drop 0) 0 .plain [(0, .nil)] := by rw [parse, bytes_len, if_pos hs, List.drop_zero]
  have HP := Lib.hid hpar
  clear hpar
  go_enter Try.func7, Try.ntmps7
  go_wp2_with fail
  change Calls _ _ _ (rstartW w s) _
  refine (nodes_all 40 0 rfl (rstartW w s) (w.heap.size + 1) s 0 (rstartW_1 w s) hs (Nat.zero_le _)).mono ?_
  rintro e w1 ⟨v, n, ys, q, fk, fo, rfl, hl, hown, hqb, hq0, hcase⟩
  have hs0 : (rstartW w s).heap.size = w.heap.size + 1 + 1 := by simp [rstartW]
  have n0 : w1.heap[w.heap.size]? = some (.cells #[.int .i64 0, .int .i64 0] 25 (0, 0)) := (hl.other _ (by omega) (by omega)).trans (rstartW_0 w s)
  have c0 : w1.cell? ⟨w.heap.size, 0, none⟩ = some (.int .i64 0) := by rw [cell_of_row w1 _ _ _ _ _ n0]; rfl
  have c1 : w1.cell? ⟨w.heap.size, 1, none⟩ = some (.int .i64 0) := by rw [cell_of_row w1 _ _ _ _ _ n0]; rfl
  have z0 : w1.frozen? ⟨w.heap.size, 0, none⟩ = false := by simp [World.frozen?, n0]
  have z1 : w1.frozen? ⟨w.heap.size, 1, none⟩ = false := by simp [World.frozen?, n0]
  have p2 := hl.p2
  have p3 := hl.p3
  have hB : Below w.heap.size w w1 := (rstartW_below w s).trans ⟨hl.os, hl.tape, hl.output, hl.size, fun b hb => hl.other b (by omega) (by omega)⟩
  have hlw : w.heap.size + 1 < w1.heap.size := by have := hl.size; omega
  obtain ⟨va, vc, hv⟩ := ownsRow_slice hown
  subst hv
  have HB := Lib.hid hB
  have HO := Lib.hid hown
  clear hB hl hown n0 hs0
  rcases hcase with ⟨hf, he⟩ | ⟨rfl, rfl, hqs, l, F, hrow, h0, _⟩
  · have gf : (fk != 0) = true := by simpa using hf
    have HE := Lib.hid (he 0 [] rfl)
    clear hf he
    go_wp2_with fail
    go_region
    go_wp2_with fail
    refine bodyPost_ret (v := .tuple #[.slice none 0 0, .agg #[.int .i64 fk, .int .i64 fo]]) (by simp [results, Try.results7, go_sem, c0, c1]) rfl ?_
    exact ⟨((HB.out.setCell (Nat.le_refl _) _).setCell (Nat.le_refl _) _).drew, by rw [HP.out, HE.out]⟩
  · have HE := Lib.hid (h0 rfl 0)
    have HR := Lib.hid hrow
    clear h0 hrow
    go_wp2_with fail
    refine bodyPost_ret (v := .tuple #[.slice va n vc, .agg #[.int .i64 0, .int .i64 0]]) (by simp [results, Try.results7, go_sem, c0, c1]) rfl ?_
    refine rparse_ok HR.out HO.out (HP.out.trans HE.out) ((HB.out.setCell (Nat.le_refl _) _).setCell (Nat.le_refl _) _) ?_
    intro b hb
    rw [setCell_far (by omega), setCell_far (by omega)]

theorem rparseAny (s : ByteArray) (w : World) (hs : s.size ≤ 9223372036854775807) : Calls Try.prog 7 #[.string s] w (ParseDone s w) := by
  by_cases h : s.size ≤ 65536
  · exact rparse_any s w h
  · exact rparse_long s w h hs
end
end Go.Proofs.Ytnaabplppfikcaa
