/- sexpr.Parse: a panic of the parser is turned into a fault. -/
import Derived.Test.YtcajkijnpknacaaGreatDoorAll
import Derived.Tactics
import Derived.Tactics2
import Derived.Defers
import Derived.Recover
import Derived.Laws.Pointers
import Derived.RegionTactic
namespace Go.Proofs.YtcajkijnpknacaaGreatDoor
open Go.RowKit

theorem assert_fault (k o : Int) (w : World) : (Instr.typeAssert (.iface 39 (.agg #[.int .i64 k, .int .i64 o])) 20 39 true).run Tryz.prog w = .ok (.tuple #[.agg #[.int .i64 k, .int .i64 o], .bool true]) w := by kernel_rfl

set_option maxHeartbeats 800000 in
theorem catch_panicking (nb fb : Nat) (v x y : Value) (k o : Int) (w : World) (hn : w.cell? ⟨nb, 0, none⟩ = some v) (hf0 : w.cell? ⟨fb, 0, none⟩ = some x) (hf1 : w.cell? ⟨fb, 1, none⟩ = some y)
    (zn : w.frozen? ⟨nb, 0, none⟩ = false) (zf0 : w.frozen? ⟨fb, 0, none⟩ = false) (zf1 : w.frozen? ⟨fb, 1, none⟩ = false) (hne : ¬ fb = nb) :
    CallsD Tryz.prog 33 #[.pointer (some ⟨nb, 0, none⟩), .pointer (some ⟨fb, 0, none⟩)] (.panicking [{ v := .iface 39 (.agg #[.int .i64 k, .int .i64 o]), recovered := false }]) w fun e u' w' =>
      e = .returned (.tuple #[]) ∧ u' = .panicking [{ v := .iface 39 (.agg #[.int .i64 k, .int .i64 o]), recovered := true }] ∧
      w' = ((((w.setCell ⟨nb, 0, none⟩ (.slice none 0 0)).setCell ⟨fb, 0, none⟩ (.int .i64 k)).setCell ⟨fb, 1, none⟩ (.int .i64 o)).alloc (.cells #[.int .i64 k, .int .i64 o] 39)).drew := by
  have hta := assert_fault k o
  have ln := World.block_lt_of_cell? w _ hn
  have lf := World.block_lt_of_cell? w _ hf0
  refine callsD_of_wpS Tryz.func33 rfl fun c₀ cs hu => ?_
  apply wpS_seq
  apply wpS_region
  simp [wpOpsS, go_sem, recoverD, hu, Tryz.ntmps33, Exit.thenS, Array.replicate, List.replicate]
  refine wpS_of_wp ?_
  go_wp2
  go_region
  simp only [Exit.inBlock]
  change bodyPostS _ _ _ _ _ _ _ _ _
  simp [bodyPostS, results, Tryz.results33]

theorem catch_idle (nb fb : Nat) (w : World) :
    CallsD Tryz.prog 33 #[.pointer (some ⟨nb, 0, none⟩), .pointer (some ⟨fb, 0, none⟩)] .returning w fun e u' w' => e = .returned (.tuple #[]) ∧ u' = .returning ∧ w' = w := by
  refine callsD_of_wpS Tryz.func33 rfl fun c₀ cs hu => ?_
  apply wpS_seq
  apply wpS_region
  simp [wpOpsS, go_sem, recoverD, hu, Tryz.ntmps33, Exit.thenS, Array.replicate, List.replicate]
  refine wpS_of_wp ?_
  go_wp2
  cases c₀
  simp_all [bodyPostS, results, Tryz.results33]

/-- What Parse hands back. -/
def ParseDone (s : ByteArray) (w : World) (e : Ending) (w' : World) : Prop :=
  Below w.heap.size w w' ∧ match parse (bytes s) with
    | .ok l => ∃ v F, e = .returned (.tuple #[v, .agg #[.int .i64 0, .int .i64 0]]) ∧ Rd w' F 4 l.dat v ∧ ∀ b o, F b o → w.heap.size ≤ b
    | .error (k, o) => e = .returned (.tuple #[.slice none 0 0, .agg #[.int .i64 k, .int .i64 o]])

/-- The world in which the parser starts. -/
def startW (w : World) (s : ByteArray) : World :=
  (((w.alloc (.cells #[.slice none 0 0] 58)).alloc (.cells #[.int .i64 0, .int .i64 0] 39)).alloc (.cells #[.int .i64 0, .string ⟨#[]⟩, .slice none 0 0, .int .i64 0] 64)).alloc
    (.cells #[.string s, .int .i64 0, .slice (some ⟨w.heap.size + 1 + 1, 0, none⟩) 1 1] 87)

theorem startW_size (w : World) (s : ByteArray) : (startW w s).heap.size = w.heap.size + 4 := by simp [startW]
theorem startW_below (w : World) (s : ByteArray) : Below w.heap.size w (startW w s) :=
  ((((Below.refl _ _).alloc (Nat.le_refl _) _).alloc (by simp) _).alloc (by simp; omega) _).alloc (by simp; omega) _
theorem startW_0 (w : World) (s : ByteArray) : (startW w s).heap[w.heap.size]? = some (.cells #[.slice none 0 0] 58 (0, 0)) := by
  unfold startW
  rw [Below.heap_alloc _ _ _ (by simp; omega), Below.heap_alloc _ _ _ (by simp; omega), Below.heap_alloc _ _ _ (by simp)]
  exact heap_alloc_new w _
theorem startW_1 (w : World) (s : ByteArray) : (startW w s).heap[w.heap.size + 1]? = some (.cells #[.int .i64 0, .int .i64 0] 39 (0, 0)) := by
  unfold startW
  rw [Below.heap_alloc _ _ _ (by simp), Below.heap_alloc _ _ _ (by simp)]
  have h := heap_alloc_new (w.alloc (.cells #[.slice none 0 0] 58)) (.cells #[.int .i64 0, .int .i64 0] 39)
  simpa using h
theorem startW_2 (w : World) (s : ByteArray) : (startW w s).heap[w.heap.size + 1 + 1]? = some (.cells #[.int .i64 0, .string ⟨#[]⟩, .slice none 0 0, .int .i64 0] 64 (0, 0)) := by
  unfold startW
  rw [Below.heap_alloc _ _ _ (by simp)]
  have h := heap_alloc_new ((w.alloc (.cells #[.slice none 0 0] 58)).alloc (.cells #[.int .i64 0, .int .i64 0] 39)) (.cells #[.int .i64 0, .string ⟨#[]⟩, .slice none 0 0, .int .i64 0] 64)
  simpa using h
theorem startW_3 (w : World) (s : ByteArray) : (startW w s).heap[w.heap.size + 1 + 1 + 1]? = some (.cells #[.string s, .int .i64 0, .slice (some ⟨w.heap.size + 1 + 1, 0, none⟩) 1 1] 87 (0, 0)) := by
  have h := heap_alloc_new (((w.alloc (.cells #[.slice none 0 0] 58)).alloc (.cells #[.int .i64 0, .int .i64 0] 39)).alloc (.cells #[.int .i64 0, .string ⟨#[]⟩, .slice none 0 0, .int .i64 0] 64)) (.cells #[.string s, .int .i64 0, .slice (some ⟨w.heap.size + 1 + 1, 0, none⟩) 1 1] 87)
  simpa [startW] using h

theorem parse_start (w : World) (s : ByteArray) : PState (startW w s) (fun _ _ => False) (w.heap.size + 1 + 1) (w.heap.size + 1 + 1 + 1) s 0 [(0, .nil)] := by
  refine ⟨w.heap.size + 1 + 1, 1, _, [.slice none 0 0], startW_3 w s, startW_2 w s, rfl, Nat.le_refl _, by unfold maxLen; omega, rfl, ⟨⟨⟨[], World.ownsRow_nil _ _ _ _, rfl⟩, fun b e => by simp [Value.ownBlock] at e⟩, fun u hu => (by cases hu), trivial⟩, by omega, by omega, Nat.le_refl _, fun _ h => h, fun _ h => h, fun u hu => ?_, by rw [startW_size]; omega, fun _ _ h => h.elim, fun _ _ h => h.elim⟩
  simp at hu
  subst hu
  simp [Value.ownBlock]

theorem allAny (s : ByteArray) (hs : s.size ≤ 9223372036854775807) {w : World} {F : Fixed} {base pb : Nat} (h : PState w F base pb s 0 [(0, .nil)]) :
    Calls Tryz.prog 34 #[.pointer (some ⟨pb, 0, none⟩)] w (Parsed base pb s w) := by
  by_cases h6 : s.size ≤ 65536
  · exact all_any h h6
  · exact all_long h h6 hs

theorem parse_ok {w w1 X : World} {s : ByteArray} {F : Fixed} {p q ob cap : Nat} {l : Fr} {cur : Array Value} {cv : Value} (h : PS w1 F (w.heap.size + 1 + 1) (w.heap.size + 1 + 1 + 1) s q [(p, l)] ob cap cur [cv])
    (hp : parse (bytes s) = .ok l) (hB : Below w.heap.size w X) (hX : ∀ b, w.heap.size + 1 + 1 ≤ b → X.heap[b]? = w1.heap[b]?) : ParseDone s w (.returned (.tuple #[cv, .agg #[.int .i64 0, .int .i64 0]])) X := by
  refine ⟨hB, ?_⟩
  rw [hp]
  obtain ⟨⟨ys, hown, henc⟩, hfix⟩ := h.ok.1
  have hx : Fix F w1 X := fun b o hf => World.cell?_of_block (hX b (h.fb b o hf))
  refine ⟨cv, F, rfl, ⟨ys, RowAt.mono (w := w1) (F := F) ?_ hx fun _ _ h => h, henc.mono hx fun _ _ h => h⟩, fun b o hf => by have := h.fb b o hf; omega⟩
  rcases hown.2 with ⟨rfl, h0⟩ | ⟨g, c, cur', rfl, _, hg, h1, h2, h3, h4⟩
  · refine .inl ⟨rfl, List.eq_nil_of_length_eq_zero ?_⟩
    rw [hown.1, h0]
  · refine .inr ⟨g, 0, l.len, c, rfl, h1, h2, hown.1, fun j u hu => ?_⟩
    have hj : j < l.len * 4 := by
      have := (List.getElem?_eq_some_iff.1 hu).1
      rw [hown.1] at this
      exact this
    rw [Nat.zero_add]
    refine ⟨(hfix g rfl j).2 hj, ?_⟩
    have := hown.cells (g := g) rfl j u hu
    rwa [Addr.add_lit, Nat.zero_add] at this

theorem fault_world {w w1 X : World} {a : Value} {k o : Int} {cs : Array Value} {x y z : Value} {t u v : TypeId}
    (hX : X = ((((w1.setCell ⟨w.heap.size, 0, none⟩ a).setCell ⟨w.heap.size + 1, 0, none⟩ (.int .i64 k)).setCell ⟨w.heap.size + 1, 1, none⟩ (.int .i64 o)).alloc (.cells cs t)).drew)
    (hn : w1.heap[w.heap.size]? = some (.cells #[x] u (0, 0))) (hf : w1.heap[w.heap.size + 1]? = some (.cells #[y, z] v (0, 0))) (hB : Below w.heap.size w w1) :
    X.cell? ⟨w.heap.size, 0, none⟩ = some a ∧ X.cell? ⟨w.heap.size + 1, 0, none⟩ = some (.int .i64 k) ∧ X.cell? ⟨w.heap.size + 1, 1, none⟩ = some (.int .i64 o) ∧ Below w.heap.size w X := by
  have ln : w.heap.size + 1 < w1.heap.size := (Array.getElem?_eq_some_iff.1 hf).1
  have hs : (((w1.setCell ⟨w.heap.size, 0, none⟩ a).setCell ⟨w.heap.size + 1, 0, none⟩ (.int .i64 k)).setCell ⟨w.heap.size + 1, 1, none⟩ (.int .i64 o)).heap.size = w1.heap.size := by simp [World.setCell]
  have hXn : X.heap[w.heap.size]? = some (.cells #[a] u (0, 0)) := by
    rw [hX]
    show (World.alloc _ _).heap[w.heap.size]? = _
    rw [Below.heap_alloc _ _ _ (by rw [hs]; omega), setCell_far (by omega), setCell_far (by omega), setCell_row hn]
    rfl
  have hXf : X.heap[w.heap.size + 1]? = some (.cells #[.int .i64 k, .int .i64 o] v (0, 0)) := by
    rw [hX]
    show (World.alloc _ _).heap[w.heap.size + 1]? = _
    rw [Below.heap_alloc _ _ _ (by rw [hs]; omega), setCell_row (setCell_row (by rw [setCell_far (by omega)]; exact hf))]
    rfl
  refine ⟨by rw [cell_of_row X _ _ _ _ _ hXn]; rfl, by rw [cell_of_row X _ _ _ _ _ hXf]; rfl, by rw [cell_of_row X _ _ _ _ _ hXf]; rfl, ?_⟩
  rw [hX]
  exact (((((hB.setCell (Nat.le_refl _) _).setCell (Nat.le_succ _) _).setCell (Nat.le_succ _) _).alloc (by rw [hs]; omega) _)).drew

set_option maxRecDepth 100000 in
set_option maxHeartbeats 1600000 in
theorem parse_any (s : ByteArray) (w : World) (hs : s.size ≤ 9223372036854775807) : Calls Tryz.prog 13 #[.string s] w (ParseDone s w) := by
  have hmf : ∀ (fn : Fn) (first cap : Array Value) (w : World), (Instr.makeFunc fn first cap).run Tryz.prog w = .ok (.func fn first cap) w := fun _ _ _ _ => rfl
  go_enter_defers Tryz.func13, Tryz.ntmps13
  go_wp2_with fail
  change Calls _ _ _ (startW w s) _
  refine (allAny s hs (parse_start w s)).mono ?_
  rintro e w1 ⟨hb, hcase⟩
  have n0 : w1.heap[w.heap.size]? = some (.cells #[.slice none 0 0] 58 (0, 0)) := (hb.block _ (by omega)).trans (startW_0 w s)
  have f0 : w1.heap[w.heap.size + 1]? = some (.cells #[.int .i64 0, .int .i64 0] 39 (0, 0)) := (hb.block _ (by omega)).trans (startW_1 w s)
  have cn : w1.cell? ⟨w.heap.size, 0, none⟩ = some (.slice none 0 0) := by rw [cell_of_row w1 _ _ _ _ _ n0]; rfl
  have c0 : w1.cell? ⟨w.heap.size + 1, 0, none⟩ = some (.int .i64 0) := by rw [cell_of_row w1 _ _ _ _ _ f0]; rfl
  have c1 : w1.cell? ⟨w.heap.size + 1, 1, none⟩ = some (.int .i64 0) := by rw [cell_of_row w1 _ _ _ _ _ f0]; rfl
  have zn : w1.frozen? ⟨w.heap.size, 0, none⟩ = false := by simp [World.frozen?, n0]
  have z0 : w1.frozen? ⟨w.heap.size + 1, 0, none⟩ = false := by simp [World.frozen?, f0]
  have z1 : w1.frozen? ⟨w.heap.size + 1, 1, none⟩ = false := by simp [World.frozen?, f0]
  have hB : Below w.heap.size w w1 := (startW_below w s).trans (hb.mono (by omega))
  have HB := Lib.hid hB
  have Hb := Lib.hid hb
  have HN := Lib.hid n0
  have HF := Lib.hid f0
  clear hB hb n0 f0
  rcases hcase with ⟨rfl, F, p, l, q, ⟨ob, cap, cur, cvs, hps⟩, hp⟩ | ⟨k, o, rfl, hp⟩
  · obtain ⟨cv, rfl⟩ : ∃ cv, cvs = [cv] := by
      have := hps.ok.len
      match cvs, this with
      | [cv], _ => exact ⟨cv, rfl⟩
    obtain ⟨ys, hown, _⟩ := hps.ok.1.own
    obtain ⟨ca, cc, rfl⟩ := ownsRow_slice hown
    have p2 : w1.cell? ⟨w.heap.size + 1 + 1 + 1, 2, none⟩ = some (.slice (some ⟨ob, 0, none⟩) 1 cap) := hps.p2
    have ct : w1.cell? ⟨ob, 2, none⟩ = some (.slice ca l.len cc) := by
      rw [cell_of_row w1 _ _ _ _ _ hps.ho]; have := hps.top.1; simpa using this
    have HP := Lib.hid hps
    have HR := Lib.hid hp
    clear hps hp hown
    go_wp2_with fail
    refine leaves_cons (f := 33) (args := #[.pointer (some ⟨w.heap.size, 0, none⟩), .pointer (some ⟨w.heap.size + 1, 0, none⟩)]) (by simp) (by simp [go_sem]) ?_
    refine (catch_idle _ _ _).mono ?_
    rintro e u' w'' ⟨rfl, rfl, rfl⟩
    refine ⟨.tuple #[.slice ca l.len cc, .agg #[.int .i64 0, .int .i64 0]], ?_, ?_⟩
    · simp [results, Tryz.results13, go_sem, cn, c0, c1]
    · refine parse_ok HP.out HR.out ?_ ?_
      · exact ((HB.out.setCell (Nat.le_refl _) _).setCell (Nat.le_succ _) _).setCell (Nat.le_succ _) _
      · intro b hb
        rw [setCell_far (by omega), setCell_far (by omega), setCell_far (by omega)]
  · have HR := Lib.hid hp
    clear hp
    refine leaves_cons (f := 33) (args := #[.pointer (some ⟨w.heap.size, 0, none⟩), .pointer (some ⟨w.heap.size + 1, 0, none⟩)]) (by simp) (by simp [go_sem]) ?_
    refine (catch_panicking _ _ _ _ _ k o _ cn c0 c1 zn z0 z1 (by omega)).mono ?_
    rintro e u' w'' ⟨rfl, rfl, hX⟩
    obtain ⟨x0, x1, x2, x3⟩ := fault_world hX HN.out HF.out HB.out
    clear hX
    refine ⟨.tuple #[.slice none 0 0, .agg #[.int .i64 k, .int .i64 o]], ?_, ?_⟩
    · simp [results, Tryz.results13, go_sem, x0, x1, x2]
    · refine ⟨x3, ?_⟩
      rw [HR.out]
end Go.Proofs.YtcajkijnpknacaaGreatDoor
