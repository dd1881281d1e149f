/- telmake.Repeat at a string of one byte, telmake.Deep. -/
import Derived.Test.YtnaabplppfikcaaQuoted
import Derived.Deep.AppendSrc
namespace Go.Proofs.Ytnaabplppfikcaa
open Go.RowKit

/-- append of a string onto bytes, where there is room. -/
theorem wpList_append_room_src {P : Program} (w : World) {ops : Array Oper} {rest : List Oper} {o : Oper} {a : Act} {Q : Exit → Act → World → Prop} (hgd : o.guard = none) (s x : Operand) (t tx : TypeId)
    (ho : o.op = .call { callee := .builtin .append, args := #[s, x], argTypes := #[t, tx] }) (e : TypeId) (i : TypeInfo) (ht : P.underlying t = some (.slice e)) (hi : P.info? e = some i) (b off n cap : Nat) (hs : a.eval s = .slice (some ⟨b, off, none⟩) n cap)
    (v : Value) (hx : a.eval x = v) (m : Nat) (news : List Value) (hsrc : Src P i.size tx v m news w) (hroom : n + m ≤ cap)
    (hc : ∀ j, j < news.length → (w.cell? ⟨b, off + n * i.size + j, none⟩).isSome = true) (hf : ∀ j, j < news.length → w.frozen? ⟨b, off + n * i.size + j, none⟩ = false)
    (h : wpList P ops Q rest (a.put o.dst (.slice (some ⟨b, off, none⟩) (n + m) cap)) (w.setCells b (off + n * i.size) news)) : wpList P ops Q (o :: rest) a w := by
  refine wpList_plain hgd fun K hK => ?_
  have hr := run_append_room_src (P := P) w t tx o.type e i ht hi b off n cap v m news hsrc hroom hc hf
  unfold Oper.wp execOp
  simp only [ho, resolve, invoke, builtin, Sem.run_bind, Sem.run_pure, Result.andThen_ok, List.map_toArray, List.map_cons, List.map_nil, hs, hx, hr]
  exact hK _ _ h

/-- So many times one byte. -/
def rep (n : Nat) (c : UInt8) : ByteArray := ⟨(List.replicate n c).toArray⟩
theorem bytes_rep (n : Nat) (c : UInt8) : bytes (rep n c) = List.replicate n c := by simp [bytes, rep]
theorem rep_size (n : Nat) (c : UInt8) : (rep n c).size = n := by rw [← bytes_len, bytes_rep, List.length_replicate]
theorem bytes_append (a b : ByteArray) : bytes (a ++ b) = bytes a ++ bytes b := by simp [bytes, ByteArray.data_append]

def RepRel (w : World) (c : UInt8) (n : Nat) (k : Nat) (bv iv : Value) (wr : World) : Prop :=
  ∃ (i : Nat) (cur : Array Value), k = n - i ∧ i ≤ n ∧ iv = .int .i64 (i : Nat) ∧ bv = .slice (some ⟨w.heap.size, 0, none⟩) i n ∧ wr.heap[w.heap.size]? = some (.cells cur 5 (0, 0)) ∧ cur.size = n ∧ cur.toList.take i = (List.replicate i c).map byteV ∧ Below w.heap.size w wr

set_option maxRecDepth 100000 in
set_option maxHeartbeats 1600000 in
theorem repeat_any (c : UInt8) (n : Nat) (hn : n ≤ 70000) (w : World) : Calls Try.prog 12 #[.string ⟨#[c]⟩, .int .i64 n] w fun e w' => e = .returned (.string (rep n c)) ∧ Below w.heap.size w w' := by
  obtain ⟨ti, hi0, hz0, hz1, hz2⟩ := info_parts infoByte
  have hmk : ∀ W : World, (Instr.makeSlice 36 (.int .i64 0) (.int .i64 (n : Int))).run Try.prog W = .ok (.slice (some ⟨W.heap.size, 0, none⟩) 0 n) (W.alloc (.cells (madeCells #[.int .u8 0] n) 5)) := fun W => by
    have h := run_make (P := Try.prog) W 36 5 ti (.int .u8 0) Try.underlying36 hi0 hz0 .i64 .i64 0 (n : Int) (by omega) (by omega) (by rw [hz2]; omega) (by omega)
    rw [hz1] at h
    simpa [Value.cells] using h
  have hmax : max (n : Int) 0 = (n : Int) := by omega
  have Hz1 := Lib.hid hz1
  have Hi0 := Lib.hid hi0
  clear hz0 hz1 hz2 hi0
  have i0 : (0 : Int) ≤ (n : Int) := by omega
  go_enter Try.func12, Try.ntmps12
  go_wp2_with fail
  go_loopg [5, 6] n (fun k bv iv wr => RepRel w c n k bv iv wr)
  case atStart => exact ⟨0, _, rfl, Nat.zero_le _, rfl, rfl, heap_alloc_new w _, by simp [madeCells], rfl, (Below.refl _ _).alloc (Nat.le_refl _) _⟩
  case round =>
    obtain ⟨i, cur, hk, hi, rfl, rfl, hh, hcs, htk, hb⟩ := hrel
    have A1 := Lib.hid hk
    have A2 := Lib.hid hh
    have A3 := Lib.hid hcs
    have A4 := Lib.hid htk
    have A5 := Lib.hid hb
    clear hk hh hcs htk hb
    by_cases hlt : i < n
    · have i1 : (i : Int) < (n : Int) := by omega
      have hsrc : Src Try.prog ti.size 9 (.string ⟨#[c]⟩) 1 [byteV c] wr := by rw [Hz1.out]; exact Src.ofString wr Try.underlying9 ⟨#[c]⟩
      have HS := Lib.hid hsrc
      clear hsrc
      go_wp2_with (at_builtin; refine wpList_append_room_src _ rfl _ _ 36 9 rfl 5 ti Try.underlying36 Hi0.out w.heap.size 0 i n rfl (.string ⟨#[c]⟩) rfl 1 [byteV c] HS.out (by omega) ?hc ?hf ?_)
      case hc =>
        intro j hj
        have hj0 : j = 0 := by simp at hj; omega
        subst hj0
        rw [cell_of_row wr _ _ _ _ _ A2.out, Hz1.out]
        have := A3.out
        simp; omega
      case hf => intro j _; simp [World.frozen?, A2.out]
      have hrel' : RepRel w c n (n - (i + 1)) (.slice (some ⟨w.heap.size, 0, none⟩) (i + 1) n) (.int .i64 ((i + 1 : Nat) : Int)) (wr.setCells w.heap.size (i * ti.size) [byteV c]) := by
        refine ⟨i + 1, cur.setIfInBounds i (byteV c), rfl, by omega, rfl, rfl, ?_, by simpa using A3.out, ?_, ?_⟩
        · rw [Hz1.out, Nat.mul_one]
          exact setCell_row A2.out
        · have hl : i < cur.toList.length := by have := A3.out; simp; omega
          rw [Array.toList_setIfInBounds, List.take_succ_eq_append_getElem (by simpa using hl), List.take_set_of_le (Nat.le_refl _), A4.out, List.getElem_set_self, List.replicate_succ', List.map_append]
          rfl
        · exact A5.out.setCell (Nat.le_refl _) _
      have HR2 := Lib.hid hrel'
      clear hrel'
      go_wp2_with fail
      go_roundg (n - (i + 1))
      case measure => have := A1.out; omega
      case rel => exact HR2.out
    · have hin : i = n := by omega
      subst hin
      have hown : wr.ownsRow w.heap.size 5 1 (.slice (some ⟨w.heap.size, 0, none⟩) (List.replicate i c).length i) (List.replicate i c).length ((List.replicate i c).map byteV) :=
        ⟨by simp, .inr ⟨w.heap.size, i, cur, rfl, Nat.le_refl _, A2.out, by simp, by unfold maxLen; omega, by rw [A3.out]; simp, by rw [← A4.out]; simp⟩⟩
      have hcv := convert_own (P := Try.prog) hown (fun _ _ => rfl) 36 9 Try.underlying36 Try.underlying5 Try.underlying9
      rw [List.length_replicate] at hcv
      change _ = Result.ok (Value.string (rep i c)) wr at hcv
      clear hown
      go_wp2_with fail
      go_ret
      exact ⟨rfl, A5.out⟩

theorem deep_any (n : Nat) (hn : n ≤ 1000) (w : World) : Calls Try.prog 13 #[.int .i64 n] w fun e w' => e = .returned (.string (rep n 40 ++ rep n 41)) ∧ Below w.heap.size w w' := by
  have z1 : (rep n 40).size ≤ 1000 := by rw [rep_size]; omega
  have z2 : (rep n 41).size ≤ 1000 := by rw [rep_size]; omega
  go_enter Try.func13, Try.ntmps13
  go_wp2_with fail
  refine (repeat_any 40 n (by omega) w).mono ?_
  rintro e w1 ⟨rfl, hb1⟩
  have A1 := Lib.hid hb1
  clear hb1
  go_wp2_with fail
  refine (repeat_any 41 n (by omega) w1).mono ?_
  rintro e w2 ⟨rfl, hb2⟩
  have A2 := Lib.hid (A1.out.trans (hb2.mono A1.out.size))
  clear hb2
  go_wp2_with fail
  go_ret
  exact ⟨rfl, A2.out⟩
end Go.Proofs.Ytnaabplppfikcaa
