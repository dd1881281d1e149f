/- Operations: slices and maps that are made, strings that are ranged over. -/
import Derived.Test.YtofdflmobdinaaaGreatDoorOp5
import Derived.Laws.MakeOwn
import Derived.Laws.RangeString
namespace Go.Proofs.YtofdflmobdinaaaGreatDoor
open Go Go.RowKit
variable {E : Env} {X : Ctx}

section
variable {P : Program} {base : Nat} {ρ : Mp} {s s' : St} {w : World} {tm : Tr AV} {a : Act} {o : Oper} {r : ARes}

theorem good_makeSlice (t : TypeId) (l c : Operand) (ho : o.op = .makeSlice t l c) (hf : FR E ρ tm a.tmps) (hg : Glob E X P ρ) (h : HR E base ρ s w) (he : evOp P tm s o = some r) : Good E P base ρ s w (execOp a.eval o) r := by
  simp only [evOp, ho] at he
  split at he
  · rename_i e k1 n k2 k h0 h1 h2
    have hu := elemSl_ok h0
    split at he
    · rename_i z i h3 h4
      split at he
      · rename_i hc
        obtain ⟨hnk, hki, hk, hzl, hb⟩ := hc
        simp only [Option.some.injEq] at he
        subst he
        obtain ⟨i', zv, h5, h6, h7⟩ := zeroA_ok (E := E) (ρ := ρ) h3
        obtain rfl := Option.some.inj (h4.symm.trans h5)
        have hl : a.eval l = .int k1 (n : Int) := rd_ok hf hg h1
        have hcv : a.eval c = .int k2 (k : Int) := rd_ok hf hg h2
        have hzs : zv.cells.size = i.size := by rw [← hzl, ← h7.length]; simp
        have hb' : (i.bytes : Int) * (k : Int) ≤ 281474976710656 := by
          have h : ((i.bytes * k : Nat) : Int) ≤ 281474976710656 := by omega
          rwa [Int.natCast_mul] at h
        have hrun := run_make (P := P) w t e i zv hu h4 h6 k1 k2 n k (by omega) (by omega) hb' (by omega)
        simp only [Int.toNat_natCast] at hrun
        have hmade : madeCells zv.cells (k * i.size) = (Array.range (k * i.size)).map fun j => zv.cells[j % i.size]! := by unfold madeCells; rw [hzs]
        have hrow : VRs E ρ (List.flatten (List.replicate k z)) (madeCells zv.cells (k * i.size)).toList := by
          rw [hmade, rows_flat zv.cells i.size hzs k]; exact h7.flat k
        have hsz : (madeCells zv.cells (k * i.size)).size = k * i.size := size_madeCells _ _
        have hn := h.cells (cs := List.flatten (List.replicate k z)) (arr := madeCells zv.cells (k * i.size)) e (w.alloc (.cells (madeCells zv.cells (k * i.size)) e)) ⟨rfl, rfl, rfl⟩ rfl (by rw [← hrow.length, List.take_length]; exact hrow)
        refine ⟨_, _, _, ?_, ⟨_, k, Mp.on_same _ _ _, rfl, hnk, Nat.le_refl _, by unfold maxLen; omega, by rw [hsz]; simp⟩, hn.1, hn.2⟩
        simp [execOp, ho, hl, hcv, hrun]
      · cases he
    · cases he
  · cases he

theorem good_makeMap (t : TypeId) (x : Option Operand) (ho : o.op = .makeMap t x) (hf : FR E ρ tm a.tmps) (hg : Glob E X P ρ) (h : HR E base ρ s w) (he : evOp P tm s o = some r) : Good E P base ρ s w (execOp a.eval o) r := by
  have hx : (x = none ∨ ∃ y, x = some y ∧ (∃ k n, a.eval y = .int k n) ∧ ∃ k e, P.underlying t = some (.map k e)) ∧ r = .val (.map s.nx) (s.new (.map [])) := by
    simp only [evOp, ho] at he
    split at he
    · simp only [Option.some.injEq] at he
      exact ⟨.inl rfl, he.symm⟩
    · split at he
      · rename_i y k n k' e' h1 h2
        simp only [Option.some.injEq] at he
        exact ⟨.inr ⟨_, rfl, ⟨_, _, rd_ok hf hg h1⟩, _, _, h2⟩, he.symm⟩
      · cases he
  obtain ⟨hx, rfl⟩ := hx
  have hn := h.pushed (.map []) 0 (.map #[] 0) (w' := w.alloc (.map #[] 0)) ⟨rfl, rfl, rfl⟩ rfl fun hq => ⟨h.base, #[], 0, hq, rfl⟩
  refine ⟨.map (some w.heap.size), _, _, ?_, ⟨_, Mp.on_same _ _ _, rfl⟩, hn.1, hn.2⟩
  rcases hx with rfl | ⟨y, rfl, ⟨k, n, hy⟩, k', e', hu⟩
  · simp [execOp, ho, Instr.makeMap, newObj, Sem.run]
  · simp [execOp, ho, Instr.makeMap, newObj, Sem.run, hy, underlying, hu, asInt, asIntOf]

theorem good_range (t : TypeId) (x : Operand) (ho : o.op = .range t x) (hf : FR E ρ tm a.tmps) (hg : Glob E X P ρ) (h : HR E base ρ s w) (he : evOp P tm s o = some r) : Good E P base ρ s w (execOp a.eval o) r := by
  simp only [evOp, ho] at he
  split at he
  · rename_i l ht h1
    simp only [Option.some.injEq] at he
    subst he
    obtain ⟨hv, hlt⟩ := rd_ok hf hg h1
    have hn := h.pushed (.siter l 0) 0 (.stringIter (bsOf l) 0) (w' := w.iter (bsOf l) 0) ⟨rfl, rfl, rfl⟩ rfl fun hq => ⟨h.base, hq, rfl, hlt⟩
    refine ⟨.pointer (some ⟨w.heap.size, 0, none⟩), _, _, ?_, ⟨_, Mp.on_same _ _ _, rfl⟩, hn.1, hn.2⟩
    have := run_range_string (P := P) w t (bsOf l) ht
    simp [execOp, ho, hv, this]
  · cases he

theorem bsOf_size (l : List Nat) : (bsOf l).size = l.length := by simp [bsOf, ByteArray.size]
theorem bsOf_get (l : List Nat) (i : Nat) (hi : i < (bsOf l).size) : (bsOf l)[i] = UInt8.ofNat (l[i]'(by rw [bsOf_size] at hi; exact hi)) := by
  show (bsOf l).data[i] = _
  simp [bsOf]

theorem good_next (x : Operand) (ho : o.op = .next x true) (hf : FR E ρ tm a.tmps) (hg : Glob E X P ρ) (h : HR E base ρ s w) (he : evOp P tm s o = some r) : Good E P base ρ s w (execOp a.eval o) r := by
  simp only [evOp, ho] at he
  split at he
  · rename_i b h1
    obtain ⟨c, hc, hv⟩ := rd_ok hf hg h1
    split at he
    · rename_i l pos hb
      have hat := h.at hb hc
      obtain ⟨hbase, hheap, hd, hlt⟩ := hat
      split at he
      · rename_i hpos
        split at he
        · rename_i c' wd hu
          simp only [Option.some.injEq] at he
          subst he
          unfold utf8A at hu
          rw [List.getElem?_eq_getElem hpos] at hu
          simp only at hu
          split at hu
          · rename_i hc128
            simp only [Option.some.injEq, Prod.mk.injEq] at hu
            obtain ⟨rfl, rfl⟩ := hu
            have hps : pos < (bsOf l).size := by rw [bsOf_size]; exact hpos
            have hget : ((bsOf l)[pos]'hps).toNat = l[pos] := by rw [bsOf_get]; simp; omega
            have hdec := decode_ascii (bsOf l) pos hps (by rw [hget]; exact hc128)
            have hn := h.turn (o' := .siter l (pos + 1)) (w' := { w with heap := w.heap.setIfInBounds c.g (.stringIter (bsOf l) (pos + 1)) }) hb hc trivial ⟨rfl, rfl, rfl⟩ (by simp) (fun g hg => by simp [Array.getElem?_setIfInBounds_ne (Ne.symm hg)]) ⟨hbase, by
              have := h.loc_lt hb hc
              simp [this], hd, hlt⟩
            refine ⟨.tuple #[.bool true, .int .i64 pos, .int .i32 (l[pos])], _, _, ?_, ⟨_, rfl, ⟨_, _, rfl, rfl, _, _, rfl, rfl, _, _, rfl, rfl, rfl⟩⟩, hn.1, hn.2⟩
            simp [execOp, ho, hv, Instr.next, getObj, setObj, Sem.run, hd, hheap, hps, hdec, hget, goInt]
          · cases hu
        · cases he
      · rename_i hpos
        simp only [Option.some.injEq] at he
        subst he
        have hps : ¬ pos < (bsOf l).size := by rw [bsOf_size]; exact hpos
        refine Good.same h (u := .tuple #[.bool false]) ?_ ⟨_, rfl, ⟨_, _, rfl, rfl, rfl⟩⟩
        simp [execOp, ho, hv, Instr.next, getObj, Sem.run, hd, hheap, hps]
    · cases he
  · cases he

theorem good_nilCheck (x : Operand) (ho : o.op = .nilCheck x) (hf : FR E ρ tm a.tmps) (hg : Glob E X P ρ) (h : HR E base ρ s w) (he : evOp P tm s o = some r) : Good E P base ρ s w (execOp a.eval o) r := by
  simp only [evOp, ho] at he
  split at he
  · cases he
  · cases he
  · cases he
  · cases he
  · cases he
  · cases he
  · rename_i f p q h1
    simp only [Option.some.injEq] at he
    subst he
    have hv := rd_ok hf hg h1
    obtain ⟨xs, ys, h2, h3⟩ := hv
    exact Good.same h (by simp [execOp, ho, h2]) ⟨xs, ys, rfl, h3⟩
  · cases he
  · rename_i v h1 h2 h3 h3' h3'' h3a h4 h5 h6
    simp only [Option.some.injEq] at he
    subst he
    have hv := rd_ok hf hg h6
    refine Good.same h ?_ hv
    cases v with
    | nilPtr => exact (h1 rfl).elim
    | nilIface => exact (h2 rfl).elim
    | nilFn => exact (h3 rfl).elim
    | yieldF => exact (h3' rfl).elim
    | sx i => exact (h3'' _ rfl).elim
    | gsl i e z => exact (h3a _ _ _ rfl).elim
    | fp a i j => obtain ⟨_, _, _, _, _, _, _, _, _, _, _, _, _, h7, _⟩ := hv; simp [execOp, ho, h7]
    | fn f p q => exact (h5 _ _ _ rfl).elim
    | str l => obtain ⟨h7, _⟩ := hv; simp [execOp, ho, h7]
    | ptr b q => obtain ⟨c, _, h7⟩ := hv; simp [execOp, ho, h7]
    | emptyS => obtain ⟨c, _, h7⟩ := hv; simp [execOp, ho, h7]
    | slice b q n c z => obtain ⟨l, cap, _, h7, _⟩ := hv; simp [execOp, ho, h7]
    | map b => obtain ⟨c, _, h7⟩ := hv; simp [execOp, ho, h7]
    | iface t y => obtain ⟨c, h7, _⟩ := hv; simp [execOp, ho, h7]
    | agg cs => obtain ⟨c, h7, _⟩ := hv; simp [execOp, ho, h7]
    | tuple cs => obtain ⟨c, h7, _⟩ := hv; simp [execOp, ho, h7]
    | _ => rw [VR] at hv; simp [execOp, ho, hv]
  · cases he

theorem good_unOp (u : UnOp) (t : TypeId) (x : Operand) (ho : o.op = .unOp u t x) (hf : FR E ρ tm a.tmps) (hg : Glob E X P ρ) (h : HR E base ρ s w) (he : evOp P tm s o = some r) : Good E P base ρ s w (execOp a.eval o) r := by
  simp only [evOp, ho] at he
  split at he
  · rename_i k n h1
    simp only [Option.some.injEq] at he
    subst he
    have hv : a.eval x = _ := rd_ok hf hg h1
    exact Good.same h (u := .int k (k.wrap (0 - n))) (by simp [execOp, ho, hv, Op.unary, Op.intArith]) rfl
  · rename_i b h1
    simp only [Option.some.injEq] at he
    subst he
    have hv : a.eval x = _ := rd_ok hf hg h1
    exact Good.same h (u := .bool (!b)) (by simp [execOp, ho, hv, Op.unary]) rfl
  · cases he
end
end Go.Proofs.YtofdflmobdinaaaGreatDoor
