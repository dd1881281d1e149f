/- Operations on memory: slices that are made. -/
import Derived.Test.YtofdflmobdinaaaGreatDoorOp4
namespace Go.Proofs.YtofdflmobdinaaaGreatDoor
open Go Go.RowKit
variable {E : Env} {X : Ctx}

theorem rows_flat (zero : Array Value) (n : Nat) (hn : zero.size = n) : ∀ len, (((Array.range (len * n)).map fun i => zero[i % n]!).toList) = List.flatten (List.replicate len zero.toList)
  | 0 => by simp
  | len + 1 => by
    have ih := rows_flat zero n hn len
    rw [List.replicate_succ', List.flatten_append, ← ih]
    simp only [Array.toList_map, Array.toList_range, List.flatten_cons, List.flatten_nil, List.append_nil]
    rw [Nat.succ_mul, List.range_add, List.map_append, List.map_map]
    congr 1
    apply List.ext_getElem?
    intro i
    by_cases hi : i < n
    · have hi' : i < zero.size := by omega
      rw [List.getElem?_map, List.getElem?_range hi]
      simp [Function.comp, Nat.mod_eq_of_lt hi, hi', Nat.add_mod, Nat.mul_mod_left]
    · rw [List.getElem?_eq_none (by simp; omega), List.getElem?_eq_none (by simp; omega)]

theorem VRs.flat {ρ : Mp} {z : List AV} {xs : List Value} (h : VRs E ρ z xs) : ∀ n, VRs E ρ (List.flatten (List.replicate n z)) (List.flatten (List.replicate n xs))
  | 0 => by simp [VRs]
  | n + 1 => by simp only [List.replicate_succ, List.flatten_cons]; exact h.append (h.flat n)

theorem elemSl_ok {P : Program} {t e : TypeId} (h : elemSl P t = some e) : P.underlying t = some (.slice e) := by
  unfold elemSl at h
  split at h
  · simp only [Option.some.injEq] at h; subst h; assumption
  · cases h

section
variable {P : Program} {base : Nat} {ρ : Mp} {s s' : St} {w : World} {tm : Tr AV} {a : Act} {o : Oper} {r : ARes}

theorem good_buildSlice (t : TypeId) (len : Nat) (parts : Array (Nat × Operand)) (ho : o.op = .buildSlice t len parts) (hf : FR E ρ tm a.tmps) (hg : Glob E X P ρ) (h : HR E base ρ s w) (he : evOp P tm s o = some r) : Good E P base ρ s w (execOp a.eval o) r := by
  simp only [evOp, ho] at he
  split at he
  · cases he
  · rename_i e h0
    have hu := elemSl_ok h0
    split at he
    · rename_i z n vs h1 h2 h3
      split at he
      · rename_i hc
        obtain ⟨hzl, hle, hll⟩ := hc
        split at he
        · rename_i cs h4
          simp only [Option.some.injEq] at he
          subst he
          obtain ⟨i, zv, h5, h6, h7⟩ := zeroA_ok (E := E) (ρ := ρ) h1
          obtain ⟨i', h8, h9⟩ := szOf_ok h2
          obtain rfl := Option.some.inj (h5.symm.trans h8)
          have hzs : zv.cells.size = n := by rw [← hzl, ← h7.length]; simp
          have hrow : VRs E ρ (List.flatten (List.replicate len z)) (((Array.range (len * n)).map fun i => zv.cells[i % n]!).toList) := by
            rw [rows_flat zv.cells n hzs len]; exact h7.flat len
          obtain ⟨arr, h10, h11⟩ := fill_ok (rds_ok hf hg h3) hrow h4
          have hlen : cs.length = arr.size := by rw [← h11.length]; simp
          have hn := h.cells (cs := cs) (arr := arr) e (w.alloc (.cells arr e)) ⟨rfl, rfl, rfl⟩ rfl (by rw [← h11.length, List.take_length]; exact h11)
          have hsz : arr.size = len * n := by
            have hfs : ∀ (place : Nat → Option (Nat × Nat)) (l : List (Nat × Value)) (c c' : Array Value), Instr.fill place c l = some c' → c'.size = c.size := by
              intro place l
              induction l with
              | nil => intro c c' hh; simp [Instr.fill] at hh; rw [hh]
              | cons x l ih =>
                intro c c' hh
                obtain ⟨k, v⟩ := x
                simp only [Instr.fill] at hh
                cases hp : place k with
                | none => simp [hp] at hh
                | some q =>
                  obtain ⟨q1, q2⟩ := q
                  simp only [hp] at hh
                  split at hh
                  · cases hh
                  · rename_i hcond
                    rw [ih _ _ hh]
                    have hqs : q1 + v.cells.size ≤ c.size := by simp at hcond; omega
                    have := congrArg List.length (foldl_set q1 v.cells.toList 0 c (by simpa using hqs))
                    rw [← Array.foldl_toList]
                    simp only [Array.toList_zipIdx]
                    rw [← Array.length_toList, this]
                    simp
                    omega
            rw [hfs _ _ _ _ h10]; simp
          refine ⟨.slice (some ⟨w.heap.size, 0, none⟩) len len, _, _, ?_, ⟨_, len, Mp.on_same _ _ _, rfl, Nat.le_refl _, Nat.le_refl _, by unfold maxLen; omega, by rw [hsz]; simp⟩, hn.1, hn.2⟩
          have hbig : ¬ 16777216 < len * n := by omega
          have hparts : (parts.toList.map fun x => (x.1, a.eval x.2)) = (parts.toList.map (·.1)).zip ((parts.toList.map (·.2)).map a.eval) := zip_parts a parts.toList
          simp only [execOp, ho, Instr.buildSlice]
          by_cases h0 : len * n = 0
          · have hr0 : ((Array.range (len * n)).map fun i => zv.cells[i % n]!) = #[] := by rw [h0]; simp
            have hr1 : (Array.map (fun x => (default : Value)) (Array.range 0)) = #[] := by simp
            rw [hr0, ← hparts] at h10
            simp [underlying, hu, run_sizeOf' h2, h0, hr1, h10, newRow, newObj, Sem.run]
          · rw [← hparts] at h10
            simp [underlying, hu, run_sizeOf' h2, h0, hbig, zeroValue, typeInfo, h5, h6, hzs, h10, newRow, newObj, Sem.run]
        · cases he
      · cases he
    · cases he
end
end Go.Proofs.YtofdflmobdinaaaGreatDoor
