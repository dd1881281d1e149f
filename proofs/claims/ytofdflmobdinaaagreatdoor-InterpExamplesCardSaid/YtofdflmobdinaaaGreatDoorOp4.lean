/- Operations on memory: zero values, values that are built, new variables. -/
import Derived.Test.YtofdflmobdinaaaGreatDoorOp3
import Derived.Laws.Tables
namespace Go.Proofs.YtofdflmobdinaaaGreatDoor
open Go Go.RowKit
variable {E : Env} {X : Ctx}

theorem mapM_ofVal {ρ : Mp} : ∀ {xs : List Value} {cs : List AV}, xs.mapM ofVal = some cs → VRs E ρ cs xs
  | [], cs, h => by simp at h; subst h; rfl
  | x :: r, cs, h => by
    simp only [List.mapM_cons, Option.bind_eq_bind, Option.pure_def] at h
    cases h1 : ofVal x with
    | none => simp [h1] at h
    | some v =>
      cases h2 : r.mapM ofVal with
      | none => simp [h1, h2] at h
      | some vs => simp [h1, h2] at h; subst h; exact ⟨x, r, rfl, ofVal_ok h1, mapM_ofVal h2⟩

theorem zeroA_ok {P : Program} {ρ : Mp} {t : TypeId} {cs : List AV} (h : zeroA P t = some cs) : ∃ i z, P.info? t = some i ∧ i.zero = some z ∧ VRs E ρ cs z.cells.toList := by
  unfold zeroA at h
  split at h
  · split at h
    · exact ⟨_, _, ‹_›, ‹_›, mapM_ofVal h⟩
    · cases h
  · cases h

theorem foldl_set (off : Nat) : ∀ (l : List Value) (k : Nat) (cells : Array Value), off + k + l.length ≤ cells.size →
    ((l.zipIdx k).foldl (fun (cs : Array Value) (x : Value × Nat) => cs.setIfInBounds (off + x.2) x.1) cells).toList = cells.toList.take (off + k) ++ l ++ cells.toList.drop (off + k + l.length)
  | [], k, cells, _ => by simp
  | v :: r, k, cells, h => by
    simp only [List.zipIdx_cons, List.foldl_cons, List.length_cons] at h ⊢
    rw [foldl_set off r (k + 1) _ (by simp; omega)]
    have hlt : off + k < cells.toList.length := by simp; omega
    simp only [Array.toList_setIfInBounds]
    rw [show off + (k + 1) = off + k + 1 by omega, List.take_succ_eq_append_getElem (by simpa using hlt), List.take_set_of_le (Nat.le_refl _), List.drop_set_of_lt (by omega)]
    simp [List.append_assoc, Nat.add_assoc, Nat.add_comm 1]

theorem fill_ok {ρ : Mp} {place : Nat → Option (Nat × Nat)} : ∀ {ks : List Nat} {vs : List AV} {us : List Value} {cs cs' : List AV} {arr : Array Value}, VRs E ρ vs us → VRs E ρ cs arr.toList → fillA place cs (ks.zip vs) = some cs' →
    ∃ arr', Instr.fill place arr (ks.zip us) = some arr' ∧ VRs E ρ cs' arr'.toList
  | [], vs, us, cs, cs', arr, _, hc, h => by simp [fillA] at h; subst h; exact ⟨arr, by simp [Instr.fill], hc⟩
  | k :: ks, [], us, cs, cs', arr, hv, hc, h => by
    rw [show us = [] from hv]
    simp [fillA] at h; subst h; exact ⟨arr, by simp [Instr.fill], hc⟩
  | k :: ks, v :: vs, us, cs, cs', arr, hv, hc, h => by
    obtain ⟨u, us', rfl, h1, h2⟩ := hv
    simp only [List.zip_cons_cons, fillA] at h
    cases hp : place k with
    | none => simp [hp] at h
    | some x =>
      obtain ⟨q, n⟩ := x
      simp only [hp] at h
      split at h
      · rename_i hn
        have hcells := h1.cells
        have hlen := hcells.length
        have hlc := hc.length
        unfold over at h
        by_cases hle : q + v.cells.length ≤ cs.length
        · rw [if_pos hle] at h
          have hsz : u.cells.size = n := by rw [← hn, ← hlen]; simp
          have hqs : q + u.cells.size ≤ arr.size := by
            have : arr.toList.length = arr.size := Array.length_toList
            omega
          have hf := foldl_set q u.cells.toList 0 arr (by simpa using hqs)
          obtain ⟨arr', h3, h4⟩ := fill_ok (ks := ks) (arr := (u.cells.toList.zipIdx.foldl (fun (cs : Array Value) (x : Value × Nat) => cs.setIfInBounds (q + x.2) x.1) arr)) h2 (by
            rw [hf, Nat.add_zero, hlen]
            exact ((hc.take q).append hcells).append (hc.drop _)) h
          refine ⟨arr', ?_, h4⟩
          simp only [List.zip_cons_cons, Instr.fill, hp]
          rw [if_neg (by simp; omega), ← h3]
          congr 1
          rw [← Array.foldl_toList]
          simp
        · rw [if_neg hle] at h; cases h
      · cases h

section
variable {P : Program} {base : Nat} {ρ : Mp} {s s' : St} {w : World} {tm : Tr AV} {a : Act} {o : Oper} {r : ARes}

theorem good_alloc (e : TypeId) (ho : o.op = .alloc e) (h : HR E base ρ s w) (he : evOp P tm s o = some r) : Good E P base ρ s w (execOp a.eval o) r := by
  simp only [evOp, ho] at he
  split at he
  · rename_i cs hz
    simp only [Option.some.injEq] at he
    subst he
    obtain ⟨i, z, h1, h2, h3⟩ := zeroA_ok (E := E) (ρ := ρ) hz
    have hn := h.cells (cs := cs) (arr := z.cells) e (w.alloc (.cells z.cells e)) ⟨rfl, rfl, rfl⟩ rfl (by rw [← h3.length, List.take_length]; exact h3)
    refine ⟨.pointer (some ⟨w.heap.size, 0, none⟩), _, _, ?_, ⟨_, Mp.on_same _ _ _, rfl⟩, hn.1, hn.2⟩
    simp [execOp, ho, Instr.alloc, zeroValue, typeInfo, h1, h2, newVar, newRow, newObj, Sem.run]
  · cases he
theorem good_box (e : TypeId) (x : Operand) (ho : o.op = .box e x) (hf : FR E ρ tm a.tmps) (hg : Glob E X P ρ) (h : HR E base ρ s w) (he : evOp P tm s o = some r) : Good E P base ρ s w (execOp a.eval o) r := by
  simp only [evOp, ho] at he
  obtain ⟨v, h1, rfl⟩ := Option.map_eq_some_iff.1 he
  have h3 := (rd_ok hf hg h1).cells
  have hn := h.cells (cs := v.cells) (arr := (a.eval x).cells) e (w.alloc (.cells (a.eval x).cells e)) ⟨rfl, rfl, rfl⟩ rfl (by rw [← h3.length, List.take_length]; exact h3)
  refine ⟨.pointer (some ⟨w.heap.size, 0, none⟩), _, _, ?_, ⟨_, Mp.on_same _ _ _, rfl⟩, hn.1, hn.2⟩
  simp [execOp, ho, Instr.box, newVar, newRow, newObj, Sem.run]

theorem zip_parts (a : Act) : ∀ (l : List (Nat × Operand)), (l.map fun (i, x) => (i, a.eval x)) = (l.map (·.1)).zip ((l.map (·.2)).map a.eval)
  | [] => rfl
  | x :: r => by simp [zip_parts a r]

theorem good_build (t : TypeId) (parts : Array (Nat × Operand)) (ho : o.op = .build t parts) (hf : FR E ρ tm a.tmps) (hg : Glob E X P ρ) (h : HR E base ρ s w) (he : evOp P tm s o = some r) : Good E P base ρ s w (execOp a.eval o) r := by
  simp only [evOp, ho] at he
  split at he
  · rename_i cs place vs h1 h2 h3
    obtain ⟨cs', h4, rfl⟩ := Option.map_eq_some_iff.1 he
    obtain ⟨i, z, h5, h6, h7⟩ := zeroA_ok (E := E) (ρ := ρ) h1
    obtain ⟨arr, h8, h9⟩ := fill_ok (rds_ok hf hg h3) h7 h4
    have hb : P.built t ((parts.map fun (i, x) => (i, a.eval x)).toList) = some arr := by
      rw [Array.toList_map, zip_parts, ← h8]
      unfold placeA at h2
      unfold Program.built
      rw [h5]
      cases hu : P.underlying t with
      | none => simp [hu] at h2
      | some d =>
        cases d <;> simp only [hu] at h2 <;> try (cases h2; done)
        case array n e =>
          cases hi : P.info? e with
          | none => simp [hi] at h2
          | some ie => simp only [hi, Option.some.injEq] at h2; subst h2; simp [h6, hi]
        case struct fs =>
          cases hp : fs.toList.mapM (fun f => (P.info? f.type).map fun i => (f.offset, i.size)) with
          | none => simp [hp] at h2
          | some ps => simp only [hp, Option.some.injEq] at h2; subst h2; simp [h6, hp]
    refine Good.same h (u := .agg arr) ?_ ⟨arr.toList, by simp, h9⟩
    simp only [execOp, ho]
    have := run_build w t _ arr hb
    simp [this]
  · cases he
end
end Go.Proofs.YtofdflmobdinaaaGreatDoor
