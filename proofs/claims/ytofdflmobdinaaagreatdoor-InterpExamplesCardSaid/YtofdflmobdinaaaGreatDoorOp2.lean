/- Operations on memory: addresses, loads, stores, new blocks. -/
import Derived.Test.YtofdflmobdinaaaGreatDoorOp1
import Derived.Laws.Cells
import Derived.Laws.CopyRow
namespace Go.Proofs.YtofdflmobdinaaaGreatDoor
open Go Go.RowKit
variable {E : Env} {X : Ctx}

section
variable {P : Program} {base : Nat} {ρ : Mp} {s : St} {w : World} {tm : Tr AV} {a : Act} {o : Oper} {r : ARes}

theorem fieldOf_ok {t k d} (h : fieldOf P t k = some d) : ∃ fs, P.underlying t = some (.struct fs) ∧ fs[k]? = some d := by
  unfold fieldOf at h
  split at h
  · exact ⟨_, ‹_›, h⟩
  · cases h

theorem szOf_ok {t n} (h : szOf P t = some n) : ∃ i, P.info? t = some i ∧ i.size = n := by
  unfold szOf at h
  cases hi : P.info? t with
  | none => simp [hi] at h
  | some i => simp [hi] at h; exact ⟨i, rfl, h⟩

theorem run_isAgg {t d} (h : P.underlying t = some d) : (isAgg t).run P w = .ok (isAggD d) w := by
  unfold isAgg isAggD
  simp only [underlying]
  cases d <;> simp [h]
theorem run_sizeOf' {t n} (h : szOf P t = some n) : (sizeOf t).run P w = .ok n w := by
  obtain ⟨i, h1, h2⟩ := szOf_ok h
  simp [sizeOf, typeInfo, h1, h2]

theorem good_fieldAddr (t : TypeId) (x : Operand) (k : Nat) (ho : o.op = .fieldAddr t x k) (hf : FR E ρ tm a.tmps) (hg : Glob E X P ρ) (h : HR E base ρ s w) (he : evOp P tm s o = some r) : Good E P base ρ s w (execOp a.eval o) r := by
  simp only [evOp, ho] at he
  split at he
  · rename_i d b q h1 h2
    split at he
    · rename_i n hn
      simp only [Option.some.injEq] at he
      subst he
      obtain ⟨fs, h3, h4⟩ := fieldOf_ok h1
      obtain ⟨l, h5, h6⟩ := rd_ok hf hg h2
      refine Good.same h (u := .pointer (some ⟨l.g, l.d + (q + d.offset), none⟩)) ?_ ⟨l, h5, rfl⟩
      simp [execOp, ho, Instr.fieldAt, underlying, h3, h4, h6, Instr.sureAddr, fieldPlace, run_sizeOf' hn, Addr.add_lit, Nat.add_assoc]
    · cases he
  · cases he

/-- A part of a value. -/
theorem run_partA {t : TypeId} {cs : List AV} {xs : List Value} {q : Nat} {v : AV} (hx : VRs E ρ cs xs) (h : partA P t cs q = some v) : ∃ u, (part t (List.toArray xs) q).run P w = .ok u w ∧ VR E ρ v u := by
  unfold partA at h
  split at h
  · rename_i d n h1 h2
    split at h
    · rename_i hd
      split at h
      · rename_i hle
        simp only [Option.some.injEq] at h
        subst h
        refine ⟨.agg (List.toArray ((xs.drop q).take n)), ?_, ⟨_, rfl, (hx.drop q).take n⟩⟩
        have h3 : (part t (List.toArray xs) q).run P w = .ok (.agg ((List.toArray xs).extract q (q + n))) w := by
          unfold part
          simp [run_isAgg h1, hd, run_sizeOf' h2]
        rw [h3]
        congr 2
        apply Array.ext'
        simp [List.take_drop]
      · cases h
    · rename_i hd
      obtain ⟨u, h3, h4⟩ := hx.get h
      refine ⟨u, ?_, h4⟩
      unfold part
      simp [run_isAgg h1, hd, h3]
  · cases h

theorem good_field (t : TypeId) (x : Operand) (k : Nat) (ho : o.op = .field t x k) (hf : FR E ρ tm a.tmps) (hg : Glob E X P ρ) (h : HR E base ρ s w) (he : evOp P tm s o = some r) : Good E P base ρ s w (execOp a.eval o) r := by
  simp only [evOp, ho] at he
  split at he
  · rename_i d cs h1 h2
    obtain ⟨v, h3, rfl⟩ := Option.map_eq_some_iff.1 he
    obtain ⟨fs, h4, h5⟩ := fieldOf_ok h1
    obtain ⟨xs, h6, h7⟩ := rd_ok hf hg h2
    obtain ⟨u, h8, h9⟩ := run_partA (P := P) (w := w) h7 h3
    refine Good.same h ?_ h9
    simp [execOp, ho, Instr.field, underlying, h4, h5, h6, asAgg, h8]
  · cases he

/-- A load. -/
theorem run_loadVarA {t : TypeId} {p v : AV} {u : Value} (h : HR E base ρ s w) (hp : VR E ρ p u) (hl : s.loadVar P t p = some v) : ∃ ad x, u = .pointer (some ad) ∧ (loadVar t ad).run P w = .ok x w ∧ VR E ρ v x := by
  unfold St.loadVar at hl
  split at hl
  · rename_i b q
    obtain ⟨l, h1, h2⟩ := hp
    subst h2
    split at hl
    · rename_i d n h3 h4
      split at hl
      · rename_i hd
        obtain ⟨cs, h5, rfl⟩ := Option.map_eq_some_iff.1 hl
        obtain ⟨xs, h6, h7, h8⟩ := h.load h1 h5
        refine ⟨_, .agg (List.toArray xs), rfl, ?_, ⟨xs, rfl, h6⟩⟩
        have h9 := run_loadCells_list (P := P) w ⟨l.g, l.d + q, none⟩ xs (fun j v hv => by rw [Addr.add_lit]; exact h8 j v hv)
        rw [h7] at h9
        unfold loadVar
        simp [run_isAgg h3, hd, run_sizeOf' h4, h9]
      · rename_i hd
        split at hl
        · rename_i v' h5
          simp only [Option.some.injEq] at hl
          subst hl
          obtain ⟨xs, h6, h7, h8⟩ := h.load h1 h5
          obtain ⟨x, ys, rfl, h9, h10⟩ := h6
          refine ⟨_, x, rfl, ?_, h9⟩
          have h11 := h8 0 x rfl
          rw [Nat.add_zero] at h11
          unfold loadVar
          simp [run_isAgg h3, hd, load, Sem.run, h11]
        · cases hl
    · cases hl
  · cases hl

theorem good_load (t : TypeId) (x : Operand) (ho : o.op = .load t x) (hf : FR E ρ tm a.tmps) (hg : Glob E X P ρ) (h : HR E base ρ s w) (he : evOp P tm s o = some r) : Good E P base ρ s w (execOp a.eval o) r := by
  simp only [evOp, ho] at he
  split at he
  · rename_i p h1
    obtain ⟨v, h2, rfl⟩ := Option.map_eq_some_iff.1 he
    obtain ⟨ad, u, h3, h4, h5⟩ := run_loadVarA h (rd_ok hf hg h1) h2
    refine Good.same h ?_ h5
    simp [execOp, ho, Instr.loadAt, h3, Instr.sureAddr, h4]
  · cases he
end
end Go.Proofs.YtofdflmobdinaaaGreatDoor
