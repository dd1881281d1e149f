/- Operations: places of elements, elements, slices of slices and of strings. -/
import Derived.Test.YtofdflmobdinaaaGreatDoorOp6
import Derived.Laws.Slices
import Derived.Laws.Strings
namespace Go.Proofs.YtofdflmobdinaaaGreatDoor
open Go Go.RowKit
variable {E : Env} {X : Ctx}

section
variable {P : Program} {base : Nat} {ρ : Mp} {s s' : St} {w : World} {tm : Tr AV} {a : Act} {o : Oper} {r : ARes}

theorem good_indexAddr (t : TypeId) (x y : Operand) (ho : o.op = .indexAddr t x y) (hf : FR E ρ tm a.tmps) (hg : Glob E X P ρ) (h : HR E base ρ s w) (he : evOp P tm s o = some r) : Good E P base ρ s w (execOp a.eval o) r := by
  simp only [evOp, ho] at he
  split at he
  · rename_i j v kk k h1 h2 h3
    have hi : a.eval y = .int kk (k : Int) := rd_ok hf hg h3
    have hv := rd_ok hf hg h2
    split at he
    · rename_i n e b q
      split at he
      · rename_i hk
        obtain ⟨z, hz, rfl⟩ := Option.map_eq_some_iff.1 he
        obtain ⟨c, h4, h5⟩ := hv
        refine Good.same h (u := .pointer (some ⟨c.g, c.d + (q + k * z), none⟩)) ?_ ⟨c, h4, rfl⟩
        simp [execOp, ho, Instr.indexAt, hi, asIntOf, underlying, h1, h5, Instr.sureAddr, hk, run_sizeOf' hz, Addr.add_lit, Nat.add_assoc]
      · cases he
    · rename_i e b q n c z
      split at he
      · rename_i hc
        obtain ⟨hk, hz⟩ := hc
        simp only [Option.some.injEq] at he
        subst he
        obtain ⟨l, cap, h4, h5, _⟩ := hv
        refine Good.same h (u := .pointer (some ⟨l.g, l.d + (q + k * z), none⟩)) ?_ ⟨l, h4, rfl⟩
        simp [execOp, ho, Instr.indexAt, hi, asIntOf, underlying, h1, h5, hk, run_sizeOf' hz, Addr.add_lit, Nat.add_assoc]
      · cases he
    · cases he
  · cases he

theorem good_index (t : TypeId) (x y : Operand) (ho : o.op = .index t x y) (hf : FR E ρ tm a.tmps) (hg : Glob E X P ρ) (h : HR E base ρ s w) (he : evOp P tm s o = some r) : Good E P base ρ s w (execOp a.eval o) r := by
  simp only [evOp, ho] at he
  split at he
  · rename_i j v kk k h1 h2 h3
    have hi : a.eval y = .int kk (k : Int) := rd_ok hf hg h3
    have hv := rd_ok hf hg h2
    split at he
    · rename_i n e cs
      split at he
      · rename_i hk
        split at he
        · rename_i z hz
          obtain ⟨v, h4, rfl⟩ := Option.map_eq_some_iff.1 he
          obtain ⟨xs, h5, h6⟩ := hv
          obtain ⟨u, h8, h9⟩ := run_partA (P := P) (w := w) h6 h4
          refine Good.same h ?_ h9
          simp [execOp, ho, Instr.index, hi, asIntOf, underlying, h1, h5, hk, run_sizeOf' hz, h8]
        · cases he
      · cases he
    · rename_i l
      split at he
      rotate_left
      · cases he
      rename_i c h4
      simp only [Option.some.injEq] at he
      subst he
      obtain ⟨h5, h6⟩ := hv
      obtain ⟨hlt, h7⟩ := List.getElem?_eq_some_iff.1 h4
      have hs : k < (bsOf l).size := by rw [bsOf_size]; exact hlt
      have hget : ((bsOf l)[k]'hs).toNat = c := by
        rw [bsOf_get, h7]
        have := h6 c (h7 ▸ List.getElem_mem hlt)
        simp; omega
      refine Good.same h (u := .int .u8 c) ?_ rfl
      have hr := run_index_string (P := P) w t (bsOf l) kk k h1
      rw [dif_pos ⟨by omega, by omega⟩] at hr
      simp only [Int.toNat_natCast, hget] at hr
      simp [execOp, ho, hi, h5, hr]
    · cases he
  · cases he

/-- A bound. -/
theorem bound_ok {x : Option Operand} {d n : Nat} (hf : FR E ρ tm a.tmps) (hg : Glob E X P ρ) (h : bound P x tm d = some n) : (x.map a.eval = none ∧ n = d) ∨ ∃ k, x.map a.eval = some (.int k (n : Int)) := by
  unfold bound at h
  cases x with
  | none => simp at h; exact .inl ⟨rfl, h.symm⟩
  | some y =>
    simp only at h
    split at h
    · rename_i v h1
      unfold natA at h
      split at h
      · rename_i k m
        simp only [Option.some.injEq] at h
        subst h
        have hv : a.eval y = _ := rd_ok hf hg h1
        exact .inr ⟨k, by simp [hv]⟩
      · cases h
    · cases h

theorem run_bounds (isS : Bool) {len cap : Nat} {lo hi : Option Value} {l q : Nat} (hh : (hi = none ∧ q = len) ∨ ∃ k, hi = some (.int k (q : Int))) (hl : (lo = none ∧ l = 0) ∨ ∃ k, lo = some (.int k (l : Int))) (h1 : l ≤ q) (h2 : q ≤ cap) :
    (Instr.sliceBounds isS len cap lo hi none).run P w = .ok (l, q, cap) w := by
  rcases hh with ⟨rfl, rfl⟩ | ⟨k, rfl⟩ <;> rcases hl with ⟨rfl, rfl⟩ | ⟨k', rfl⟩
  · simp [Instr.sliceBounds]
  · simp [Instr.sliceBounds, run_sliceBound, h1]
  · simp [Instr.sliceBounds, run_sliceBound, h2]
  · simp [Instr.sliceBounds, run_sliceBound, h1, h2]

theorem bsOf_extract (l : List Nat) (i j : Nat) : (bsOf l).extract i j = bsOf ((l.take j).drop i) := by
  apply ByteArray.ext
  rw [ByteArray.data_extract]
  apply Array.ext'
  simp [bsOf, List.drop_take, List.map_drop, List.map_take]

theorem good_slice (t : TypeId) (x : Operand) (lo hi mx : Option Operand) (ho : o.op = .slice t x lo hi mx) (hf : FR E ρ tm a.tmps) (hg : Glob E X P ρ) (h : HR E base ρ s w) (he : evOp P tm s o = some r) : Good E P base ρ s w (execOp a.eval o) r := by
  simp only [evOp, ho] at he
  split at he
  · rename_i l hu hx
    obtain ⟨h1, h2⟩ := rd_ok hf hg hx
    split at he
    · rename_i q hq
      split at he
      · rename_i k hk
        split at he
        · rename_i hc
          simp only [Option.some.injEq] at he
          subst he
          have hb := run_bounds (P := P) (w := w) false (cap := (bsOf l).size) (bound_ok hf hg hq) (bound_ok hf hg hk) hc.1 (by rw [bsOf_size]; exact hc.2)
          refine Good.same h (u := .string (bsOf ((l.take q).drop k))) ?_ ⟨rfl, fun y hy => h2 y (List.mem_of_mem_take (List.mem_of_mem_drop hy))⟩
          rw [bsOf_size] at hb
          simp [execOp, ho, Instr.sliceAt, Instr.slice, underlying, hu, h1, bsOf_size, hb, bsOf_extract]
        · cases he
      · cases he
    · cases he
  · rename_i e b q n c z hu hx
    obtain ⟨l, cap, h1, h2, h3, h4, h5, h6⟩ := rd_ok hf hg hx
    split at he
    · rename_i hz
      split at he
      · rename_i q' hq
        split at he
        · rename_i k hk
          split at he
          · rename_i hc
            have hb := run_bounds (P := P) (w := w) true (len := n) (cap := cap) (bound_ok hf hg hq) (bound_ok hf hg hk) hc.1 (by omega)
            split at he
            · rename_i hkc
              simp only [Option.some.injEq] at he
              subst he
              have hne : cap ≠ k := by omega
              refine Good.same h (u := .slice (some ⟨l.g, l.d + (q + k * z), none⟩) (q' - k) (cap - k)) ?_ ⟨l, cap - k, h1, rfl, by omega, by omega, by omega, ?_⟩
              · simp [execOp, ho, Instr.sliceAt, Instr.slice, underlying, hu, h2, hb, run_sizeOf' hz, hne, Addr.add_lit, Nat.add_assoc]
              · rw [Nat.sub_mul]
                have : k * z ≤ cap * z := Nat.mul_le_mul_right _ (by omega)
                omega
            · simp only [Option.some.injEq] at he
              subst he
              have hkc : q' = k := by omega
              refine Good.same h (u := .slice (if cap = k then some ⟨l.g, l.d + q, none⟩ else some ⟨l.g, l.d + (q + k * z), none⟩) 0 (cap - k)) ?_ ⟨_, _, rfl⟩
              simp [execOp, ho, Instr.sliceAt, Instr.slice, underlying, hu, h2, hb, run_sizeOf' hz, Addr.add_lit, Nat.add_assoc, hkc]
          · cases he
        · cases he
      · cases he
    · cases he
  · rename_i e hu hx
    have h1 : a.eval x = _ := rd_ok hf hg hx
    split at he
    · rename_i z hz hq hk
      simp only [Option.some.injEq] at he
      subst he
      have hb := run_bounds (P := P) (w := w) true (len := 0) (cap := 0) (bound_ok hf hg hq) (bound_ok hf hg hk) (Nat.le_refl _) (Nat.le_refl _)
      refine Good.same h (u := .slice none 0 0) ?_ rfl
      simp [execOp, ho, Instr.sliceAt, Instr.slice, underlying, hu, h1, hb, run_sizeOf' hz]
    · cases he
  · rename_i e hu hx
    obtain ⟨ad, cap, h1⟩ := rd_ok hf hg hx
    split at he
    · rename_i z hz hq hk
      simp only [Option.some.injEq] at he
      subst he
      have hb := run_bounds (P := P) (w := w) true (len := 0) (cap := cap) (bound_ok hf hg hq) (bound_ok hf hg hk) (Nat.le_refl _) (Nat.zero_le _)
      refine Good.same h (u := .slice (if cap = 0 then ad else ad.map (·.add 0)) 0 cap) ?_ ⟨_, _, rfl⟩
      simp [execOp, ho, Instr.sliceAt, Instr.slice, underlying, hu, h1, hb, run_sizeOf' hz]
    · cases he
  · cases he
end
end Go.Proofs.YtofdflmobdinaaaGreatDoor
