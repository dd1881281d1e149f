/- Operations: what lies behind an interface, entries of maps. -/
import Derived.Test.YtjaaajmiojigbaaGreatDoorOpM
import Derived.Laws.StructEq
namespace Go.Proofs.YtjaaajmiojigbaaGreatDoor
open Go Go.RowKit
variable {E : Env} {X : Ctx}

section
variable {P : Program} {base : Nat} {ρ : Mp} {s s' : St} {w : World} {tm : Tr AV} {a : Act} {o : Oper} {r : ARes}

theorem zeroV_ok {t : TypeId} {x : AV} (h : zeroV P t = some x) : ∃ u, (zeroValue t).run P w = .ok u w ∧ VR E ρ x u := by
  unfold zeroV at h
  split at h
  · rename_i i hi
    split at h
    · rename_i cs hz
      obtain ⟨vs, h1, rfl⟩ := Option.map_eq_some_iff.1 h
      exact ⟨.agg cs, by simp [zeroValue, typeInfo, hi, hz], cs.toList, by simp, mapM_ofVal h1⟩
    · rename_i v _ hz
      exact ⟨v, by simp [zeroValue, typeInfo, hi, hz], ofVal_ok h⟩
    · cases h
  · cases h

theorem good_typeAssert (x : Operand) (t0 t : TypeId) (ok : Bool) (ho : o.op = .typeAssert x t0 t ok) (hf : FR E ρ tm a.tmps) (hg : Glob E X P ρ) (h : HR E base ρ s w) (he : evOp P tm s o = some r) : Good E P base ρ s w (execOp a.eval o) r := by
  simp only [evOp, ho] at he
  split at he
  · cases he
  · rename_i u y d hni h1 h2
    obtain ⟨v, h3, h4⟩ := rd_ok hf hg h1
    split at he
    · rename_i hut
      subst hut
      simp only [Option.some.injEq] at he
      subst he
      cases ok with
      | true =>
        refine Good.same h (u := .tuple #[v, .bool true]) ?_ ⟨[v, .bool true], rfl, _, _, rfl, h4, _, _, rfl, rfl, rfl⟩
        simp only [execOp, ho, h3, Instr.typeAssert]
        cases d <;> first | exact (hni _ rfl).elim | simp [underlying, h2]
      | false =>
        refine Good.same h (u := v) ?_ h4
        simp only [execOp, ho, h3, Instr.typeAssert]
        cases d <;> first | exact (hni _ rfl).elim | simp [underlying, h2]
    · rename_i hut
      split at he
      · rename_i hok
        subst hok
        split at he
        · rename_i z hz
          simp only [Option.some.injEq] at he
          subst he
          obtain ⟨zv, h5, h6⟩ := zeroV_ok (E := E) (ρ := ρ) (w := w) hz
          refine Good.same h (u := .tuple #[zv, .bool false]) ?_ ⟨[zv, .bool false], rfl, _, _, rfl, h6, _, _, rfl, rfl, rfl⟩
          simp only [execOp, ho, h3, Instr.typeAssert]
          cases d <;> first | exact (hni _ rfl).elim | simp [underlying, h2, hut, h5]
        · cases he
      · cases he
  · rename_i d hni h1 h2
    have h3 : a.eval x = _ := rd_ok hf hg h1
    split at he
    · rename_i hok
      subst hok
      split at he
      · rename_i z hz
        simp only [Option.some.injEq] at he
        subst he
        obtain ⟨zv, h5, h6⟩ := zeroV_ok (E := E) (ρ := ρ) (w := w) hz
        refine Good.same h (u := .tuple #[zv, .bool false]) ?_ ⟨[zv, .bool false], rfl, _, _, rfl, h6, _, _, rfl, rfl, rfl⟩
        simp only [execOp, ho, h3, Instr.typeAssert]
        cases d <;> first | exact (hni _ rfl).elim | simp [underlying, h2, h5]
      · cases he
    · cases he
  · cases he

/-- A key that a map of these keys may be asked for. -/
theorem keyOk_ok {kt : TypeId} {k : AV} {u : Value} (h : keyOk P kt k = true) (hk : VR E ρ k u) (b : Bool) :
    (Instr.checkKey b 10000 kt u).run P w = .ok () w ∧ (∃ d, P.underlying kt = some d ∧ ((∃ j n, d = .int n ∧ ∃ m, k = .int j m) ∨ (d = .string ∧ ∃ l, k = .str l) ∨ (d = .bool ∧ ∃ q, k = .bool q))) := by
  have hc : ∀ d n, P.underlying kt = some d → (∀ ms, d ≠ .interface ms) → (∀ m e, d ≠ .array m e) → (∀ f, d ≠ .struct f) → (Instr.checkKey b (n + 1) kt u).run P w = .ok () w := by
    intro d n hd h1 h2 h3
    cases d <;> first | exact (h1 _ rfl).elim | exact (h2 _ _ rfl).elim | exact (h3 _ rfl).elim | simp [Instr.checkKey, underlying, hd]
  unfold keyOk at h
  split at h
  · split at h
    · rename_i hu
      exact ⟨hc _ 9999 hu (by simp) (by simp) (by simp), _, hu, .inl ⟨_, _, rfl, _, rfl⟩⟩
    · cases h
  · split at h
    · rename_i hu
      exact ⟨hc _ 9999 hu (by simp) (by simp) (by simp), _, hu, .inr (.inl ⟨rfl, _, rfl⟩)⟩
    · cases h
  · split at h
    · rename_i hu
      exact ⟨hc _ 9999 hu (by simp) (by simp) (by simp), _, hu, .inr (.inr ⟨rfl, _, rfl⟩)⟩
    · cases h
  · cases h

def KeyIs (d : TypeDesc) (k : AV) : Prop := (∃ j n, d = .int n ∧ ∃ m, k = .int j m) ∨ (d = .string ∧ ∃ l, k = .str l) ∨ (d = .bool ∧ ∃ q, k = .bool q)

theorem VR.of_int {k : IntKind} {n : Int} {u : Value} (h : VR E ρ (.int k n) u) : u = .int k n := h
theorem VR.of_bool {b : Bool} {u : Value} (h : VR E ρ (.bool b) u) : u = .bool b := h

theorem bsOf_inj {x y : List Nat} (hx : ∀ c ∈ x, c < 256) (hy : ∀ c ∈ y, c < 256) : (bsOf x == bsOf y) = (x == y) := by
  rw [beq_toListBytes, bsOf_toList, bsOf_toList, Bool.eq_iff_iff]
  simp only [beq_iff_eq]
  exact map_ofNat_inj hx hy

theorem findNow_ok {d : TypeDesc} {k : AV} {u : Value} (hd : KeyIs d k) (hk : VR E ρ k u) : ∀ {es : List (AV × AV)} {us : List MapEntry} {i : Nat} {q : Option (Nat × AV)}, EsR E ρ es us → keyIdx k es i = some q →
    (q = none ∧ Instr.findNow d u us i = some none) ∨ (∃ j v v', q = some (j, v) ∧ Instr.findNow d u us i = some (some (j, v')) ∧ VR E ρ v v' ∧ i ≤ j ∧ ∃ e, us[j - i]? = some e ∧ e.key = u ∧ j - i < es.length)
  | [], us, i, q, he, h => by
    rw [show us = [] from he]
    simp only [keyIdx, Option.some.injEq] at h
    exact .inl ⟨h.symm, rfl⟩
  | (k', v) :: es, us, i, q, he, h => by
    obtain ⟨e, us', rfl, h1, h2, h3⟩ := he
    have next : keyIdx k es (i + 1) = some q → Instr.sameNow d u e.key = some false → (q = none ∧ Instr.findNow d u (e :: us') i = some none) ∨ (∃ j v v', q = some (j, v) ∧ Instr.findNow d u (e :: us') i = some (some (j, v')) ∧ VR E ρ v v' ∧ i ≤ j ∧ ∃ e', (e :: us')[j - i]? = some e' ∧ e'.key = u ∧ j - i < ((k', v) :: es).length) := by
      intro hq hs
      rcases findNow_ok hd hk h3 hq with ⟨h4, h5⟩ | ⟨j, y, y', h4, h5, h6, h7, e', h8, h9, h10⟩
      · exact .inl ⟨h4, by simp only [Instr.findNow, hs]; exact h5⟩
      · refine .inr ⟨j, y, y', h4, by simp only [Instr.findNow, hs]; exact h5, h6, by omega, e', ?_, h9, by simp only [List.length_cons]; omega⟩
        rw [show j - i = (j - (i + 1)) + 1 by omega]
        simpa using h8
    have here : some (i, v) = q → Instr.sameNow d u e.key = some true → e.key = u → (q = none ∧ Instr.findNow d u (e :: us') i = some none) ∨ (∃ j v v', q = some (j, v) ∧ Instr.findNow d u (e :: us') i = some (some (j, v')) ∧ VR E ρ v v' ∧ i ≤ j ∧ ∃ e', (e :: us')[j - i]? = some e' ∧ e'.key = u ∧ j - i < ((k', v) :: es).length) := by
      intro hq hs hek
      exact .inr ⟨i, v, e.val, hq.symm, by simp only [Instr.findNow, hs], h2, Nat.le_refl _, e, by simp, hek, by simp⟩
    simp only [keyIdx] at h
    split at h
    · rename_i j n j' n'
      rcases hd with ⟨j0, m0, rfl, m1, h4⟩ | ⟨rfl, l, h4⟩ | ⟨rfl, l, h4⟩ <;> simp at h4
      rw [hk.of_int] at *
      rw [h1.of_int] at *
      split at h
      · rename_i hj
        subst hj
        split at h
        · rename_i hn
          subst hn
          exact here (Option.some.inj h) (by simp [Instr.sameNow]) rfl
        · rename_i hn
          exact next h (by simp [Instr.sameNow, hn])
      · cases h
    · rename_i l l'
      rcases hd with ⟨j0, m0, rfl, m1, h4⟩ | ⟨rfl, l0, h4⟩ | ⟨rfl, l0, h4⟩ <;> simp at h4
      obtain ⟨rfl, h5⟩ := hk
      obtain ⟨h6, h7⟩ := h1
      split at h
      · rename_i hn
        rw [beq_iff_eq] at hn
        subst hn
        exact here (Option.some.inj h) (by simp only [Instr.sameNow, h6, bsOf_inj h5 h7]; simp) h6
      · rename_i hn
        exact next h (by simp only [Instr.sameNow, h6, bsOf_inj h5 h7]; simpa using hn)
    · rename_i l l'
      rcases hd with ⟨j0, m0, rfl, m1, h4⟩ | ⟨rfl, l0, h4⟩ | ⟨rfl, l0, h4⟩ <;> simp at h4
      rw [hk.of_bool] at *
      rw [h1.of_bool] at *
      split at h
      · rename_i hn
        rw [beq_iff_eq] at hn
        subst hn
        exact here (Option.some.inj h) (by simp [Instr.sameNow]) rfl
      · rename_i hn
        exact next h (by simp only [Instr.sameNow]; simpa using hn)
    · cases h
end
end Go.Proofs.YtjaaajmiojigbaaGreatDoor
