/- Operations on what is unknown do what the evaluator says. -/
import Derived.Test.YtjaaajmiojigbaaGreatDoorOpF
import Derived.Test.YtjaaajmiojigbaaGreatDoorSy
namespace Go.Proofs.YtjaaajmiojigbaaGreatDoor
open Go Go.RowKit
variable {E : Env} {X : Ctx}

theorem findF_ok : ∀ {l : List (SX × SX)} {e v : SX}, findF l e = some v → (e, v) ∈ l
  | [], _, _, h => by simp [findF] at h
  | (a, v') :: r, e, v, h => by
    simp only [findF] at h
    split at h
    · rename_i hs
      simp only [Option.some.injEq] at h
      subst h
      rw [SX.same_eq hs]
      exact List.mem_cons_self
    · exact List.mem_cons_of_mem _ (findF_ok h)
theorem eqF_ok : ∀ {F : List (SX × SX)} {e c : SX}, eqF F e = some c → (.bin .eql e c, .bool true) ∈ F ∧ ((∃ l, c = .str l) ∨ ∃ k n, c = .int k n)
  | [], _, _, h => by simp [eqF] at h
  | (a, v) :: r, e, c, h => by
    simp only [eqF] at h
    split at h
    · split at h
      · rename_i hs
        simp only [Option.some.injEq] at h
        subst h
        rw [SX.same_eq hs]
        exact ⟨List.mem_cons_self, .inl ⟨_, rfl⟩⟩
      · exact ⟨List.mem_cons_of_mem _ (eqF_ok h).1, (eqF_ok h).2⟩
    · split at h
      · rename_i hs
        simp only [Option.some.injEq] at h
        subst h
        rw [SX.same_eq hs]
        exact ⟨List.mem_cons_self, .inr ⟨_, _, rfl⟩⟩
      · exact ⟨List.mem_cons_of_mem _ (eqF_ok h).1, (eqF_ok h).2⟩
    · exact ⟨List.mem_cons_of_mem _ (eqF_ok h).1, (eqF_ok h).2⟩
theorem eqF_str (hx : XOk E X) {e : SX} {l : List Nat} (h : eqF X.facts e = some (.str l)) : den E.val e = some (.str l) := by
  have h1 := hx.facts _ _ (eqF_ok h).1
  simp only [den] at h1
  obtain ⟨d, h2, h3⟩ := Option.bind_eq_some_iff.1 h1
  simp only [Option.bind_some] at h3
  cases d with
  | str l' =>
    simp only [binD, Option.some.injEq, D.bool.injEq, beq_iff_eq] at h3
    rw [h2, h3]
  | int _ _ => simp [binD] at h3
  | bool _ => simp [binD] at h3
  | sl _ => simp [binD] at h3
  | any _ => simp [binD] at h3
theorem eqF_int (hx : XOk E X) {e : SX} {k : IntKind} {n : Int} (h : eqF X.facts e = some (.int k n)) : den E.val e = some (.int k n) := by
  have h1 := hx.facts _ _ (eqF_ok h).1
  simp only [den] at h1
  obtain ⟨d, h2, h3⟩ := Option.bind_eq_some_iff.1 h1
  simp only [Option.bind_some] at h3
  cases d with
  | int k' n' =>
    simp only [binD] at h3
    split at h3
    · rename_i hk
      subst hk
      simp only [Option.some.injEq, D.bool.injEq, beq_iff_eq] at h3
      rw [h2, h3]
    · cases h3
  | str _ => simp [binD] at h3
  | bool _ => simp [binD] at h3
  | sl _ => simp [binD] at h3
  | any _ => simp [binD] at h3
theorem nrm0_ok (hx : XOk E X) (e : SX) : den E.val (nrm0 X e) = den E.val e := by
  unfold nrm0
  split
  · rename_i v h
    exact (hx.facts _ _ (findF_ok h)).symm
  · split
    · split
      · rename_i h
        simp only [den, eqF_str hx h, Option.bind_some, binD]
      · rfl
    · split
      · rename_i h
        split
        · rename_i hk
          simp only [den, eqF_int hx h, Option.bind_some, binD, hk, if_true]
        · rfl
      · rfl
    · split
      · rename_i h
        exact (eqF_int hx h).symm
      · rfl
    · rfl
theorem den_not {E : Env} {x : SX} {b : Bool} (h : den E.val x = some (.bool b)) : den E.val (.not x) = some (.bool !b) := by
  simp only [den, h, Option.bind_some, notD]
theorem bin_flip {a b : D} {c : Bool} : (binD .geq a b = some (.bool c) → binD .lss a b = some (.bool !c)) ∧ (binD .lss a b = some (.bool c) → binD .geq a b = some (.bool !c)) := by
  unfold binD
  split
  · split
    · simp only [Option.some.injEq, D.bool.injEq]
      refine ⟨fun h => ?_, fun h => ?_⟩
      · rw [← h, ← decide_not, decide_eq_decide]; omega
      · rw [← h, ← decide_not, decide_eq_decide]; omega
    · exact ⟨fun h => (by cases h), fun h => by cases h⟩
  · simp only [Option.some.injEq, D.bool.injEq]
    exact ⟨fun h => by rw [← h]; simp, fun h => by rw [← h]⟩
  · exact ⟨fun h => (by cases h), fun h => by cases h⟩
  · exact ⟨fun h => (by cases h), fun h => by cases h⟩
theorem den_flip {E : Env} {x y : SX} {c : Bool} : (den E.val (.bin .geq x y) = some (.bool c) → den E.val (.bin .lss x y) = some (.bool !c)) ∧ (den E.val (.bin .lss x y) = some (.bool c) → den E.val (.bin .geq x y) = some (.bool !c)) := by
  simp only [den]
  cases den E.val x with
  | none => exact ⟨fun h => (by cases h), fun h => by cases h⟩
  | some a =>
    cases den E.val y with
    | none => exact ⟨fun h => (by cases h), fun h => by cases h⟩
    | some b => exact bin_flip
theorem nrmS_ok (hx : XOk E X) (e : SX) : den E.val (nrmS X e) = den E.val e := by
  unfold nrmS
  split
  · rename_i x
    split
    · rename_i b h
      have h1 := nrm0_ok hx x
      rw [h] at h1
      exact (den_not h1.symm).symm
    · exact nrm0_ok hx _
  · rename_i a b
    split
    · rename_i c h
      rw [← h]; exact nrm0_ok hx _
    · split
      · rename_i c h
        have h1 := nrm0_ok hx (.bin .lss a b)
        rw [h] at h1
        exact (den_flip.2 h1.symm).symm
      · rfl
  · rename_i a b
    split
    · rename_i c h
      rw [← h]; exact nrm0_ok hx _
    · split
      · rename_i c h
        have h1 := nrm0_ok hx (.bin .geq a b)
        rw [h] at h1
        exact (den_flip.1 h1.symm).symm
      · rfl
  · rename_i a lo hi
    split
    · rename_i n h
      split
      · rename_i hlt
        have h1 := nrm0_ok hx (.len a)
        rw [h] at h1
        simp only [den] at h1 ⊢
        obtain ⟨x, h2, h3⟩ := Option.bind_eq_some_iff.1 h1.symm
        rw [h2]
        simp only [Option.bind_some]
        unfold lenD at h3
        split at h3
        · rename_i l
          simp only [Option.some.injEq, D.int.injEq, true_and] at h3
          have hn : l.length = n := Int.ofNat.inj h3
          simp only [subD]
          rw [if_pos ⟨hlt.1, by omega⟩]
          simp only [Option.bind_some, lenD, List.length_drop, List.length_take]
          congr 3; omega
        · rename_i l
          simp only [Option.some.injEq, D.int.injEq, true_and] at h3
          have hn : l.length = n := Int.ofNat.inj h3
          simp only [subD]
          rw [if_pos ⟨hlt.1, by omega⟩]
          simp only [Option.bind_some, lenD, List.length_drop, List.length_take]
          congr 3; omega
        · cases h3
      · rfl
    · exact nrm0_ok hx _
  · exact nrm0_ok hx _

section
variable {P : Program} {base : Nat} {ρ : Mp} {s s' : St} {w : World} {tm : Tr AV} {a : Act} {o : Oper} {r : ARes}

theorem avOf_vr {e : SX} {d : D} {u : Value} (h : den E.val e = some d) (hd : DR ρ.fz d u) : VR E ρ (avOf e) u := by
  unfold avOf
  split
  · simp only [den, Option.some.injEq] at h; subst h; exact hd
  · simp only [den, Option.some.injEq] at h; subst h; exact hd
  · simp only [den, Option.some.injEq] at h; subst h; exact hd
  · exact ⟨d, h, hd⟩
theorem nrm_vr (hx : XOk E X) {e : SX} {d : D} {u : Value} (h : den E.val e = some d) (hd : DR ρ.fz d u) : VR E ρ (nrm X e) u := avOf_vr (by rw [nrmS_ok hx]; exact h) hd
theorem toSX_ok {v : AV} {u : Value} {e : SX} (hv : VR E ρ v u) (h : toSX v = some e) : ∃ d, den E.val e = some d ∧ DR ρ.fz d u := by
  unfold toSX at h
  split at h <;> first | (cases h; done) | (simp only [Option.some.injEq] at h; subst h)
  · exact ⟨_, rfl, hv⟩
  · exact ⟨_, rfl, hv⟩
  · exact ⟨_, rfl, hv⟩
  · exact hv
  · exact ⟨.sl [], rfl, none, 0, hv, Nat.le_refl _, Nat.zero_le _, .inl rfl⟩
  · obtain ⟨a, hv⟩ := hv; exact ⟨.sl [], rfl, a, 0, hv, Nat.le_refl _, Nat.zero_le _, .inl rfl⟩
theorem holds_ok (hx : XOk E X) {e : SX} (h : holds X e = true) : den E.val e = some (.bool true) := by
  unfold holds isTrueS at h
  split at h
  · rename_i he
    rw [← nrmS_ok hx, he]
    rfl
  · cases h

noncomputable def avD : D → AV
  | .int k n => .int k n
  | .bool b => .bool b
  | .str l => .str l
  | .sl rows => .sx (.lit (.sl rows))
  | .any x => .sx (.lit (.any x))
theorem avD_vr {d : D} {u : Value} (h : DR ρ.fz d u) : VR E ρ (avD d) u := by
  cases d with
  | sl rows => exact ⟨_, rfl, h⟩
  | any _ => exact h.elim
  | _ => exact h
theorem avD_dr {d : D} {u : Value} (h : VR E ρ (avD d) u) : DR ρ.fz d u := by
  cases d with
  | sl rows => obtain ⟨d', h1, h2⟩ := h; simp only [den, Option.some.injEq] at h1; subst h1; exact h2
  | any x => obtain ⟨d', h1, h2⟩ := h; simp only [den, Option.some.injEq] at h1; subst h1; exact h2
  | _ => exact h

theorem knd_has (hx : XOk E X) {e : SX} {d : D} {k : Kd} (h : den E.val e = some d) (hk : knd X e = some k) : HasK X.kt d k := knd_ok hx.kinds e d k h hk
theorem has_int (hx : XOk E X) {e : SX} {d : D} (h : den E.val e = some d) (hk : isInt (knd X e) = true) : ∃ k n, d = .int k n := by
  unfold isInt at hk
  split at hk
  · rename_i k hk'
    obtain ⟨n, rfl⟩ := (knd_has hx h hk').int
    exact ⟨k, n, rfl⟩
  · cases hk
theorem sx_int (hx : XOk E X) {v : AV} {u : Value} {e : SX} (hv : VR E ρ v u) (h : toSX v = some e) (hk : isInt (knd X e) = true) : ∃ k n, den E.val e = some (.int k n) ∧ u = .int k n := by
  obtain ⟨d, h1, h2⟩ := toSX_ok hv h
  obtain ⟨k, n, rfl⟩ := has_int hx h1 hk
  exact ⟨k, n, h1, h2⟩
theorem sx_str (hx : XOk E X) {v : AV} {u : Value} {e : SX} (hv : VR E ρ v u) (h : toSX v = some e) (hk : knd X e = some .str) : ∃ l, den E.val e = some (.str l) ∧ u = .string (bsOf l) ∧ ∀ x ∈ l, x < 256 := by
  obtain ⟨d, h1, h2⟩ := toSX_ok hv h
  obtain ⟨l, rfl, _⟩ := (knd_has hx h1 hk).str
  exact ⟨l, h1, h2⟩
theorem row_kind (hx : XOk E X) {e : SX} {d : D} {z : Nat} (h : den E.val e = some d) (hk : rowKind X e = some z) : ∃ rows, d = .sl rows ∧ ∀ row ∈ rows, row.length = z := by
  unfold rowKind at hk
  split at hk
  · rename_i T hT
    simp only [Option.some.injEq] at hk
    obtain ⟨rows, rfl, h1⟩ := HasK.fn (knd_has hx h hT) rfl
    exact ⟨rows, rfl, fun row hr => by rw [← hk]; exact (h1.mem row hr).length⟩
  · cases hk

/-- Frozen rows of elements of a known size. -/
theorem dr_rows {rows : List (List D)} {u : Value} {z : Nat} (h : DR ρ.fz (.sl rows) u) (hz : ∀ row ∈ rows, row.length = z) : ∃ ad cap, u = .slice ad rows.length cap ∧ rows.length ≤ cap ∧ cap ≤ maxLen ∧ (rows = [] ∨ ∃ g d arr T fr, ad = some ⟨g, d, none⟩ ∧ ρ.fz g = some (.cells arr T fr) ∧ DRr ρ.fz z rows arr d) := by
  obtain ⟨ad, cap, h1, h2, h3, h4⟩ := h
  refine ⟨ad, cap, h1, h2, h3, ?_⟩
  rcases h4 with h4 | ⟨g, d, arr, T, fr, z', h5, h6, h7⟩
  · exact .inl h4
  · cases rows with
    | nil => exact .inl rfl
    | cons r rs =>
      have : z' = z := by rw [← h7.1]; exact hz r List.mem_cons_self
      subst this
      exact .inr ⟨g, d, arr, T, fr, h5, h6, h7⟩

theorem binOk_ok (hx : XOk E X) {t : TypeId} {op : BinOp} {e1 e2 : SX} {d1 d2 : D} (h1 : den E.val e1 = some d1) (h2 : den E.val e2 = some d2) (hk : binOk P t op e2 (knd X e1) (knd X e2) = true) :
    ∃ d3, binD op d1 d2 = some d3 ∧ binA P t op (avD d1) (avD d2) = some (avD d3) ∧ (∀ u, DR ρ.fz d1 u → u ≠ .nilIface) := by
  unfold binOk at hk
  split at hk
  · rename_i k k' hk1 hk2
    obtain ⟨n, rfl⟩ := (knd_has hx h1 hk1).int
    obtain ⟨m, rfl⟩ := (knd_has hx h2 hk2).int
    simp only [Bool.and_eq_true, decide_eq_true_eq] at hk
    obtain ⟨rfl, hk⟩ := hk
    have hn : ∀ u, DR ρ.fz (.int k n) u → u ≠ .nilIface := fun u hu => by rw [show u = _ from hu]; simp
    have hnz : nzS e2 = true → m ≠ 0 := fun hz => by
      unfold nzS at hz
      split at hz
      · simp only [den, Option.some.injEq, D.int.injEq] at h2
        obtain ⟨_, rfl⟩ := h2
        simpa using hz
      · cases hz
    cases op <;> first | (cases hk; done) | exact ⟨_, if_pos rfl, if_pos rfl, hn⟩ | exact ⟨_, (if_pos rfl).trans (if_neg (hnz hk)), (if_pos rfl).trans (if_neg (hnz hk)), hn⟩
  · rename_i hk1 hk2
    obtain ⟨n, rfl, _⟩ := (knd_has hx h1 hk1).str
    obtain ⟨m, rfl, _⟩ := (knd_has hx h2 hk2).str
    have hn : ∀ u, DR ρ.fz (.str n) u → u ≠ .nilIface := fun u hu => by rw [hu.1]; simp
    split at hk <;> first | (cases hk; done) | exact ⟨_, rfl, rfl, hn⟩
  · rename_i hk1 hk2
    obtain ⟨n, rfl⟩ := (knd_has hx h1 hk1).bool
    obtain ⟨m, rfl⟩ := (knd_has hx h2 hk2).bool
    have hn : ∀ u, DR ρ.fz (.bool n) u → u ≠ .nilIface := fun u hu => by rw [show u = _ from hu]; simp
    split at hk <;> first | (cases hk; done) | (rename_i ht; exact ⟨_, rfl, by simp only [avD, binA, eqA, ht]; rfl, hn⟩)
  · cases hk

theorem nonneg_ok (hx : XOk E X) {e : SX} {k : IntKind} {n : Int} (h : den E.val e = some (.int k n)) (hn : nonneg X e = true) : 0 ≤ n := by
  unfold nonneg at hn
  split at hn
  · rename_i k' m
    simp only [den, Option.some.injEq, D.int.injEq] at h
    rw [← h.2]
    exact Int.natCast_nonneg m
  · have := holds_ok hx hn
    simp only [den, h, Option.bind_some, binD] at this
    split at this
    · simpa using this
    · cases this
theorem cmpS_lss (hx : XOk E X) {a b : SX} {k k' : IntKind} {n m : Int} (h1 : den E.val a = some (.int k n)) (h2 : den E.val b = some (.int k' m)) (h : cmpS X .lss a b = true) : n < m := by
  unfold cmpS at h
  split at h
  · simp only [den, Option.some.injEq, D.int.injEq] at h1 h2
    rw [← h1.2, ← h2.2]
    simpa using h
  · exact absurd ‹BinOp.lss = BinOp.leq› (by decide)
  · have := holds_ok hx h
    simp only [den, h1, h2, Option.bind_some, binD] at this
    split at this
    · simpa using this
    · cases this
theorem cmpS_leq (hx : XOk E X) {a b : SX} {k k' : IntKind} {n m : Int} (h1 : den E.val a = some (.int k n)) (h2 : den E.val b = some (.int k' m)) (h : cmpS X .leq a b = true) : n ≤ m := by
  unfold cmpS at h
  split at h
  · exact absurd ‹BinOp.leq = BinOp.lss› (by decide)
  · simp only [den, Option.some.injEq, D.int.injEq] at h1 h2
    rw [← h1.2, ← h2.2]
    simpa using h
  · have := holds_ok hx h
    simp only [den, h1, h2, Option.bind_some, binD] at this
    split at this
    · simpa using this
    · cases this
theorem inRange_ok (hx : XOk E X) {e i : SX} {d : D} {k : IntKind} {n : Int} {L : Nat} (h1 : den E.val e = some d) (hL : lenD d = some (.int .i64 (L : Int))) (h2 : den E.val i = some (.int k n)) (h : inRange X e i = true) : ∃ m : Nat, n = m ∧ m < L := by
  unfold inRange at h
  simp only [Bool.and_eq_true] at h
  have h3 := nonneg_ok hx h2 h.1
  have h4 := cmpS_lss hx h2 (by rw [nrmS_ok hx]; simp only [den, h1, Option.bind_some]; exact hL) h.2
  exact ⟨n.toNat, by omega, by omega⟩

theorem good_symBin (op : BinOp) (t t' : TypeId) (x y : Operand) (ho : o.op = .binOp op t x y t') (hf : FR E ρ tm a.tmps) (hg : Glob E X P ρ) (h : HR E base ρ s w) (he : evSy X P tm s o = some r) : Good E P base ρ s w (execOp a.eval o) r := by
  simp only [evSy, ho] at he
  split at he
  · rename_i va vb h1 h2
    split at he
    · rename_i e1 e2 h3 h4
      split at he
      · rename_i hk
        simp only [Option.some.injEq] at he
        subst he
        obtain ⟨d1, h5, h6⟩ := toSX_ok (rd_ok hf hg h1) h3
        obtain ⟨d2, h7, h8⟩ := toSX_ok (rd_ok hf hg h2) h4
        obtain ⟨d3, h9, h10, h11⟩ := binOk_ok (ρ := ρ) hg.ok h5 h7 hk
        obtain ⟨u, h12, h13, h14⟩ := run_binA (P := P) (w := w) (X := x) (Y := y) (avD_vr (E := E) h6) (avD_vr h8) (.inl (h11 _ h6)) h10
        exact Good.same h (by simp [execOp, ho, h12, h13]) (nrm_vr hg.ok (by simp only [den, h5, h7, Option.bind_some, h9]) (avD_dr (E := E) h14))
      · cases he
    · cases he
  · cases he

theorem good_symUn (u : UnOp) (t : TypeId) (x : Operand) (ho : o.op = .unOp u t x) (hf : FR E ρ tm a.tmps) (hg : Glob E X P ρ) (h : HR E base ρ s w) (he : evSy X P tm s o = some r) : Good E P base ρ s w (execOp a.eval o) r := by
  simp only [evSy, ho] at he
  split at he
  · rename_i e h1
    split at he
    · rename_i hk
      simp only [Option.some.injEq] at he
      subst he
      obtain ⟨k, n, h2, hv⟩ := sx_int hg.ok (rd_ok hf hg h1) rfl hk
      exact Good.same h (u := .int k (k.wrap (0 - n))) (by simp [execOp, ho, hv, Op.unary, Op.intArith]) (nrm_vr hg.ok (d := .int k (k.wrap (0 - n))) (by simp only [den, h2, Option.bind_some, negD]) rfl)
    · cases he
  · rename_i e h1
    split at he
    · rename_i hk
      simp only [Option.some.injEq] at he
      subst he
      obtain ⟨d, h2, h3⟩ := rd_ok hf hg h1
      obtain ⟨b, rfl⟩ := (knd_has hg.ok h2 hk).bool
      have hv : a.eval x = _ := h3
      exact Good.same h (u := .bool (!b)) (by simp [execOp, ho, hv, Op.unary]) (nrm_vr hg.ok (d := .bool (!b)) (by simp only [den, h2, Option.bind_some, notD]) rfl)
    · cases he
  · cases he

theorem good_symConv (src dst : TypeId) (x : Operand) (ho : o.op = .convert src dst x) (hf : FR E ρ tm a.tmps) (hg : Glob E X P ρ) (h : HR E base ρ s w) (he : evSy X P tm s o = some r) : Good E P base ρ s w (execOp a.eval o) r := by
  simp only [evSy, ho] at he
  split at he
  · rename_i i k e h1 h2 h3
    split at he
    · rename_i hk
      simp only [Option.some.injEq] at he
      subst he
      obtain ⟨k', n, h4, hv⟩ := sx_int hg.ok (rd_ok hf hg h3) rfl hk
      exact Good.same h (u := .int k (k.wrap n)) (by simp [execOp, ho, hv, convert, underlying, h1, h2, Conv.intToInt]) (nrm_vr hg.ok (d := .int k (k.wrap n)) (by simp only [den, h4, Option.bind_some, convD]) rfl)
    · cases he
  · rename_i i e h1 h2 h3
    split at he
    · rename_i hk
      simp only [Option.some.injEq] at he
      subst he
      obtain ⟨l, h4, h5, h6⟩ := sx_str hg.ok (rd_ok hf hg h3) rfl hk
      exact Good.same h (u := .string (bsOf l)) (by simp [execOp, ho, h5, convert, underlying, h1, h2]) ⟨_, h4, rfl, h6⟩
    · cases he
  · cases he

theorem cellsS_vrs (hx : XOk E X) {e i : SX} {rows : List (List D)} {k : IntKind} {n q : Nat} {row : List D} {arr : Array Value} (h1 : den E.val e = some (.sl rows)) (h2 : den E.val i = some (.int k (n : Nat))) (h3 : rows[n]? = some row) (h4 : DRc ρ.fz row arr q) :
    ∀ (m j : Nat), j + m ≤ row.length → ∃ us, VRs E ρ (cellsS X e i j m) us ∧ us.length = m ∧ ∀ x u, us[x]? = some u → arr[q + j + x]? = some u
  | 0, j, _ => ⟨[], rfl, rfl, by simp⟩
  | m + 1, j, hle => by
    obtain ⟨us, h5, h6, h7⟩ := cellsS_vrs hx h1 h2 h3 h4 m (j + 1) (by omega)
    have hj : row[j]? = some (row[j]'(by omega)) := List.getElem?_eq_getElem _
    obtain ⟨u, h8, h9⟩ := h4.get hj
    refine ⟨u :: us, ⟨u, us, rfl, nrm_vr hx (d := row[j]'(by omega)) ?_ h9, h5⟩, by simp [h6], fun x u' hu => ?_⟩
    · simp only [den, h1, h2, Option.bind_some]
      show (match rows[n]? with | some row => row[j]? | none => none) = _
      rw [h3]
      exact hj
    · cases x with
      | zero => simp at hu; subst hu; exact h8
      | succ x =>
        have := h7 x u' (by simpa using hu)
        rw [← this]
        congr 1
        omega

theorem good_symLoad (t : TypeId) (x : Operand) (ho : o.op = .load t x) (hf : FR E ρ tm a.tmps) (hg : Glob E X P ρ) (h : HR E base ρ s w) (he : evSy X P tm s o = some r) : Good E P base ρ s w (execOp a.eval o) r := by
  simp only [evSy, ho] at he
  split at he
  · rename_i e i j h1
    obtain ⟨rows, k, n, row, arr, T, fr, g, q, h2, h3, h4, h5, h6, h7⟩ := rd_ok hf hg h1
    have hrow := h.frz _ _ h5
    split at he
    · rename_i d m z h8 h9 h10
      obtain ⟨rows', h11, h12⟩ := row_kind hg.ok h2 h10
      simp only [D.sl.injEq] at h11
      subst h11
      have hlen := h12 row (List.mem_of_getElem? h4)
      split at he
      · rename_i hle
        obtain ⟨us, h13, h14, h15⟩ := cellsS_vrs hg.ok h2 h3 h4 h7 m j (by omega)
        split at he
        · rename_i hd
          simp only [Option.some.injEq] at he
          subst he
          refine Good.same h (u := .agg (List.toArray us)) ?_ ⟨us, rfl, h13⟩
          have h16 := run_loadCells_list (P := P) w ⟨g, q + j, none⟩ us (fun x v hv => by rw [Addr.add_lit, cell_of_row w _ _ _ _ _ hrow]; exact h15 x v hv)
          rw [h14] at h16
          have h17 : (loadVar t ⟨g, q + j, none⟩).run P w = .ok (.agg (List.toArray us)) w := by
            unfold loadVar
            simp [run_isAgg h8, hd, run_sizeOf' h9, h16]
          simp [execOp, ho, Instr.loadAt, h6, Instr.sureAddr, h17]
        · rename_i hd
          split at he
          · rename_i hm
            subst hm
            simp only [Option.some.injEq] at he
            subst he
            obtain ⟨u, _, rfl, h16, _⟩ := h13
            have h17 := h15 0 u rfl
            rw [Nat.add_zero] at h17
            refine Good.same h (u := u) ?_ h16
            have h18 : (loadVar t ⟨g, q + j, none⟩).run P w = .ok u w := by
              unfold loadVar
              simp [run_isAgg h8, hd, load, Sem.run, cell_of_row w _ _ _ _ _ hrow, h17]
            simp [execOp, ho, Instr.loadAt, h6, Instr.sureAddr, h18]
          · cases he
      · cases he
    · cases he
  · rename_i g h1
    obtain ⟨c, h2, h3⟩ := rd_ok hf hg h1
    split at he
    · rename_i d gg i h4 h5 h6
      split at he
      · rename_i hd
        simp only [Option.some.injEq] at he
        subst he
        have h7 := List.find?_some h6
        simp only [beq_iff_eq] at h7
        have h8 := hg.ok.tabs _ _ (List.mem_of_find?_eq_some h6)
        subst h7
        obtain ⟨arr, T, fr, u, h9, h10, h11⟩ := hg.base.tab _ _ h8.1
        replace h11 := h11.dr h8.2
        obtain ⟨m, hm⟩ := hg.base.lies _ hd.2
        rw [hm] at h2
        obtain rfl := Option.some.inj h2
        refine Good.same h (u := u) ?_ (nrm_vr hg.ok (d := E.val i) rfl h11)
        have h18 : (loadVar t ⟨gg, 0 + 0, none⟩).run P w = .ok u w := by
          unfold loadVar
          simp [run_isAgg h4, hd.1, load, Sem.run, cell_of_row w _ _ _ _ _ (h.frz _ _ h9), h10]
        simp [execOp, ho, Instr.loadAt, h3, Instr.sureAddr, h18]
      · cases he
    · cases he
  · cases he

theorem good_symField (t : TypeId) (x : Operand) (k : Nat) (ho : o.op = .fieldAddr t x k) (hf : FR E ρ tm a.tmps) (hg : Glob E X P ρ) (h : HR E base ρ s w) (he : evSy X P tm s o = some r) : Good E P base ρ s w (execOp a.eval o) r := by
  simp only [evSy, ho] at he
  split at he
  · rename_i d e i j h1 h2
    split at he
    · rename_i n hn
      simp only [Option.some.injEq] at he
      subst he
      obtain ⟨fs, h3, h4⟩ := fieldOf_ok h1
      obtain ⟨rows, kk, nn, row, arr, T, fr, g, q, h5, h6, h7, h8, h9, h10⟩ := rd_ok hf hg h2
      refine Good.same h (u := .pointer (some ⟨g, q + (j + d.offset), none⟩)) ?_ ⟨rows, kk, nn, row, arr, T, fr, g, q, h5, h6, h7, h8, rfl, h10⟩
      simp [execOp, ho, Instr.fieldAt, underlying, h3, h4, h9, Instr.sureAddr, fieldPlace, run_sizeOf' hn, Addr.add_lit, Nat.add_assoc]
    · cases he
  · cases he

theorem good_symIndexAddr (t : TypeId) (x y : Operand) (ho : o.op = .indexAddr t x y) (hf : FR E ρ tm a.tmps) (hg : Glob E X P ρ) (h : HR E base ρ s w) (he : evSy X P tm s o = some r) : Good E P base ρ s w (execOp a.eval o) r := by
  simp only [evSy, ho] at he
  split at he
  · rename_i et e iv h1 h2 h3
    split at he
    · rename_i ie z z' h4 h5 h6
      split at he
      · rename_i hc
        obtain ⟨rfl, hk, hr⟩ := hc
        simp only [Option.some.injEq] at he
        subst he
        obtain ⟨d, h7, h8⟩ := rd_ok hf hg h2
        obtain ⟨rows, rfl, hz⟩ := row_kind hg.ok h7 h5
        obtain ⟨k, n, h9, hi⟩ := sx_int hg.ok (rd_ok hf hg h3) h4 hk
        obtain ⟨m, rfl, hm⟩ := inRange_ok hg.ok h7 rfl h9 hr
        obtain ⟨ad, cap, h10, h11, h12, h13⟩ := dr_rows h8 hz
        rcases h13 with h13 | ⟨g, dd, arr, T, fr, h13, h14, h15⟩
        · subst h13; simp at hm
        · subst h13
          have hrow : rows[m]? = some (rows[m]'hm) := List.getElem?_eq_getElem _
          refine Good.same h (u := .pointer (some ⟨g, dd + m * z + 0, none⟩)) ?_ ⟨rows, k, m, _, arr, T, fr, g, dd + m * z, h7, h9, hrow, h14, rfl, (h15.get hrow).2⟩
          simp [execOp, ho, Instr.indexAt, hi, asIntOf, underlying, h1, h10, hm, run_sizeOf' h6, Addr.add_lit]
      · cases he
    · cases he
  · cases he

theorem good_symIndex (t : TypeId) (x y : Operand) (ho : o.op = .index t x y) (hf : FR E ρ tm a.tmps) (hg : Glob E X P ρ) (h : HR E base ρ s w) (he : evSy X P tm s o = some r) : Good E P base ρ s w (execOp a.eval o) r := by
  simp only [evSy, ho] at he
  split at he
  · rename_i xv iv h1 h2 h3
    split at he
    · rename_i e ie h4 h5
      split at he
      · rename_i hc
        obtain ⟨hks, hki, hr⟩ := hc
        simp only [Option.some.injEq] at he
        subst he
        obtain ⟨l, h6, h7, h8⟩ := sx_str hg.ok (rd_ok hf hg h2) h4 hks
        obtain ⟨kk, n, h9, hi⟩ := sx_int hg.ok (rd_ok hf hg h3) h5 hki
        obtain ⟨k, rfl, hlt⟩ := inRange_ok hg.ok h6 rfl h9 hr
        have h10 : l[k]? = some (l[k]'hlt) := List.getElem?_eq_getElem _
        have hs : k < (bsOf l).size := by rw [bsOf_size]; exact hlt
        have hget : ((bsOf l)[k]'hs).toNat = l[k]'hlt := by
          rw [bsOf_get]
          have := h8 _ (List.getElem_mem hlt)
          simp; omega
        refine Good.same h (u := .int .u8 ((l[k]'hlt : Nat) : Int)) ?_ (nrm_vr hg.ok (d := .int .u8 ((l[k]'hlt : Nat) : Int)) ?_ rfl)
        · have hr := run_index_string (P := P) w t (bsOf l) kk k h1
          rw [dif_pos ⟨by omega, by omega⟩] at hr
          simp only [Int.toNat_natCast, hget] at hr
          simp [execOp, ho, hi, h7, hr]
        · simp only [den, h6, h9, Option.bind_some]
          show (match l[k]? with | some c => some (D.int .u8 (c : Int)) | none => none) = _
          rw [h10]
      · cases he
    · cases he
  · cases he

theorem boundS_ok (hx : XOk E X) {x : Option Operand} {dflt e : SX} (hf : FR E ρ tm a.tmps) (hg : Glob E X P ρ) (h : boundS P X x tm dflt = some e) : (x.map a.eval = none ∧ e = dflt) ∨ ∃ k n, x.map a.eval = some (.int k n) ∧ den E.val e = some (.int k n) := by
  unfold boundS at h
  cases x with
  | none => simp at h; exact .inl ⟨rfl, h.symm⟩
  | some y =>
    simp only at h
    split at h
    · rename_i v h1
      split at h
      · rename_i e' h2
        split at h
        · rename_i hk
          simp only [Option.some.injEq] at h
          subst h
          obtain ⟨k, n, h3, h4⟩ := sx_int hx (rd_ok hf hg h1) h2 hk
          exact .inr ⟨k, n, by simp [h4], h3⟩
        · cases h
      · cases h
    · cases h

/-- Both bounds as numbers. -/
theorem boundsS_ok (hx : XOk E X) {lo hi : Option Operand} {l q e : SX} {d : D} {L : Nat} (hf : FR E ρ tm a.tmps) (hg : Glob E X P ρ) (hd : den E.val e = some d) (hL : lenD d = some (.int .i64 (L : Int)))
    (h1 : boundS P X hi tm (nrmS X (.len e)) = some q) (h2 : boundS P X lo tm (.int .i64 0) = some l) (hn : nonneg X l = true) (hle : cmpS X .leq l q = true) (hqL : cmpS X .leq q (nrmS X (.len e)) = true) :
    ∃ (l' q' : Nat) (k1 k2 : IntKind), den E.val l = some (.int k1 (l' : Nat)) ∧ den E.val q = some (.int k2 (q' : Nat)) ∧ l' ≤ q' ∧ q' ≤ L ∧ ((hi.map a.eval = none ∧ q' = L) ∨ ∃ k, hi.map a.eval = some (.int k (q' : Int))) ∧ ((lo.map a.eval = none ∧ l' = 0) ∨ ∃ k, lo.map a.eval = some (.int k (l' : Int))) := by
  have hlen : den E.val (nrmS X (.len e)) = some (.int .i64 (L : Int)) := by rw [nrmS_ok hx]; simp only [den, hd, Option.bind_some]; exact hL
  obtain ⟨k2, q1, hq, hq'⟩ : ∃ k n, den E.val q = some (.int k n) ∧ ((hi.map a.eval = none ∧ n = (L : Int)) ∨ hi.map a.eval = some (.int k n)) := by
    rcases boundS_ok hx hf hg h1 with ⟨h3, rfl⟩ | ⟨k, n, h3, h4⟩
    · exact ⟨_, _, hlen, .inl ⟨h3, rfl⟩⟩
    · exact ⟨k, n, h4, .inr h3⟩
  obtain ⟨k1, l1, hl, hl'⟩ : ∃ k n, den E.val l = some (.int k n) ∧ ((lo.map a.eval = none ∧ n = 0) ∨ lo.map a.eval = some (.int k n)) := by
    rcases boundS_ok hx hf hg h2 with ⟨h3, rfl⟩ | ⟨k, n, h3, h4⟩
    · exact ⟨_, _, rfl, .inl ⟨h3, rfl⟩⟩
    · exact ⟨k, n, h4, .inr h3⟩
  have g1 := nonneg_ok hx hl hn
  have g2 := cmpS_leq hx hl hq hle
  have g3 := cmpS_leq hx hq hlen hqL
  have el : l1 = (l1.toNat : Nat) := by omega
  have eq : q1 = (q1.toNat : Nat) := by omega
  refine ⟨l1.toNat, q1.toNat, k1, k2, by rw [← el]; exact hl, by rw [← eq]; exact hq, by omega, by omega, ?_, ?_⟩
  · rcases hq' with ⟨h3, h4⟩ | h3
    · exact .inl ⟨h3, by omega⟩
    · exact .inr ⟨k2, by rw [← eq]; exact h3⟩
  · rcases hl' with ⟨h3, h4⟩ | h3
    · exact .inl ⟨h3, by omega⟩
    · exact .inr ⟨k1, by rw [← el]; exact h3⟩

theorem DRr.drop {fz : Nat → Option Obj} {z : Nat} : ∀ {rs : List (List D)} {arr : Array Value} {d : Nat} (k : Nat), DRr fz z rs arr d → DRr fz z (rs.drop k) arr (d + k * z)
  | [], _, _, k, _ => by rw [List.drop_nil]; exact True.intro
  | r :: rs, arr, d, 0, h => by simpa using h
  | r :: rs, arr, d, k + 1, ⟨_, _, h3⟩ => by
    have := DRr.drop k h3
    rw [List.drop_succ_cons, show d + (k + 1) * z = d + z + k * z by rw [Nat.succ_mul]; omega]
    exact this
theorem DRr.take {fz : Nat → Option Obj} {z : Nat} : ∀ {rs : List (List D)} {arr : Array Value} {d : Nat} (k : Nat), DRr fz z rs arr d → DRr fz z (rs.take k) arr d
  | [], _, _, k, _ => by rw [List.take_nil]; exact True.intro
  | r :: rs, arr, d, 0, h => by rw [List.take_zero]; exact True.intro
  | r :: rs, arr, d, k + 1, ⟨h1, h2, h3⟩ => ⟨h1, h2, DRr.take k h3⟩

theorem good_symSlice (t : TypeId) (x : Operand) (lo hi mx : Option Operand) (ho : o.op = .slice t x lo hi mx) (hf : FR E ρ tm a.tmps) (hg : Glob E X P ρ) (h : HR E base ρ s w) (he : evSy X P tm s o = some r) : Good E P base ρ s w (execOp a.eval o) r := by
  simp only [evSy, ho] at he
  split at he
  · rename_i et e hu hx
    obtain ⟨d, h1, h2⟩ := rd_ok hf hg hx
    split at he
    · rename_i z z' q l hz hz' hq hl
      split at he
      · rename_i hc
        obtain ⟨rfl, hn, hlq, hqL⟩ := hc
        simp only [Option.some.injEq] at he
        subst he
        obtain ⟨rows, rfl, hrz⟩ := row_kind hg.ok h1 hz'
        obtain ⟨l', q', k1, k2, e1, e2, e3, e4, e5, e6⟩ := boundsS_ok hg.ok hf hg h1 rfl hq hl hn hlq hqL
        obtain ⟨ad, cap, h10, h11, h12, h13⟩ := dr_rows h2 hrz
        have hb := run_bounds (P := P) (w := w) true (len := rows.length) (cap := cap) e5 e6 e3 (by omega)
        have hlen : ((rows.take q').drop l').length = q' - l' := by simp; omega
        have hden : den E.val (.sub e l q) = some (.sl ((rows.take q').drop l')) := by
          simp only [den, h1, e1, e2, Option.bind_some]
          show (if l' ≤ q' ∧ q' ≤ rows.length then _ else _) = _
          rw [if_pos ⟨e3, e4⟩]
        cases ad with
        | none =>
          have hr0 : rows = [] := by
            rcases h13 with h13 | ⟨g, dd, arr, T, fr, h13, _⟩
            · exact h13
            · cases h13
          subst hr0
          simp at e4
          subst e4
          have : l' = 0 := by omega
          subst this
          simp only [List.length_nil] at hb
          refine Good.same h (u := .slice none 0 cap) ?_ (nrm_vr hg.ok hden ⟨none, cap, rfl, Nat.zero_le _, h12, .inl rfl⟩)
          simp [execOp, ho, Instr.sliceAt, Instr.slice, underlying, hu, h10, hb, run_sizeOf' hz]
        | some ad =>
          refine Good.same h (u := .slice (some (if cap = l' then ad else ad.add (l' * z))) (q' - l') (cap - l')) ?_ (nrm_vr hg.ok hden ⟨_, cap - l', by rw [hlen], by rw [hlen]; omega, by omega, ?_⟩)
          · have hb' := hb
            by_cases hcl : cap = l'
            · subst hcl
              simp [execOp, ho, Instr.sliceAt, Instr.slice, underlying, hu, h10, hb, run_sizeOf' hz]
            · simp [execOp, ho, Instr.sliceAt, Instr.slice, underlying, hu, h10, hb, run_sizeOf' hz, hcl]
          · rcases h13 with h13 | ⟨g, dd, arr, T, fr, h13, h14, h15⟩
            · subst h13; exact .inl (by simp)
            · by_cases hql : q' = l'
              · exact .inl (List.eq_nil_of_length_eq_zero (by omega))
              · obtain rfl := Option.some.inj h13
                have hcl : cap ≠ l' := by omega
                exact .inr ⟨g, dd + l' * z, arr, T, fr, z, by rw [if_neg hcl, Addr.add_lit], h14, (h15.take q').drop l'⟩
      · cases he
    · cases he
  · rename_i e hu hx
    split at he
    · rename_i q l hq hl
      split at he
      · rename_i hc
        obtain ⟨hks, hn, hlq, hqL⟩ := hc
        simp only [Option.some.injEq] at he
        subst he
        obtain ⟨ls, h1, h3, h4⟩ := sx_str hg.ok (rd_ok hf hg hx) rfl hks
        obtain ⟨l', q', k1, k2, e1, e2, e3, e4, e5, e6⟩ := boundsS_ok hg.ok hf hg h1 rfl hq hl hn hlq hqL
        have hb := run_bounds (P := P) (w := w) false (len := (bsOf ls).size) (cap := (bsOf ls).size) (by rw [bsOf_size]; exact e5) e6 e3 (by rw [bsOf_size]; exact e4)
        have hden : den E.val (.sub e l q) = some (.str ((ls.take q').drop l')) := by
          simp only [den, h1, e1, e2, Option.bind_some]
          show (if l' ≤ q' ∧ q' ≤ ls.length then _ else _) = _
          rw [if_pos ⟨e3, e4⟩]
        refine Good.same h (u := .string (bsOf ((ls.take q').drop l'))) ?_ (nrm_vr hg.ok hden ⟨rfl, fun y hy => h4 y (List.mem_of_mem_take (List.mem_of_mem_drop hy))⟩)
        simp [execOp, ho, Instr.sliceAt, Instr.slice, underlying, hu, h3, hb, bsOf_extract]
      · cases he
    · cases he
  · cases he

theorem keyIdxS_ok (hx : XOk E X) {e : SX} {d : D} (hd : den E.val e = some d) : ∀ {es : List (AV × AV)} {i : Nat} {q : Option (Nat × AV)}, keyIdxS X e es i = some q → keyIdx (avD d) es i = some q
  | [], i, q, h => by simpa [keyIdxS, keyIdx] using h
  | (k', v) :: es, i, q, h => by
    simp only [keyIdxS] at h
    split at h
    · rename_i l
      have hden : ∀ b, nrmS X (.bin .eql e (.str l)) = .bool b → ∃ x, d = .str x ∧ (x == l) = b := fun b hb => by
        have := nrmS_ok hx (.bin .eql e (.str l))
        rw [hb] at this
        simp only [den, hd, Option.bind_some] at this
        cases d with
        | str x =>
          simp only [binD, Option.some.injEq, D.bool.injEq] at this
          exact ⟨x, rfl, this.symm⟩
        | _ => simp [binD] at this
      split at h
      · rename_i hb
        obtain ⟨x, rfl, hxl⟩ := hden _ hb
        simp only [avD, keyIdx, hxl, if_true]
        exact h
      · rename_i hb
        obtain ⟨x, rfl, hxl⟩ := hden _ hb
        simp only [avD, keyIdx, hxl]
        exact keyIdxS_ok hx hd h
      · cases h
    · rename_i k n
      have hden : ∀ b, nrmS X (.bin .eql e (.int k n)) = .bool b → ∃ x, d = .int k x ∧ (x == n) = b := fun b hb => by
        have := nrmS_ok hx (.bin .eql e (.int k n))
        rw [hb] at this
        simp only [den, hd, Option.bind_some] at this
        cases d with
        | int k1 x =>
          simp only [binD] at this
          split at this
          · rename_i hk
            subst hk
            simp only [Option.some.injEq, D.bool.injEq] at this
            exact ⟨x, rfl, this.symm⟩
          · cases this
        | _ => simp [binD] at this
      split at h
      · rename_i hb
        obtain ⟨x, rfl, hxl⟩ := hden _ hb
        simp only [avD, keyIdx, if_true]
        rw [if_pos (by simpa using hxl)]
        exact h
      · rename_i hb
        obtain ⟨x, rfl, hxl⟩ := hden _ hb
        simp only [avD, keyIdx, if_true]
        rw [if_neg (by simpa using hxl)]
        exact keyIdxS_ok hx hd h
      · cases h
    · cases h
theorem keyOkS_ok (hx : XOk E X) {kt : TypeId} {e : SX} {d : D} (hd : den E.val e = some d) (h : keyOkS P kt (knd X e) = true) : keyOk P kt (avD d) = true := by
  unfold keyOkS at h
  split at h
  · rename_i k hk
    obtain ⟨n, rfl⟩ := (knd_has hx hd hk).int
    exact h
  · rename_i hk
    obtain ⟨n, rfl, _⟩ := (knd_has hx hd hk).str
    exact h
  · cases h

theorem good_symLookup (t : TypeId) (m k : Operand) (ok : Bool) (ho : o.op = .lookup t m k ok) (hf : FR E ρ tm a.tmps) (hg : Glob E X P ρ) (h : HR E base ρ s w) (he : evSy X P tm s o = some r) : Good E P base ρ s w (execOp a.eval o) r := by
  simp only [evSy, ho] at he
  split at he
  · rename_i kt e v ke hu h1 h2
    have hm := rd_ok hf hg h1
    obtain ⟨dk, hdk, hdr⟩ := rd_ok hf hg h2
    have hk : VR E ρ (avD dk) (a.eval k) := avD_vr hdr
    split at he
    · rename_i hko0
      have hko := keyOkS_ok (P := P) hg.ok hdk hko0
      split at he
      · rename_i es z h3 h4
        obtain ⟨us, h5, h6⟩ := entries_ok h hm h3
        have hc := fun b => (keyOk_ok (w := w) hko hk b).1
        obtain ⟨d, hd, hki⟩ := (keyOk_ok (w := w) hko hk true).2
        split at he
        · rename_i j v h7
          have h7 := keyIdxS_ok hg.ok hdk h7
          simp only [Option.some.injEq] at he
          subst he
          rcases findNow_ok hki hk h5 h7 with ⟨h8, _⟩ | ⟨j', v0, v', h8, h9, h10, _⟩
          · cases h8
          · simp only [Option.some.injEq, Prod.mk.injEq] at h8
            obtain ⟨rfl, rfl⟩ := h8
            have hr := run_lookup_some (ok := ok) hu h6 hc hd h9
            refine Good.same h (by simp [execOp, ho, hr]; rfl) ?_
            cases ok
            · exact h10
            · exact ⟨[v', .bool true], rfl, _, _, rfl, h10, _, _, rfl, rfl, rfl⟩
        · rename_i h7
          have h7 := keyIdxS_ok hg.ok hdk h7
          simp only [Option.some.injEq] at he
          subst he
          obtain ⟨zv, h11, h12⟩ := zeroV_ok (E := E) (ρ := ρ) (w := w) h4
          rcases findNow_ok hki hk h5 h7 with ⟨_, h9⟩ | ⟨j', v0, v', h8, _⟩
          · have hr := run_lookup_none (ok := ok) hu h6 hc hd h9 h11
            refine Good.same h (by simp [execOp, ho, hr]; rfl) ?_
            cases ok
            · exact h12
            · exact ⟨[zv, .bool false], rfl, _, _, rfl, h12, _, _, rfl, rfl, rfl⟩
          · cases h8
        · cases he
      · cases he
    · cases he
  · cases he

theorem lenSy_ok (hx : XOk E X) {t : TypeId} {rest : List TypeId} {x : AV} {u : Value} {e : SX} (ty : TypeId) (consts : Array Bool) (h : HR E base ρ s w) (hv : VR E ρ x u) (he : lenSy X P t x = some e) : Good E P base ρ s w (builtin .len (List.toArray (t :: rest)) ty consts #[u]) (.val (nrm X e) s) := by
  unfold lenSy at he
  split at he
  · rename_i e' hu
    split at he
    · rename_i hk
      simp only [Option.some.injEq] at he
      subst he
      obtain ⟨l, h1, rfl, h2⟩ := sx_str hx hv rfl hk
      exact Good.same h (u := .int .i64 l.length) (by simp [builtin, Builtin.len_, underlying, hu, goInt, bsOf_size]) (nrm_vr hx (d := .int .i64 l.length) (by simp only [den, h1, Option.bind_some, lenD]) rfl)
    · cases he
  · rename_i et e' hu
    split at he
    · rename_i hk
      simp only [Option.some.injEq] at he
      subst he
      obtain ⟨d, h1, h2⟩ := hv
      obtain ⟨z, hz⟩ := Option.isSome_iff_exists.1 hk
      obtain ⟨rows, rfl, _⟩ := row_kind hx h1 hz
      obtain ⟨ad, cap, rfl, _⟩ := h2
      exact Good.same h (u := .int .i64 rows.length) (by simp [builtin, Builtin.len_, underlying, hu, goInt]) (nrm_vr hx (d := .int .i64 rows.length) (by simp only [den, h1, Option.bind_some, lenD]) rfl)
    · cases he
  · rename_i et b e' z hu
    simp only [Option.some.injEq] at he
    subst he
    obtain ⟨l, cap, rows, h1, h2, rfl, _⟩ := hv
    exact Good.same h (u := .int .i64 rows.length) (by simp [builtin, Builtin.len_, underlying, hu, goInt]) (nrm_vr hx (d := .int .i64 rows.length) (by simp only [den, h2, Option.bind_some, lenD]) rfl)
  · cases he
end
end Go.Proofs.YtjaaajmiojigbaaGreatDoor
