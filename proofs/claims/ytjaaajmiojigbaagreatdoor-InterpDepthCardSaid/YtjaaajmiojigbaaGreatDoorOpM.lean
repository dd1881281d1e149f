/- What the evaluator says of an operation is what the operation does: operands, moves, addresses, loads. -/
import Derived.Test.YtjaaajmiojigbaaGreatDoorMemo
import Derived.Laws.Cells
import Derived.Laws.CopyRow
import Derived.Laws.Tables
import Derived.Laws.MakeOwn
import Derived.Laws.RangeString
import Derived.Laws.Slices
import Derived.Laws.Strings
import Derived.Laws.IdiomStrings
namespace Go.Proofs.YtjaaajmiojigbaaGreatDoor
open Go Go.RowKit
variable {E : Env} {X : Ctx}

/-- The package variables: where they lie; what the tables among them hold, frozen. -/
structure Glob0 (E : Env) (P : Program) (ρ : Mp) : Prop where
  lies : ∀ g, g < P.globals.size → ∃ m, ρ g = some ⟨g, 0, m⟩
  tab : ∀ g d, E.tab g = some d → ∃ arr T fr u, ρ.fz g = some (.cells arr T fr) ∧ arr[0]? = some u ∧ GR ρ.fz d u
/-- What is told of the unknown is true. -/
structure XOk (E : Env) (X : Ctx) : Prop where
  facts : ∀ e v, (e, v) ∈ X.facts → den E.val e = den E.val v
  kinds : ∀ i k, X.vk[i]? = some k → HasK X.kt (E.val i) k
  tabs : ∀ g i, (g, i) ∈ X.gt → E.tab g = some (E.val i) ∧ ∀ x, E.val i ≠ .any x
structure Glob (E : Env) (X : Ctx) (P : Program) (ρ : Mp) : Prop where
  base : Glob0 E P ρ
  ok : XOk E X
theorem Glob0.mono {P : Program} {ρ σ : Mp} (h : Glob0 E P ρ) (hx : Ext ρ σ) : Glob0 E P σ :=
  ⟨fun g hg => let ⟨m, hm⟩ := h.lies g hg; ⟨m, hx _ _ hm⟩, fun g d hd => let ⟨arr, T, fr, u, h1, h2, h3⟩ := h.tab g d hd; ⟨arr, T, fr, u, hx.fz _ _ h1, h2, h3.mono hx.fz⟩⟩
theorem Glob.mono {P : Program} {ρ σ : Mp} (h : Glob E X P ρ) (hx : Ext ρ σ) : Glob E X P σ := ⟨h.base.mono hx, h.ok⟩

theorem bsOf_nats (s : ByteArray) : bsOf (nats s) = s := by
  obtain ⟨⟨l⟩⟩ := s
  unfold bsOf nats
  simp only [List.map_map]
  congr 2
  exact (List.map_congr_left fun a _ => by simp [Function.comp]).trans (List.map_id _)
theorem nats_lt (s : ByteArray) : ∀ x ∈ nats s, x < 256 := by
  intro x hx
  unfold nats at hx
  rw [List.mem_map] at hx
  obtain ⟨c, _, rfl⟩ := hx
  exact c.toNat_lt

theorem ofVal0_ok {ρ : Mp} {v : Value} {x : AV} (h : ofVal0 v = some x) : VR E ρ x v := by
  unfold ofVal0 at h
  split at h <;> first | (cases h; done) | (simp only [Option.some.injEq] at h; subst h)
  · exact rfl
  · exact rfl
  · exact ⟨by rw [bsOf_nats], nats_lt _⟩
  all_goals exact rfl
theorem mapM_ofVal0 {ρ : Mp} : ∀ {xs : List Value} {cs : List AV}, xs.mapM ofVal0 = some cs → VRs E ρ cs xs
  | [], cs, h => by simp at h; subst h; rfl
  | x :: r, cs, h => by
    simp only [List.mapM_cons, Option.bind_eq_bind, Option.pure_def] at h
    cases h1 : ofVal0 x with
    | none => simp [h1] at h
    | some v =>
      cases h2 : r.mapM ofVal0 with
      | none => simp [h1, h2] at h
      | some vs => simp [h1, h2] at h; subst h; exact ⟨x, r, rfl, ofVal0_ok h1, mapM_ofVal0 h2⟩
theorem ofVal_ok {ρ : Mp} {v : Value} {x : AV} (h : ofVal v = some x) : VR E ρ x v := by
  unfold ofVal at h
  split at h
  · split at h
    · rename_i cs _ l h1
      simp only [Option.some.injEq] at h
      subst h
      exact ⟨cs.toList, rfl, mapM_ofVal0 h1⟩
    · cases h
  · exact ofVal0_ok h

theorem rd_ok {P : Program} {ρ : Mp} {tm : Tr AV} {a : Act} {x : Operand} {v : AV} (hf : FR E ρ tm a.tmps) (hg : Glob E X P ρ) (h : rd P tm x = some v) : VR E ρ v (a.eval x) := by
  cases x with
  | tmp t =>
    obtain ⟨u, h1, h2⟩ := hf.get t v h
    show VR E ρ v (a.tmps.getD t undef)
    rw [Array.getD_eq_getD_getElem?, h1]
    exact h2
  | const c => exact ofVal_ok h
  | global g =>
    simp only [rd] at h
    split at h
    · simp only [Option.some.injEq] at h; subst h
      obtain ⟨m, hm⟩ := hg.base.lies g ‹_›
      exact ⟨_, hm, rfl⟩
    · cases h
  | func f =>
    simp only [rd, Option.some.injEq] at h
    subst h
    exact ⟨[], [], rfl, rfl, rfl⟩
theorem rds_ok {P : Program} {ρ : Mp} {tm : Tr AV} {a : Act} (hf : FR E ρ tm a.tmps) (hg : Glob E X P ρ) : ∀ {xs : List Operand} {vs : List AV}, rds P tm xs = some vs → VRs E ρ vs (xs.map a.eval)
  | [], _, h => by simp [rds] at h; subst h; rfl
  | x :: r, vs, h => by
    simp only [rds] at h
    cases h1 : rd P tm x with
    | none => simp [h1] at h
    | some v =>
      cases h2 : rds P tm r with
      | none => simp [h1, h2] at h
      | some us =>
        simp [h1, h2] at h
        subst h
        exact ⟨_, _, rfl, rd_ok hf hg h1, rds_ok hf hg h2⟩

/-- An operation does what the evaluator says. -/
def Good (E : Env) (P : Program) (base : Nat) (ρ : Mp) (s : St) (w : World) (x : Sem Next) : ARes → Prop
  | .val v s' => ∃ u σ w', x.run P w = .ok (.value u) w' ∧ VR E σ v u ∧ HR E base σ s' w' ∧ Turn ρ s w σ s' w'
  | .skip s' => ∃ σ w', x.run P w = .ok .skip w' ∧ HR E base σ s' w' ∧ Turn ρ s w σ s' w'
  | .enter f args s' => s' = s ∧ ∃ vs, x.run P w = .ok (.enter f (List.toArray vs)) w ∧ VRs E ρ args vs

theorem Good.same {P : Program} {base : Nat} {ρ : Mp} {s : St} {w : World} {x : Sem Next} {v : AV} {u : Value} (h : HR E base ρ s w) (hr : x.run P w = .ok (.value u) w) (hv : VR E ρ v u) : Good E P base ρ s w x (.val v s) :=
  ⟨u, ρ, w, hr, hv, h, Turn.refl h⟩

theorem map_arr {α β : Type} (f : α → β) (x : Array α) : (List.map f x.toList).toArray = x.map f := by
  apply Array.ext'
  simp

section
variable {P : Program} {base : Nat} {ρ : Mp} {s : St} {w : World} {tm : Tr AV} {a : Act} {o : Oper} {r : ARes}

theorem good_move (x : Operand) (ho : o.op = .move x ∨ o.op = .assign x) (hf : FR E ρ tm a.tmps) (hg : Glob E X P ρ) (h : HR E base ρ s w) (he : evOp P tm s o = some r) : Good E P base ρ s w (execOp a.eval o) r := by
  have he' : (rd P tm x).map (fun v => ARes.val v s) = some r := by rcases ho with ho | ho <;> simpa [evOp, ho] using he
  obtain ⟨v, h1, rfl⟩ := Option.map_eq_some_iff.1 he'
  refine Good.same h ?_ (rd_ok hf hg h1)
  rcases ho with ho | ho <;> simp [execOp, ho]
theorem good_pick (c x y : Operand) (ho : o.op = .pick c x y) (hf : FR E ρ tm a.tmps) (hg : Glob E X P ρ) (h : HR E base ρ s w) (he : evOp P tm s o = some r) : Good E P base ρ s w (execOp a.eval o) r := by
  simp only [evOp, ho] at he
  split at he
  · rename_i hc
    obtain ⟨v, h1, rfl⟩ := Option.map_eq_some_iff.1 he
    have h2 : a.eval c = .bool true := rd_ok hf hg hc
    exact Good.same h (by simp [execOp, ho, h2, asBool]) (rd_ok hf hg h1)
  · rename_i hc
    obtain ⟨v, h1, rfl⟩ := Option.map_eq_some_iff.1 he
    have h2 : a.eval c = .bool false := rd_ok hf hg hc
    exact Good.same h (by simp [execOp, ho, h2, asBool]) (rd_ok hf hg h1)
  · cases he
theorem good_makeInterface (t : TypeId) (x : Operand) (ho : o.op = .makeInterface t x) (hf : FR E ρ tm a.tmps) (hg : Glob E X P ρ) (h : HR E base ρ s w) (he : evOp P tm s o = some r) : Good E P base ρ s w (execOp a.eval o) r := by
  simp only [evOp, ho] at he
  split at he
  · cases he
  · rename_i d hni hu
    obtain ⟨v, h1, rfl⟩ := Option.map_eq_some_iff.1 he
    refine Good.same h ?_ ⟨_, rfl, rd_ok hf hg h1⟩
    simp only [execOp, ho, Instr.makeInterface]
    cases d <;> first | exact (hni _ rfl).elim | simp [underlying, hu]
  · cases he
theorem good_makeFunc (f : Fn) (x y : Array Operand) (ho : o.op = .makeFunc f x y) (hf : FR E ρ tm a.tmps) (hg : Glob E X P ρ) (h : HR E base ρ s w) (he : evOp P tm s o = some r) : Good E P base ρ s w (execOp a.eval o) r := by
  simp only [evOp, ho] at he
  split at he
  · rename_i us vs h1 h2
    simp only [Option.some.injEq] at he
    subst he
    refine Good.same h (u := .func f (x.map a.eval) (y.map a.eval)) (by simp [execOp, ho, Instr.makeFunc]) ⟨x.toList.map a.eval, y.toList.map a.eval, by rw [map_arr, map_arr], rds_ok hf hg h1, rds_ok hf hg h2⟩
  · cases he
theorem good_extract (t : Operand) (k : Nat) (ho : o.op = .extract t k) (hf : FR E ρ tm a.tmps) (hg : Glob E X P ρ) (h : HR E base ρ s w) (he : evOp P tm s o = some r) : Good E P base ρ s w (execOp a.eval o) r := by
  simp only [evOp, ho] at he
  split at he
  · rename_i vs h1
    obtain ⟨v, h2, rfl⟩ := Option.map_eq_some_iff.1 he
    obtain ⟨xs, h3, h4⟩ := rd_ok hf hg h1
    obtain ⟨u, h5, h6⟩ := h4.get h2
    exact Good.same h (by simp [execOp, ho, h3, Instr.extract, h5]) h6
  · cases he
end
end Go.Proofs.YtjaaajmiojigbaaGreatDoor

/- Operations on memory: addresses, loads, stores, new blocks. -/
namespace Go.Proofs.YtjaaajmiojigbaaGreatDoor
open Go Go.RowKit
variable {E : Env} {X : Ctx}

section
variable {P : Program} {base : Nat} {ρ : Mp} {s : St} {w : World} {tm : Tr AV} {a : Act} {o : Oper} {r : ARes}

theorem fieldOf_ok {t k d} (h : fieldOf P t k = some d) : ∃ fs, P.underlying t = some (.struct fs) ∧ fs[k]? = some d := by
  unfold fieldOf at h
  split at h
  · exact ⟨_, ‹_›, h⟩
  · cases h

theorem szOf_ok {t n} (h : szOf P t = some n) : ∃ i, P.info? t = some i ∧ i.size = n := by
  unfold szOf at h
  cases hi : P.info? t with
  | none => simp [hi] at h
  | some i => simp [hi] at h; exact ⟨i, rfl, h⟩

theorem run_isAgg {t d} (h : P.underlying t = some d) : (isAgg t).run P w = .ok (isAggD d) w := by
  unfold isAgg isAggD
  simp only [underlying]
  cases d <;> simp [h]
theorem run_sizeOf' {t n} (h : szOf P t = some n) : (sizeOf t).run P w = .ok n w := by
  obtain ⟨i, h1, h2⟩ := szOf_ok h
  simp [sizeOf, typeInfo, h1, h2]

theorem good_fieldAddr (t : TypeId) (x : Operand) (k : Nat) (ho : o.op = .fieldAddr t x k) (hf : FR E ρ tm a.tmps) (hg : Glob E X P ρ) (h : HR E base ρ s w) (he : evOp P tm s o = some r) : Good E P base ρ s w (execOp a.eval o) r := by
  simp only [evOp, ho] at he
  split at he
  · rename_i d b q h1 h2
    split at he
    · rename_i n hn
      simp only [Option.some.injEq] at he
      subst he
      obtain ⟨fs, h3, h4⟩ := fieldOf_ok h1
      obtain ⟨l, h5, h6⟩ := rd_ok hf hg h2
      refine Good.same h (u := .pointer (some ⟨l.g, l.d + (q + d.offset), none⟩)) ?_ ⟨l, h5, rfl⟩
      simp [execOp, ho, Instr.fieldAt, underlying, h3, h4, h6, Instr.sureAddr, fieldPlace, run_sizeOf' hn, Addr.add_lit, Nat.add_assoc]
    · cases he
  · cases he

/-- A part of a value. -/
theorem run_partA {t : TypeId} {cs : List AV} {xs : List Value} {q : Nat} {v : AV} (hx : VRs E ρ cs xs) (h : partA P t cs q = some v) : ∃ u, (part t (List.toArray xs) q).run P w = .ok u w ∧ VR E ρ v u := by
  unfold partA at h
  split at h
  · rename_i d n h1 h2
    split at h
    · rename_i hd
      split at h
      · rename_i hle
        simp only [Option.some.injEq] at h
        subst h
        refine ⟨.agg (List.toArray ((xs.drop q).take n)), ?_, ⟨_, rfl, (hx.drop q).take n⟩⟩
        have h3 : (part t (List.toArray xs) q).run P w = .ok (.agg ((List.toArray xs).extract q (q + n))) w := by
          unfold part
          simp [run_isAgg h1, hd, run_sizeOf' h2]
        rw [h3]
        congr 2
        apply Array.ext'
        simp [List.take_drop]
      · cases h
    · rename_i hd
      obtain ⟨u, h3, h4⟩ := hx.get h
      refine ⟨u, ?_, h4⟩
      unfold part
      simp [run_isAgg h1, hd, h3]
  · cases h

theorem good_field (t : TypeId) (x : Operand) (k : Nat) (ho : o.op = .field t x k) (hf : FR E ρ tm a.tmps) (hg : Glob E X P ρ) (h : HR E base ρ s w) (he : evOp P tm s o = some r) : Good E P base ρ s w (execOp a.eval o) r := by
  simp only [evOp, ho] at he
  split at he
  · rename_i d cs h1 h2
    obtain ⟨v, h3, rfl⟩ := Option.map_eq_some_iff.1 he
    obtain ⟨fs, h4, h5⟩ := fieldOf_ok h1
    obtain ⟨xs, h6, h7⟩ := rd_ok hf hg h2
    obtain ⟨u, h8, h9⟩ := run_partA (P := P) (w := w) h7 h3
    refine Good.same h ?_ h9
    simp [execOp, ho, Instr.field, underlying, h4, h5, h6, asAgg, h8]
  · cases he

/-- A load. -/
theorem run_loadVarA {t : TypeId} {p v : AV} {u : Value} (h : HR E base ρ s w) (hp : VR E ρ p u) (hl : s.loadVar P t p = some v) : ∃ ad x, u = .pointer (some ad) ∧ (loadVar t ad).run P w = .ok x w ∧ VR E ρ v x := by
  unfold St.loadVar at hl
  split at hl
  · rename_i b q
    obtain ⟨l, h1, h2⟩ := hp
    subst h2
    split at hl
    · rename_i d n h3 h4
      split at hl
      · rename_i hd
        obtain ⟨cs, h5, rfl⟩ := Option.map_eq_some_iff.1 hl
        obtain ⟨xs, h6, h7, h8⟩ := h.load h1 h5
        refine ⟨_, .agg (List.toArray xs), rfl, ?_, ⟨xs, rfl, h6⟩⟩
        have h9 := run_loadCells_list (P := P) w ⟨l.g, l.d + q, none⟩ xs (fun j v hv => by rw [Addr.add_lit]; exact h8 j v hv)
        rw [h7] at h9
        unfold loadVar
        simp [run_isAgg h3, hd, run_sizeOf' h4, h9]
      · rename_i hd
        split at hl
        · rename_i v' h5
          simp only [Option.some.injEq] at hl
          subst hl
          obtain ⟨xs, h6, h7, h8⟩ := h.load h1 h5
          obtain ⟨x, ys, rfl, h9, h10⟩ := h6
          refine ⟨_, x, rfl, ?_, h9⟩
          have h11 := h8 0 x rfl
          rw [Nat.add_zero] at h11
          unfold loadVar
          simp [run_isAgg h3, hd, load, Sem.run, h11]
        · cases hl
    · cases hl
  · cases hl

theorem good_load (t : TypeId) (x : Operand) (ho : o.op = .load t x) (hf : FR E ρ tm a.tmps) (hg : Glob E X P ρ) (h : HR E base ρ s w) (he : evOp P tm s o = some r) : Good E P base ρ s w (execOp a.eval o) r := by
  simp only [evOp, ho] at he
  split at he
  · rename_i p h1
    obtain ⟨v, h2, rfl⟩ := Option.map_eq_some_iff.1 he
    obtain ⟨ad, u, h3, h4, h5⟩ := run_loadVarA h (rd_ok hf hg h1) h2
    refine Good.same h ?_ h5
    simp [execOp, ho, Instr.loadAt, h3, Instr.sureAddr, h4]
  · cases he
end
end Go.Proofs.YtjaaajmiojigbaaGreatDoor

/- Operations on memory: stores and new blocks. -/
namespace Go.Proofs.YtjaaajmiojigbaaGreatDoor
open Go Go.RowKit
variable {E : Env} {X : Ctx}

theorem writeN_get {x : AV} : ∀ {cs : List AV} {vs : Tr AV} {o j : Nat}, (writeN vs o cs).get j = some x → (o ≤ j ∧ cs[j - o]? = some x) ∨ ((j < o ∨ o + cs.length ≤ j) ∧ vs.get j = some x)
  | [], vs, o, j, h => by
    refine .inr ⟨?_, h⟩
    simp only [List.length_nil, Nat.add_zero]
    omega
  | c :: r, vs, o, j, h => by
    simp only [writeN] at h
    rcases writeN_get (cs := r) h with ⟨h1, h2⟩ | ⟨h1, h2⟩
    · refine .inl ⟨by omega, ?_⟩
      have : j - o = (j - (o + 1)) + 1 := by omega
      rw [this, List.getElem?_cons_succ]
      exact h2
    · rcases Tr.get_set h2 with ⟨rfl, rfl⟩ | ⟨h3, h4⟩
      · exact .inl ⟨Nat.le_refl _, by simp⟩
      · refine .inr ⟨?_, h4⟩
        simp only [List.length_cons]
        omega

theorem VR.cells {ρ : Mp} {v : AV} {u : Value} (h : VR E ρ v u) : VRs E ρ v.cells u.cells.toList := by
  cases v with
  | agg cs => obtain ⟨xs, rfl, h2⟩ := h; simpa [AV.cells, Value.cells] using h2
  | tuple cs => obtain ⟨xs, rfl, h2⟩ := h; exact ⟨_, [], rfl, ⟨xs, rfl, h2⟩, rfl⟩
  | bool b => rw [show u = _ from h]; exact ⟨_, [], rfl, rfl, rfl⟩
  | int k n => rw [show u = _ from h]; exact ⟨_, [], rfl, rfl, rfl⟩
  | str l => obtain ⟨rfl, h2⟩ := h; exact ⟨_, [], rfl, ⟨rfl, h2⟩, rfl⟩
  | nilPtr => rw [show u = _ from h]; exact ⟨_, [], rfl, rfl, rfl⟩
  | ptr b o => obtain ⟨c, h1, rfl⟩ := h; exact ⟨_, [], rfl, ⟨c, h1, rfl⟩, rfl⟩
  | nilSlice => rw [show u = _ from h]; exact ⟨_, [], rfl, rfl, rfl⟩
  | emptyS => obtain ⟨x, c, rfl⟩ := h; exact ⟨_, [], rfl, ⟨x, c, rfl⟩, rfl⟩
  | zeroS => obtain ⟨x, rfl⟩ := h; exact ⟨_, [], rfl, ⟨x, rfl⟩, rfl⟩
  | slice b o n c z => obtain ⟨l, cap, h1, rfl, h2⟩ := h; exact ⟨_, [], rfl, ⟨l, cap, h1, rfl, h2⟩, rfl⟩
  | nilMap => rw [show u = _ from h]; exact ⟨_, [], rfl, rfl, rfl⟩
  | map b => obtain ⟨c, h1, rfl⟩ := h; exact ⟨_, [], rfl, ⟨c, h1, rfl⟩, rfl⟩
  | fn f x y => obtain ⟨xs, ys, rfl, h2⟩ := h; exact ⟨_, [], rfl, ⟨xs, ys, rfl, h2⟩, rfl⟩
  | nilFn => rw [show u = _ from h]; exact ⟨_, [], rfl, rfl, rfl⟩
  | iface t x => obtain ⟨y, rfl, h2⟩ := h; exact ⟨_, [], rfl, ⟨y, rfl, h2⟩, rfl⟩
  | nilIface => rw [show u = _ from h]; exact ⟨_, [], rfl, rfl, rfl⟩
  | yieldF => obtain ⟨l, rfl⟩ := h; exact ⟨_, [], rfl, ⟨l, rfl⟩, rfl⟩
  | sx e =>
    obtain ⟨d, h1, h2⟩ := h
    have : u.cells.toList = [u] := by rcases h2.form with ⟨k, n, rfl⟩ | ⟨b, rfl⟩ | ⟨l, rfl⟩ | ⟨a, n, c, rfl⟩ <;> rfl
    rw [this]
    exact ⟨_, [], rfl, ⟨d, h1, h2⟩, rfl⟩
  | gsl b e z => obtain ⟨l, cap, rows, h1, h2, rfl, h3⟩ := h; exact ⟨_, [], rfl, ⟨l, cap, rows, h1, h2, rfl, h3⟩, rfl⟩
  | fp a i j => obtain ⟨rows, k, n, row, arr, T, fr, g, q, h1, h2, h3, h4, rfl, h5⟩ := h; exact ⟨_, [], rfl, ⟨rows, k, n, row, arr, T, fr, g, q, h1, h2, h3, h4, rfl, h5⟩, rfl⟩
theorem VR.one {ρ : Mp} {v : AV} {u : Value} (h : VR E ρ v u) (h1 : v.one = true) : u.oneCell' = true := by
  cases v with
  | agg cs => cases h1
  | tuple cs => cases h1
  | str l => obtain ⟨rfl, _⟩ := h; rfl
  | ptr b o => obtain ⟨c, _, rfl⟩ := h; rfl
  | emptyS => obtain ⟨x, c, rfl⟩ := h; rfl
  | zeroS => obtain ⟨x, rfl⟩ := h; rfl
  | slice b o n c z => obtain ⟨l, cap, _, rfl, _⟩ := h; rfl
  | map b => obtain ⟨c, _, rfl⟩ := h; rfl
  | fn f x y => obtain ⟨xs, ys, rfl, _⟩ := h; rfl
  | iface t x => obtain ⟨y, rfl, _⟩ := h; rfl
  | yieldF => obtain ⟨l, rfl⟩ := h; rfl
  | sx e => obtain ⟨d, _, h2⟩ := h; rcases h2.form with ⟨k, n, rfl⟩ | ⟨b, rfl⟩ | ⟨l, rfl⟩ | ⟨a, n, c, rfl⟩ <;> rfl
  | gsl b e z => obtain ⟨l, cap, rows, _, _, rfl, _⟩ := h; rfl
  | fp a i j => obtain ⟨rows, k, n, row, arr, T, fr, g, q, _, _, _, _, rfl, _⟩ := h; rfl
  | _ => rw [show u = _ from h]; rfl
theorem VRs.one {ρ : Mp} : ∀ {as : List AV} {vs : List Value}, VRs E ρ as vs → as.all AV.one = true → ∀ u ∈ vs, u.oneCell' = true
  | [], _, h, _, u, hu => by rw [show _ = [] from h] at hu; cases hu
  | a :: as, _, ⟨x, xs, h1, h2, h3⟩, ha, u, hu => by
    simp only [List.all_cons, Bool.and_eq_true] at ha
    rw [h1] at hu
    rcases List.mem_cons.1 hu with rfl | hu
    · exact h2.one ha.1
    · exact h3.one ha.2 u hu

section
variable {P : Program} {base : Nat} {ρ : Mp} {s s' : St} {w : World} {tm : Tr AV} {a : Act} {o : Oper} {r : ARes}

/-- Cells are stored. -/
theorem HR.store (h : HR E base ρ s w) {b q : Nat} {cs : List AV} {xs : List Value} {l : Loc} (hl : ρ b = some l) (hx : VRs E ρ cs xs) (hs : s.store b q cs = some s') :
    ∃ w', (storeCells ⟨l.g, l.d + q, none⟩ xs).run P w = .ok () w' ∧ HR E base ρ s' w' ∧ Turn ρ s w ρ s' w' := by
  unfold St.store at hs
  split at hs
  · rename_i vs n hb
    split at hs
    · rename_i hc
      obtain ⟨hle, hone⟩ := hc
      simp only [Option.some.injEq] at hs
      subst hs
      obtain ⟨arr, e, fr, h1, h2, h3, h4, h5⟩ := h.at hb hl
      obtain ⟨hbase, rfl⟩ := h5 rfl
      have h2 := h2 rfl
      have hlen := hx.length
      have hrun := run_storeCells_at (P := P) l.g (l.d + q) e xs 0 arr w h1 (by omega) (hx.one hone)
      rw [Nat.add_zero] at hrun
      refine ⟨_, hrun, h.turn hb hl rfl ⟨rfl, rfl, rfl⟩ (by simp [World.setRow]) (fun g hg => setRow_other w l.g g _ hg) ⟨_, e, (0, 0), setRow_heap w l.g arr _ e _ h1, ?_, h3, fun j x hj => ?_, fun _ => ⟨hbase, rfl⟩⟩⟩
      · simp; omega
      · rcases writeN_get hj with ⟨h6, h7⟩ | ⟨h6, h7⟩
        · obtain ⟨v, h8, h9⟩ := hx.get h7
          have hlt : j - q < xs.length := (List.getElem?_eq_some_iff.1 h8).1
          refine ⟨by omega, v, ?_, h9⟩
          rw [List.getElem?_toArray, List.append_assoc, List.getElem?_append_right (by simp; omega), List.getElem?_append_left (by simp; omega)]
          simp only [List.length_take, Array.length_toList]
          rw [show l.d + j - min (l.d + q) arr.size = j - q by omega]
          exact h8
        · obtain ⟨h8, v, h9, h10⟩ := h4 j x h7
          refine ⟨h8, v, ?_, h10⟩
          rw [List.getElem?_toArray]
          rcases h6 with h6 | h6
          · rw [List.append_assoc, List.getElem?_append_left (by simp; omega), List.getElem?_take_of_lt (by omega)]
            simpa using h9
          · rw [List.getElem?_append_right (by simp; omega), List.getElem?_drop]
            simp only [List.length_append, List.length_take, Array.length_toList]
            rw [show l.d + q + xs.length + (l.d + j - (min (l.d + q) arr.size + xs.length)) = l.d + j by omega]
            simpa using h9
    · cases hs
  · cases hs

theorem good_store (t : TypeId) (x y : Operand) (ho : o.op = .store t x y) (hf : FR E ρ tm a.tmps) (hg : Glob E X P ρ) (h : HR E base ρ s w) (he : evOp P tm s o = some r) : Good E P base ρ s w (execOp a.eval o) r := by
  simp only [evOp, ho] at he
  split at he
  · rename_i p v h1 h2
    obtain ⟨s', h3, rfl⟩ := Option.map_eq_some_iff.1 he
    unfold St.storeVar at h3
    split at h3
    · rename_i b q
      obtain ⟨l, h4, h5⟩ := rd_ok hf hg h1
      split at h3
      · rename_i n hn
        split at h3
        · rename_i hlen
          have hc := (rd_ok hf hg h2).cells
          obtain ⟨w', h6, h7, h8⟩ := h.store (P := P) h4 hc h3
          refine ⟨ρ, w', ?_, h7, h8⟩
          have hsz : (a.eval y).cells.size = n := by rw [← hlen, ← hc.length]; simp
          simp only [execOp, ho, Instr.storeAt, h5, Instr.sureAddr, storeVar]
          simp [run_sizeOf' hn, hsz, h6]
        · cases h3
      · cases h3
    · cases h3
  · cases he

/-- New cells. -/
theorem HR.cells (h : HR E base ρ s w) {cs : List AV} {arr : Array Value} (e : TypeId) (w' : World) (ha : Alike w w') (hw : w'.heap = w.heap.push (.cells arr e (0, 0))) (hx : VRs E ρ cs (arr.toList.take cs.length)) :
    HR E base (ρ.on s.nx ⟨w.heap.size, 0, arr.size⟩) (s.cells cs) w' ∧ Turn ρ s w (ρ.on s.nx ⟨w.heap.size, 0, arr.size⟩) (s.cells cs) w' := by
  have hlen := hx.length
  have hal : arr.toList.length = arr.size := Array.length_toList
  rw [List.length_take, hal] at hlen
  have hx' := hx.mono (Mp.on_ext (l := ⟨w.heap.size, 0, arr.size⟩) (h.fresh.1))
  refine h.new _ arr.size ha (by simp [hw]) (fun g hg => by rw [hw, Array.getElem?_push, if_neg (by omega)]) ⟨arr, e, (0, 0), by rw [hw]; simp, by simp, by show cs.length ≤ arr.size; omega, fun j x hj => ?_, fun _ => ⟨h.base, rfl⟩⟩
  rcases writeN_get hj with ⟨_, h2⟩ | ⟨_, h2⟩
  · rw [Nat.sub_zero] at h2
    obtain ⟨v, h3, h4⟩ := hx'.get h2
    refine ⟨(List.getElem?_eq_some_iff.1 h2).1, v, ?_, h4⟩
    rw [List.getElem?_take_of_lt (List.getElem?_eq_some_iff.1 h2).1] at h3
    simpa using h3
  · cases h2
end
end Go.Proofs.YtjaaajmiojigbaaGreatDoor

/- Operations on memory: zero values, values that are built, new variables. -/
namespace Go.Proofs.YtjaaajmiojigbaaGreatDoor
open Go Go.RowKit
variable {E : Env} {X : Ctx}

theorem mapM_ofVal {ρ : Mp} : ∀ {xs : List Value} {cs : List AV}, xs.mapM ofVal = some cs → VRs E ρ cs xs
  | [], cs, h => by simp at h; subst h; rfl
  | x :: r, cs, h => by
    simp only [List.mapM_cons, Option.bind_eq_bind, Option.pure_def] at h
    cases h1 : ofVal x with
    | none => simp [h1] at h
    | some v =>
      cases h2 : r.mapM ofVal with
      | none => simp [h1, h2] at h
      | some vs => simp [h1, h2] at h; subst h; exact ⟨x, r, rfl, ofVal_ok h1, mapM_ofVal h2⟩

theorem zeroA_ok {P : Program} {ρ : Mp} {t : TypeId} {cs : List AV} (h : zeroA P t = some cs) : ∃ i z, P.info? t = some i ∧ i.zero = some z ∧ VRs E ρ cs z.cells.toList := by
  unfold zeroA at h
  split at h
  · split at h
    · exact ⟨_, _, ‹_›, ‹_›, mapM_ofVal h⟩
    · cases h
  · cases h

theorem foldl_set (off : Nat) : ∀ (l : List Value) (k : Nat) (cells : Array Value), off + k + l.length ≤ cells.size →
    ((l.zipIdx k).foldl (fun (cs : Array Value) (x : Value × Nat) => cs.setIfInBounds (off + x.2) x.1) cells).toList = cells.toList.take (off + k) ++ l ++ cells.toList.drop (off + k + l.length)
  | [], k, cells, _ => by simp
  | v :: r, k, cells, h => by
    simp only [List.zipIdx_cons, List.foldl_cons, List.length_cons] at h ⊢
    rw [foldl_set off r (k + 1) _ (by simp; omega)]
    have hlt : off + k < cells.toList.length := by simp; omega
    simp only [Array.toList_setIfInBounds]
    rw [show off + (k + 1) = off + k + 1 by omega, List.take_succ_eq_append_getElem (by simpa using hlt), List.take_set_of_le (Nat.le_refl _), List.drop_set_of_lt (by omega)]
    simp [List.append_assoc, Nat.add_assoc, Nat.add_comm 1]

theorem fill_ok {ρ : Mp} {place : Nat → Option (Nat × Nat)} : ∀ {ks : List Nat} {vs : List AV} {us : List Value} {cs cs' : List AV} {arr : Array Value}, VRs E ρ vs us → VRs E ρ cs arr.toList → fillA place cs (ks.zip vs) = some cs' →
    ∃ arr', Instr.fill place arr (ks.zip us) = some arr' ∧ VRs E ρ cs' arr'.toList
  | [], vs, us, cs, cs', arr, _, hc, h => by simp [fillA] at h; subst h; exact ⟨arr, by simp [Instr.fill], hc⟩
  | k :: ks, [], us, cs, cs', arr, hv, hc, h => by
    rw [show us = [] from hv]
    simp [fillA] at h; subst h; exact ⟨arr, by simp [Instr.fill], hc⟩
  | k :: ks, v :: vs, us, cs, cs', arr, hv, hc, h => by
    obtain ⟨u, us', rfl, h1, h2⟩ := hv
    simp only [List.zip_cons_cons, fillA] at h
    cases hp : place k with
    | none => simp [hp] at h
    | some x =>
      obtain ⟨q, n⟩ := x
      simp only [hp] at h
      split at h
      · rename_i hn
        have hcells := h1.cells
        have hlen := hcells.length
        have hlc := hc.length
        unfold over at h
        by_cases hle : q + v.cells.length ≤ cs.length
        · rw [if_pos hle] at h
          have hsz : u.cells.size = n := by rw [← hn, ← hlen]; simp
          have hqs : q + u.cells.size ≤ arr.size := by
            have : arr.toList.length = arr.size := Array.length_toList
            omega
          have hf := foldl_set q u.cells.toList 0 arr (by simpa using hqs)
          obtain ⟨arr', h3, h4⟩ := fill_ok (ks := ks) (arr := (u.cells.toList.zipIdx.foldl (fun (cs : Array Value) (x : Value × Nat) => cs.setIfInBounds (q + x.2) x.1) arr)) h2 (by
            rw [hf, Nat.add_zero, hlen]
            exact ((hc.take q).append hcells).append (hc.drop _)) h
          refine ⟨arr', ?_, h4⟩
          simp only [List.zip_cons_cons, Instr.fill, hp]
          rw [if_neg (by simp; omega), ← h3]
          congr 1
          rw [← Array.foldl_toList]
          simp
        · rw [if_neg hle] at h; cases h
      · cases h

section
variable {P : Program} {base : Nat} {ρ : Mp} {s s' : St} {w : World} {tm : Tr AV} {a : Act} {o : Oper} {r : ARes}

theorem good_alloc (e : TypeId) (ho : o.op = .alloc e) (h : HR E base ρ s w) (he : evOp P tm s o = some r) : Good E P base ρ s w (execOp a.eval o) r := by
  simp only [evOp, ho] at he
  split at he
  · rename_i cs hz
    simp only [Option.some.injEq] at he
    subst he
    obtain ⟨i, z, h1, h2, h3⟩ := zeroA_ok (E := E) (ρ := ρ) hz
    have hn := h.cells (cs := cs) (arr := z.cells) e (w.alloc (.cells z.cells e)) ⟨rfl, rfl, rfl⟩ rfl (by rw [← h3.length, List.take_length]; exact h3)
    refine ⟨.pointer (some ⟨w.heap.size, 0, none⟩), _, _, ?_, ⟨_, Mp.on_same _ _ _, rfl⟩, hn.1, hn.2⟩
    simp [execOp, ho, Instr.alloc, zeroValue, typeInfo, h1, h2, newVar, newRow, newObj, Sem.run]
  · cases he
theorem good_box (e : TypeId) (x : Operand) (ho : o.op = .box e x) (hf : FR E ρ tm a.tmps) (hg : Glob E X P ρ) (h : HR E base ρ s w) (he : evOp P tm s o = some r) : Good E P base ρ s w (execOp a.eval o) r := by
  simp only [evOp, ho] at he
  obtain ⟨v, h1, rfl⟩ := Option.map_eq_some_iff.1 he
  have h3 := (rd_ok hf hg h1).cells
  have hn := h.cells (cs := v.cells) (arr := (a.eval x).cells) e (w.alloc (.cells (a.eval x).cells e)) ⟨rfl, rfl, rfl⟩ rfl (by rw [← h3.length, List.take_length]; exact h3)
  refine ⟨.pointer (some ⟨w.heap.size, 0, none⟩), _, _, ?_, ⟨_, Mp.on_same _ _ _, rfl⟩, hn.1, hn.2⟩
  simp [execOp, ho, Instr.box, newVar, newRow, newObj, Sem.run]

theorem zip_parts (a : Act) : ∀ (l : List (Nat × Operand)), (l.map fun (i, x) => (i, a.eval x)) = (l.map (·.1)).zip ((l.map (·.2)).map a.eval)
  | [] => rfl
  | x :: r => by simp [zip_parts a r]

theorem good_build (t : TypeId) (parts : Array (Nat × Operand)) (ho : o.op = .build t parts) (hf : FR E ρ tm a.tmps) (hg : Glob E X P ρ) (h : HR E base ρ s w) (he : evOp P tm s o = some r) : Good E P base ρ s w (execOp a.eval o) r := by
  simp only [evOp, ho] at he
  split at he
  · rename_i cs place vs h1 h2 h3
    obtain ⟨cs', h4, rfl⟩ := Option.map_eq_some_iff.1 he
    obtain ⟨i, z, h5, h6, h7⟩ := zeroA_ok (E := E) (ρ := ρ) h1
    obtain ⟨arr, h8, h9⟩ := fill_ok (rds_ok hf hg h3) h7 h4
    have hb : P.built t ((parts.map fun (i, x) => (i, a.eval x)).toList) = some arr := by
      rw [Array.toList_map, zip_parts, ← h8]
      unfold placeA at h2
      unfold Program.built
      rw [h5]
      cases hu : P.underlying t with
      | none => simp [hu] at h2
      | some d =>
        cases d <;> simp only [hu] at h2 <;> try (cases h2; done)
        case array n e =>
          cases hi : P.info? e with
          | none => simp [hi] at h2
          | some ie => simp only [hi, Option.some.injEq] at h2; subst h2; simp [h6, hi]
        case struct fs =>
          cases hp : fs.toList.mapM (fun f => (P.info? f.type).map fun i => (f.offset, i.size)) with
          | none => simp [hp] at h2
          | some ps => simp only [hp, Option.some.injEq] at h2; subst h2; simp [h6, hp]
    refine Good.same h (u := .agg arr) ?_ ⟨arr.toList, by simp, h9⟩
    simp only [execOp, ho]
    have := run_build w t _ arr hb
    simp [this]
  · cases he
end
end Go.Proofs.YtjaaajmiojigbaaGreatDoor

/- Operations on memory: slices that are made. -/
namespace Go.Proofs.YtjaaajmiojigbaaGreatDoor
open Go Go.RowKit
variable {E : Env} {X : Ctx}

theorem rows_flat (zero : Array Value) (n : Nat) (hn : zero.size = n) : ∀ len, (((Array.range (len * n)).map fun i => zero[i % n]!).toList) = List.flatten (List.replicate len zero.toList)
  | 0 => by simp
  | len + 1 => by
    have ih := rows_flat zero n hn len
    rw [List.replicate_succ', List.flatten_append, ← ih]
    simp only [Array.toList_map, Array.toList_range, List.flatten_cons, List.flatten_nil, List.append_nil]
    rw [Nat.succ_mul, List.range_add, List.map_append, List.map_map]
    congr 1
    apply List.ext_getElem?
    intro i
    by_cases hi : i < n
    · have hi' : i < zero.size := by omega
      rw [List.getElem?_map, List.getElem?_range hi]
      simp [Function.comp, Nat.mod_eq_of_lt hi, hi', Nat.add_mod, Nat.mul_mod_left]
    · rw [List.getElem?_eq_none (by simp; omega), List.getElem?_eq_none (by simp; omega)]

theorem VRs.flat {ρ : Mp} {z : List AV} {xs : List Value} (h : VRs E ρ z xs) : ∀ n, VRs E ρ (List.flatten (List.replicate n z)) (List.flatten (List.replicate n xs))
  | 0 => by simp [VRs]
  | n + 1 => by simp only [List.replicate_succ, List.flatten_cons]; exact h.append (h.flat n)

theorem elemSl_ok {P : Program} {t e : TypeId} (h : elemSl P t = some e) : P.underlying t = some (.slice e) := by
  unfold elemSl at h
  split at h
  · simp only [Option.some.injEq] at h; subst h; assumption
  · cases h

section
variable {P : Program} {base : Nat} {ρ : Mp} {s s' : St} {w : World} {tm : Tr AV} {a : Act} {o : Oper} {r : ARes}

theorem good_buildSlice (t : TypeId) (len : Nat) (parts : Array (Nat × Operand)) (ho : o.op = .buildSlice t len parts) (hf : FR E ρ tm a.tmps) (hg : Glob E X P ρ) (h : HR E base ρ s w) (he : evOp P tm s o = some r) : Good E P base ρ s w (execOp a.eval o) r := by
  simp only [evOp, ho] at he
  split at he
  · cases he
  · rename_i e h0
    have hu := elemSl_ok h0
    split at he
    · rename_i z n vs h1 h2 h3
      split at he
      · rename_i hc
        obtain ⟨hzl, hle, hll⟩ := hc
        split at he
        · rename_i cs h4
          simp only [Option.some.injEq] at he
          subst he
          obtain ⟨i, zv, h5, h6, h7⟩ := zeroA_ok (E := E) (ρ := ρ) h1
          obtain ⟨i', h8, h9⟩ := szOf_ok h2
          obtain rfl := Option.some.inj (h5.symm.trans h8)
          have hzs : zv.cells.size = n := by rw [← hzl, ← h7.length]; simp
          have hrow : VRs E ρ (List.flatten (List.replicate len z)) (((Array.range (len * n)).map fun i => zv.cells[i % n]!).toList) := by
            rw [rows_flat zv.cells n hzs len]; exact h7.flat len
          obtain ⟨arr, h10, h11⟩ := fill_ok (rds_ok hf hg h3) hrow h4
          have hlen : cs.length = arr.size := by rw [← h11.length]; simp
          have hn := h.cells (cs := cs) (arr := arr) e (w.alloc (.cells arr e)) ⟨rfl, rfl, rfl⟩ rfl (by rw [← h11.length, List.take_length]; exact h11)
          have hsz : arr.size = len * n := by
            have hfs : ∀ (place : Nat → Option (Nat × Nat)) (l : List (Nat × Value)) (c c' : Array Value), Instr.fill place c l = some c' → c'.size = c.size := by
              intro place l
              induction l with
              | nil => intro c c' hh; simp [Instr.fill] at hh; rw [hh]
              | cons x l ih =>
                intro c c' hh
                obtain ⟨k, v⟩ := x
                simp only [Instr.fill] at hh
                cases hp : place k with
                | none => simp [hp] at hh
                | some q =>
                  obtain ⟨q1, q2⟩ := q
                  simp only [hp] at hh
                  split at hh
                  · cases hh
                  · rename_i hcond
                    rw [ih _ _ hh]
                    have hqs : q1 + v.cells.size ≤ c.size := by simp at hcond; omega
                    have := congrArg List.length (foldl_set q1 v.cells.toList 0 c (by simpa using hqs))
                    rw [← Array.foldl_toList]
                    simp only [Array.toList_zipIdx]
                    rw [← Array.length_toList, this]
                    simp
                    omega
            rw [hfs _ _ _ _ h10]; simp
          refine ⟨.slice (some ⟨w.heap.size, 0, none⟩) len len, _, _, ?_, ⟨_, len, Mp.on_same _ _ _, rfl, Nat.le_refl _, Nat.le_refl _, by unfold maxLen; omega, by rw [hsz]; simp⟩, hn.1, hn.2⟩
          have hbig : ¬ 16777216 < len * n := by omega
          have hparts : (parts.toList.map fun x => (x.1, a.eval x.2)) = (parts.toList.map (·.1)).zip ((parts.toList.map (·.2)).map a.eval) := zip_parts a parts.toList
          simp only [execOp, ho, Instr.buildSlice]
          by_cases h0 : len * n = 0
          · have hr0 : ((Array.range (len * n)).map fun i => zv.cells[i % n]!) = #[] := by rw [h0]; simp
            have hr1 : (Array.map (fun x => (default : Value)) (Array.range 0)) = #[] := by simp
            rw [hr0, ← hparts] at h10
            simp [underlying, hu, run_sizeOf' h2, h0, hr1, h10, newRow, newObj, Sem.run]
          · rw [← hparts] at h10
            simp [underlying, hu, run_sizeOf' h2, h0, hbig, zeroValue, typeInfo, h5, h6, hzs, h10, newRow, newObj, Sem.run]
        · cases he
      · cases he
    · cases he
end
end Go.Proofs.YtjaaajmiojigbaaGreatDoor

/- Operations: slices and maps that are made, strings that are ranged over. -/
namespace Go.Proofs.YtjaaajmiojigbaaGreatDoor
open Go Go.RowKit
variable {E : Env} {X : Ctx}

section
variable {P : Program} {base : Nat} {ρ : Mp} {s s' : St} {w : World} {tm : Tr AV} {a : Act} {o : Oper} {r : ARes}

theorem good_makeSlice (t : TypeId) (l c : Operand) (ho : o.op = .makeSlice t l c) (hf : FR E ρ tm a.tmps) (hg : Glob E X P ρ) (h : HR E base ρ s w) (he : evOp P tm s o = some r) : Good E P base ρ s w (execOp a.eval o) r := by
  simp only [evOp, ho] at he
  split at he
  · rename_i e k1 n k2 k h0 h1 h2
    have hu := elemSl_ok h0
    split at he
    · rename_i z i h3 h4
      split at he
      · rename_i hc
        obtain ⟨hnk, hki, hk, hzl, hb⟩ := hc
        simp only [Option.some.injEq] at he
        subst he
        obtain ⟨i', zv, h5, h6, h7⟩ := zeroA_ok (E := E) (ρ := ρ) h3
        obtain rfl := Option.some.inj (h4.symm.trans h5)
        have hl : a.eval l = .int k1 (n : Int) := rd_ok hf hg h1
        have hcv : a.eval c = .int k2 (k : Int) := rd_ok hf hg h2
        have hzs : zv.cells.size = i.size := by rw [← hzl, ← h7.length]; simp
        have hb' : (i.bytes : Int) * (k : Int) ≤ 281474976710656 := by
          have h : ((i.bytes * k : Nat) : Int) ≤ 281474976710656 := by omega
          rwa [Int.natCast_mul] at h
        have hrun := run_make (P := P) w t e i zv hu h4 h6 k1 k2 n k (by omega) (by omega) hb' (by omega)
        simp only [Int.toNat_natCast] at hrun
        have hmade : madeCells zv.cells (k * i.size) = (Array.range (k * i.size)).map fun j => zv.cells[j % i.size]! := by unfold madeCells; rw [hzs]
        have hrow : VRs E ρ (List.flatten (List.replicate k z)) (madeCells zv.cells (k * i.size)).toList := by
          rw [hmade, rows_flat zv.cells i.size hzs k]; exact h7.flat k
        have hsz : (madeCells zv.cells (k * i.size)).size = k * i.size := size_madeCells _ _
        have hn := h.cells (cs := List.flatten (List.replicate k z)) (arr := madeCells zv.cells (k * i.size)) e (w.alloc (.cells (madeCells zv.cells (k * i.size)) e)) ⟨rfl, rfl, rfl⟩ rfl (by rw [← hrow.length, List.take_length]; exact hrow)
        refine ⟨_, _, _, ?_, ⟨_, k, Mp.on_same _ _ _, rfl, hnk, Nat.le_refl _, by unfold maxLen; omega, by rw [hsz]; simp⟩, hn.1, hn.2⟩
        simp [execOp, ho, hl, hcv, hrun]
      · cases he
    · cases he
  · cases he

theorem good_makeMap (t : TypeId) (x : Option Operand) (ho : o.op = .makeMap t x) (hf : FR E ρ tm a.tmps) (hg : Glob E X P ρ) (h : HR E base ρ s w) (he : evOp P tm s o = some r) : Good E P base ρ s w (execOp a.eval o) r := by
  have hx : (x = none ∨ ∃ y, x = some y ∧ (∃ k n, a.eval y = .int k n) ∧ ∃ k e, P.underlying t = some (.map k e)) ∧ r = .val (.map s.nx) (s.new (.map [])) := by
    simp only [evOp, ho] at he
    split at he
    · simp only [Option.some.injEq] at he
      exact ⟨.inl rfl, he.symm⟩
    · split at he
      · rename_i y k n k' e' h1 h2
        simp only [Option.some.injEq] at he
        exact ⟨.inr ⟨_, rfl, ⟨_, _, rd_ok hf hg h1⟩, _, _, h2⟩, he.symm⟩
      · cases he
  obtain ⟨hx, rfl⟩ := hx
  have hn := h.pushed (.map []) 0 (.map #[] 0) (w' := w.alloc (.map #[] 0)) ⟨rfl, rfl, rfl⟩ rfl fun hq => ⟨h.base, #[], 0, hq, rfl⟩
  refine ⟨.map (some w.heap.size), _, _, ?_, ⟨_, Mp.on_same _ _ _, rfl⟩, hn.1, hn.2⟩
  rcases hx with rfl | ⟨y, rfl, ⟨k, n, hy⟩, k', e', hu⟩
  · simp [execOp, ho, Instr.makeMap, newObj, Sem.run]
  · simp [execOp, ho, Instr.makeMap, newObj, Sem.run, hy, underlying, hu, asInt, asIntOf]

theorem good_range (t : TypeId) (x : Operand) (ho : o.op = .range t x) (hf : FR E ρ tm a.tmps) (hg : Glob E X P ρ) (h : HR E base ρ s w) (he : evOp P tm s o = some r) : Good E P base ρ s w (execOp a.eval o) r := by
  simp only [evOp, ho] at he
  split at he
  · rename_i l ht h1
    simp only [Option.some.injEq] at he
    subst he
    obtain ⟨hv, hlt⟩ := rd_ok hf hg h1
    have hn := h.pushed (.siter l 0) 0 (.stringIter (bsOf l) 0) (w' := w.iter (bsOf l) 0) ⟨rfl, rfl, rfl⟩ rfl fun hq => ⟨h.base, hq, rfl, hlt⟩
    refine ⟨.pointer (some ⟨w.heap.size, 0, none⟩), _, _, ?_, ⟨_, Mp.on_same _ _ _, rfl⟩, hn.1, hn.2⟩
    have := run_range_string (P := P) w t (bsOf l) ht
    simp [execOp, ho, hv, this]
  · cases he

theorem bsOf_size (l : List Nat) : (bsOf l).size = l.length := by simp [bsOf, ByteArray.size]
theorem bsOf_get (l : List Nat) (i : Nat) (hi : i < (bsOf l).size) : (bsOf l)[i] = UInt8.ofNat (l[i]'(by rw [bsOf_size] at hi; exact hi)) := by
  show (bsOf l).data[i] = _
  simp [bsOf]

theorem good_next (x : Operand) (ho : o.op = .next x true) (hf : FR E ρ tm a.tmps) (hg : Glob E X P ρ) (h : HR E base ρ s w) (he : evOp P tm s o = some r) : Good E P base ρ s w (execOp a.eval o) r := by
  simp only [evOp, ho] at he
  split at he
  · rename_i b h1
    obtain ⟨c, hc, hv⟩ := rd_ok hf hg h1
    split at he
    · rename_i l pos hb
      have hat := h.at hb hc
      obtain ⟨hbase, hheap, hd, hlt⟩ := hat
      split at he
      · rename_i hpos
        split at he
        · rename_i c' wd hu
          simp only [Option.some.injEq] at he
          subst he
          unfold utf8A at hu
          rw [List.getElem?_eq_getElem hpos] at hu
          simp only at hu
          split at hu
          · rename_i hc128
            simp only [Option.some.injEq, Prod.mk.injEq] at hu
            obtain ⟨rfl, rfl⟩ := hu
            have hps : pos < (bsOf l).size := by rw [bsOf_size]; exact hpos
            have hget : ((bsOf l)[pos]'hps).toNat = l[pos] := by rw [bsOf_get]; simp; omega
            have hdec := decode_ascii (bsOf l) pos hps (by rw [hget]; exact hc128)
            have hn := h.turn (o' := .siter l (pos + 1)) (w' := { w with heap := w.heap.setIfInBounds c.g (.stringIter (bsOf l) (pos + 1)) }) hb hc trivial ⟨rfl, rfl, rfl⟩ (by simp) (fun g hg => by simp [Array.getElem?_setIfInBounds_ne (Ne.symm hg)]) ⟨hbase, by
              have := h.loc_lt hb hc
              simp [this], hd, hlt⟩
            refine ⟨.tuple #[.bool true, .int .i64 pos, .int .i32 (l[pos])], _, _, ?_, ⟨_, rfl, ⟨_, _, rfl, rfl, _, _, rfl, rfl, _, _, rfl, rfl, rfl⟩⟩, hn.1, hn.2⟩
            simp [execOp, ho, hv, Instr.next, getObj, setObj, Sem.run, hd, hheap, hps, hdec, hget, goInt]
          · cases hu
        · cases he
      · rename_i hpos
        simp only [Option.some.injEq] at he
        subst he
        have hps : ¬ pos < (bsOf l).size := by rw [bsOf_size]; exact hpos
        refine Good.same h (u := .tuple #[.bool false]) ?_ ⟨_, rfl, ⟨_, _, rfl, rfl, rfl⟩⟩
        simp [execOp, ho, hv, Instr.next, getObj, Sem.run, hd, hheap, hps]
    · cases he
  · cases he

theorem good_nilCheck (x : Operand) (ho : o.op = .nilCheck x) (hf : FR E ρ tm a.tmps) (hg : Glob E X P ρ) (h : HR E base ρ s w) (he : evOp P tm s o = some r) : Good E P base ρ s w (execOp a.eval o) r := by
  simp only [evOp, ho] at he
  split at he
  · cases he
  · cases he
  · cases he
  · cases he
  · cases he
  · cases he
  · rename_i f p q h1
    simp only [Option.some.injEq] at he
    subst he
    have hv := rd_ok hf hg h1
    obtain ⟨xs, ys, h2, h3⟩ := hv
    exact Good.same h (by simp [execOp, ho, h2]) ⟨xs, ys, rfl, h3⟩
  · cases he
  · rename_i v h1 h2 h3 h3' h3'' h3a h4 h5 h6
    simp only [Option.some.injEq] at he
    subst he
    have hv := rd_ok hf hg h6
    refine Good.same h ?_ hv
    cases v with
    | nilPtr => exact (h1 rfl).elim
    | nilIface => exact (h2 rfl).elim
    | nilFn => exact (h3 rfl).elim
    | yieldF => exact (h3' rfl).elim
    | sx i => exact (h3'' _ rfl).elim
    | gsl i e z => exact (h3a _ _ _ rfl).elim
    | fp a i j => obtain ⟨_, _, _, _, _, _, _, _, _, _, _, _, _, h7, _⟩ := hv; simp [execOp, ho, h7]
    | fn f p q => exact (h5 _ _ _ rfl).elim
    | str l => obtain ⟨h7, _⟩ := hv; simp [execOp, ho, h7]
    | ptr b q => obtain ⟨c, _, h7⟩ := hv; simp [execOp, ho, h7]
    | emptyS => obtain ⟨c, _, h7⟩ := hv; simp [execOp, ho, h7]
    | zeroS => obtain ⟨c, h7⟩ := hv; simp [execOp, ho, h7]
    | slice b q n c z => obtain ⟨l, cap, _, h7, _⟩ := hv; simp [execOp, ho, h7]
    | map b => obtain ⟨c, _, h7⟩ := hv; simp [execOp, ho, h7]
    | iface t y => obtain ⟨c, h7, _⟩ := hv; simp [execOp, ho, h7]
    | agg cs => obtain ⟨c, h7, _⟩ := hv; simp [execOp, ho, h7]
    | tuple cs => obtain ⟨c, h7, _⟩ := hv; simp [execOp, ho, h7]
    | _ => rw [VR] at hv; simp [execOp, ho, hv]
  · cases he

theorem good_unOp (u : UnOp) (t : TypeId) (x : Operand) (ho : o.op = .unOp u t x) (hf : FR E ρ tm a.tmps) (hg : Glob E X P ρ) (h : HR E base ρ s w) (he : evOp P tm s o = some r) : Good E P base ρ s w (execOp a.eval o) r := by
  simp only [evOp, ho] at he
  split at he
  · rename_i k n h1
    simp only [Option.some.injEq] at he
    subst he
    have hv : a.eval x = _ := rd_ok hf hg h1
    exact Good.same h (u := .int k (k.wrap (0 - n))) (by simp [execOp, ho, hv, Op.unary, Op.intArith]) rfl
  · rename_i b h1
    simp only [Option.some.injEq] at he
    subst he
    have hv : a.eval x = _ := rd_ok hf hg h1
    exact Good.same h (u := .bool (!b)) (by simp [execOp, ho, hv, Op.unary]) rfl
  · cases he
end
end Go.Proofs.YtjaaajmiojigbaaGreatDoor

/- Operations: places of elements, elements, slices of slices and of strings. -/
namespace Go.Proofs.YtjaaajmiojigbaaGreatDoor
open Go Go.RowKit
variable {E : Env} {X : Ctx}

section
variable {P : Program} {base : Nat} {ρ : Mp} {s s' : St} {w : World} {tm : Tr AV} {a : Act} {o : Oper} {r : ARes}

theorem good_indexAddr (t : TypeId) (x y : Operand) (ho : o.op = .indexAddr t x y) (hf : FR E ρ tm a.tmps) (hg : Glob E X P ρ) (h : HR E base ρ s w) (he : evOp P tm s o = some r) : Good E P base ρ s w (execOp a.eval o) r := by
  simp only [evOp, ho] at he
  split at he
  · rename_i j v kk k h1 h2 h3
    have hi : a.eval y = .int kk (k : Int) := rd_ok hf hg h3
    have hv := rd_ok hf hg h2
    split at he
    · rename_i n e b q
      split at he
      · rename_i hk
        obtain ⟨z, hz, rfl⟩ := Option.map_eq_some_iff.1 he
        obtain ⟨c, h4, h5⟩ := hv
        refine Good.same h (u := .pointer (some ⟨c.g, c.d + (q + k * z), none⟩)) ?_ ⟨c, h4, rfl⟩
        simp [execOp, ho, Instr.indexAt, hi, asIntOf, underlying, h1, h5, Instr.sureAddr, hk, run_sizeOf' hz, Addr.add_lit, Nat.add_assoc]
      · cases he
    · rename_i e b q n c z
      split at he
      · rename_i hc
        obtain ⟨hk, hz⟩ := hc
        simp only [Option.some.injEq] at he
        subst he
        obtain ⟨l, cap, h4, h5, _⟩ := hv
        refine Good.same h (u := .pointer (some ⟨l.g, l.d + (q + k * z), none⟩)) ?_ ⟨l, h4, rfl⟩
        simp [execOp, ho, Instr.indexAt, hi, asIntOf, underlying, h1, h5, hk, run_sizeOf' hz, Addr.add_lit, Nat.add_assoc]
      · cases he
    · cases he
  · cases he

theorem good_index (t : TypeId) (x y : Operand) (ho : o.op = .index t x y) (hf : FR E ρ tm a.tmps) (hg : Glob E X P ρ) (h : HR E base ρ s w) (he : evOp P tm s o = some r) : Good E P base ρ s w (execOp a.eval o) r := by
  simp only [evOp, ho] at he
  split at he
  · rename_i j v kk k h1 h2 h3
    have hi : a.eval y = .int kk (k : Int) := rd_ok hf hg h3
    have hv := rd_ok hf hg h2
    split at he
    · rename_i n e cs
      split at he
      · rename_i hk
        split at he
        · rename_i z hz
          obtain ⟨v, h4, rfl⟩ := Option.map_eq_some_iff.1 he
          obtain ⟨xs, h5, h6⟩ := hv
          obtain ⟨u, h8, h9⟩ := run_partA (P := P) (w := w) h6 h4
          refine Good.same h ?_ h9
          simp [execOp, ho, Instr.index, hi, asIntOf, underlying, h1, h5, hk, run_sizeOf' hz, h8]
        · cases he
      · cases he
    · rename_i l
      split at he
      rotate_left
      · cases he
      rename_i c h4
      simp only [Option.some.injEq] at he
      subst he
      obtain ⟨h5, h6⟩ := hv
      obtain ⟨hlt, h7⟩ := List.getElem?_eq_some_iff.1 h4
      have hs : k < (bsOf l).size := by rw [bsOf_size]; exact hlt
      have hget : ((bsOf l)[k]'hs).toNat = c := by
        rw [bsOf_get, h7]
        have := h6 c (h7 ▸ List.getElem_mem hlt)
        simp; omega
      refine Good.same h (u := .int .u8 c) ?_ rfl
      have hr := run_index_string (P := P) w t (bsOf l) kk k h1
      rw [dif_pos ⟨by omega, by omega⟩] at hr
      simp only [Int.toNat_natCast, hget] at hr
      simp [execOp, ho, hi, h5, hr]
    · cases he
  · cases he

/-- A bound. -/
theorem bound_ok {x : Option Operand} {d n : Nat} (hf : FR E ρ tm a.tmps) (hg : Glob E X P ρ) (h : bound P x tm d = some n) : (x.map a.eval = none ∧ n = d) ∨ ∃ k, x.map a.eval = some (.int k (n : Int)) := by
  unfold bound at h
  cases x with
  | none => simp at h; exact .inl ⟨rfl, h.symm⟩
  | some y =>
    simp only at h
    split at h
    · rename_i v h1
      unfold natA at h
      split at h
      · rename_i k m
        simp only [Option.some.injEq] at h
        subst h
        have hv : a.eval y = _ := rd_ok hf hg h1
        exact .inr ⟨k, by simp [hv]⟩
      · cases h
    · cases h

theorem run_bounds (isS : Bool) {len cap : Nat} {lo hi : Option Value} {l q : Nat} (hh : (hi = none ∧ q = len) ∨ ∃ k, hi = some (.int k (q : Int))) (hl : (lo = none ∧ l = 0) ∨ ∃ k, lo = some (.int k (l : Int))) (h1 : l ≤ q) (h2 : q ≤ cap) :
    (Instr.sliceBounds isS len cap lo hi none).run P w = .ok (l, q, cap) w := by
  rcases hh with ⟨rfl, rfl⟩ | ⟨k, rfl⟩ <;> rcases hl with ⟨rfl, rfl⟩ | ⟨k', rfl⟩
  · simp [Instr.sliceBounds]
  · simp [Instr.sliceBounds, run_sliceBound, h1]
  · simp [Instr.sliceBounds, run_sliceBound, h2]
  · simp [Instr.sliceBounds, run_sliceBound, h1, h2]

theorem run_bounds3 (isS : Bool) {len cap : Nat} {lo hi : Option Value} {k : IntKind} {l q m : Nat} (hh : ∃ k, hi = some (.int k (q : Int))) (hl : (lo = none ∧ l = 0) ∨ ∃ k, lo = some (.int k (l : Int))) (h1 : l ≤ q) (h2 : q ≤ m) (h3 : m ≤ cap) :
    (Instr.sliceBounds isS len cap lo hi (some (.int k (m : Int)))).run P w = .ok (l, q, m) w := by
  obtain ⟨k1, rfl⟩ := hh
  rcases hl with ⟨rfl, rfl⟩ | ⟨k', rfl⟩
  · simp [Instr.sliceBounds, run_sliceBound, h2, h3]
  · simp [Instr.sliceBounds, run_sliceBound, h1, h2, h3]

theorem bsOf_extract (l : List Nat) (i j : Nat) : (bsOf l).extract i j = bsOf ((l.take j).drop i) := by
  apply ByteArray.ext
  rw [ByteArray.data_extract]
  apply Array.ext'
  simp [bsOf, List.drop_take, List.map_drop, List.map_take]

theorem good_slice (t : TypeId) (x : Operand) (lo hi mx : Option Operand) (ho : o.op = .slice t x lo hi mx) (hf : FR E ρ tm a.tmps) (hg : Glob E X P ρ) (h : HR E base ρ s w) (he : evOp P tm s o = some r) : Good E P base ρ s w (execOp a.eval o) r := by
  simp only [evOp, ho] at he
  split at he
  · rename_i l hu hx
    obtain ⟨h1, h2⟩ := rd_ok hf hg hx
    split at he
    · rename_i q hq
      split at he
      · rename_i k hk
        split at he
        · rename_i hc
          simp only [Option.some.injEq] at he
          subst he
          have hb := run_bounds (P := P) (w := w) false (cap := (bsOf l).size) (bound_ok hf hg hq) (bound_ok hf hg hk) hc.1 (by rw [bsOf_size]; exact hc.2)
          refine Good.same h (u := .string (bsOf ((l.take q).drop k))) ?_ ⟨rfl, fun y hy => h2 y (List.mem_of_mem_take (List.mem_of_mem_drop hy))⟩
          rw [bsOf_size] at hb
          simp [execOp, ho, Instr.sliceAt, Instr.slice, underlying, hu, h1, bsOf_size, hb, bsOf_extract]
        · cases he
      · cases he
    · cases he
  · rename_i e b q n c z hu hx
    obtain ⟨l, cap, h1, h2, h3, h4, h5, h6⟩ := rd_ok hf hg hx
    split at he
    · rename_i hz
      split at he
      · rename_i q' hq
        split at he
        · rename_i k hk
          split at he
          · rename_i hc
            have hb := run_bounds (P := P) (w := w) true (len := n) (cap := cap) (bound_ok hf hg hq) (bound_ok hf hg hk) hc.1 (by omega)
            split at he
            · rename_i hkc
              simp only [Option.some.injEq] at he
              subst he
              have hne : cap ≠ k := by omega
              refine Good.same h (u := .slice (some ⟨l.g, l.d + (q + k * z), none⟩) (q' - k) (cap - k)) ?_ ⟨l, cap - k, h1, rfl, by omega, by omega, by omega, ?_⟩
              · simp [execOp, ho, Instr.sliceAt, Instr.slice, underlying, hu, h2, hb, run_sizeOf' hz, hne, Addr.add_lit, Nat.add_assoc]
              · rw [Nat.sub_mul]
                have : k * z ≤ cap * z := Nat.mul_le_mul_right _ (by omega)
                omega
            · simp only [Option.some.injEq] at he
              subst he
              have hkc : q' = k := by omega
              refine Good.same h (u := .slice (if cap = k then some ⟨l.g, l.d + q, none⟩ else some ⟨l.g, l.d + (q + k * z), none⟩) 0 (cap - k)) ?_ ⟨_, _, rfl⟩
              simp [execOp, ho, Instr.sliceAt, Instr.slice, underlying, hu, h2, hb, run_sizeOf' hz, Addr.add_lit, Nat.add_assoc, hkc]
          · cases he
        · cases he
      · cases he
    · cases he
  · rename_i y e b q n c z hu hx
    obtain ⟨l, cap, h1, h2, h3, h4, h5, h6⟩ := rd_ok hf hg hx
    split at he
    · rename_i hz
      obtain ⟨hz, hnh⟩ := hz
      split at he
      · rename_i q' m hq hm
        split at he
        · rename_i k hk
          split at he
          · rename_i hc
            obtain ⟨hc1, hc2, hc3⟩ := hc
            obtain ⟨hn, _⟩ | ⟨km, hm⟩ := bound_ok hf hg hm
            · simp at hn
            have hm' : a.eval y = .int km (m : Int) := by simpa using hm
            have hh : (∃ k, hi.map a.eval = some (.int k (q' : Int))) := by
              rcases bound_ok hf hg hq with ⟨h7, h8⟩ | h7
              · cases hi with
                | none => simp at hnh
                | some _ => simp at h7
              · exact h7
            have hb := run_bounds3 (P := P) (w := w) true (len := n) (cap := cap) (k := km) hh (bound_ok hf hg hk) hc1 hc2 (by omega)
            split at he
            · rename_i hkc
              simp only [Option.some.injEq] at he
              subst he
              have hne : m ≠ k := by omega
              refine Good.same h (u := .slice (some ⟨l.g, l.d + (q + k * z), none⟩) (q' - k) (m - k)) ?_ ⟨l, m - k, h1, rfl, by omega, by omega, by omega, ?_⟩
              · simp [execOp, ho, Instr.sliceAt, Instr.slice, underlying, hu, h2, hm', hb, run_sizeOf' hz, hne, Addr.add_lit, Nat.add_assoc]
              · rw [Nat.sub_mul]
                have : k * z ≤ m * z := Nat.mul_le_mul_right _ (by omega)
                have : m * z ≤ cap * z := Nat.mul_le_mul_right _ (by omega)
                omega
            · simp only [Option.some.injEq] at he
              subst he
              have hkc : q' = k ∧ m = k := by omega
              obtain ⟨rfl, rfl⟩ := hkc
              refine Good.same h (u := .slice (some ⟨l.g, l.d + q, none⟩) 0 0) ?_ ⟨_, _, rfl⟩
              simp [execOp, ho, Instr.sliceAt, Instr.slice, underlying, hu, h2, hm', hb, run_sizeOf' hz, Addr.add_lit, Nat.add_assoc]
          · cases he
        · cases he
      · cases he
    · cases he
  · rename_i e hu hx
    have h1 : a.eval x = _ := rd_ok hf hg hx
    split at he
    · rename_i z hz hq hk
      simp only [Option.some.injEq] at he
      subst he
      have hb := run_bounds (P := P) (w := w) true (len := 0) (cap := 0) (bound_ok hf hg hq) (bound_ok hf hg hk) (Nat.le_refl _) (Nat.le_refl _)
      refine Good.same h (u := .slice none 0 0) ?_ rfl
      simp [execOp, ho, Instr.sliceAt, Instr.slice, underlying, hu, h1, hb, run_sizeOf' hz]
    · cases he
  · rename_i e hu hx
    obtain ⟨ad, cap, h1⟩ := rd_ok hf hg hx
    split at he
    · rename_i z hz hq hk
      simp only [Option.some.injEq] at he
      subst he
      have hb := run_bounds (P := P) (w := w) true (len := 0) (cap := cap) (bound_ok hf hg hq) (bound_ok hf hg hk) (Nat.le_refl _) (Nat.zero_le _)
      refine Good.same h (u := .slice (if cap = 0 then ad else ad.map (·.add 0)) 0 cap) ?_ ⟨_, _, rfl⟩
      simp [execOp, ho, Instr.sliceAt, Instr.slice, underlying, hu, h1, hb, run_sizeOf' hz]
    · cases he
  · cases he
end
end Go.Proofs.YtjaaajmiojigbaaGreatDoor

/- Operations: comparisons, arithmetic. -/
namespace Go.Proofs.YtjaaajmiojigbaaGreatDoor
open Go Go.RowKit
variable {E : Env} {X : Ctx}

section
variable {P : Program} {base : Nat} {ρ : Mp} {s s' : St} {w : World} {tm : Tr AV} {a : Act} {o : Oper} {r : ARes}

/-- What two values compare as. -/
structure Eqs (P : Program) (w : World) (t : TypeId) (u v : Value) (b : Bool) : Prop where
  eql : (binOp .eql t u v).run P w = .ok (.bool b) w
  neq : (binOp .neq t u v).run P w = .ok (.bool (!b)) w
  guard : ∀ op X Y, u ≠ .nilIface ∨ v ≠ .nilIface → (eqGuard op t X Y u v).run P w = .ok () w

theorem guard_any {op : BinOp} {t : TypeId} {X Y : Operand} {u v : Value} (h1 : u ≠ .nilIface ∨ v ≠ .nilIface) (h2 : ∀ c, u ≠ .agg c) : (eqGuard op t X Y u v).run P w = .ok () w := by
  have key : ∀ (x y : Sem Unit), (match u, v with | .nilIface, .nilIface => x | .agg _, .agg _ => y | _, _ => pure ()).run P w = .ok () w := by
    intro x y
    split
    · rcases h1 with h1 | h1 <;> exact (h1 rfl).elim
    · exact (h2 _ rfl).elim
    · simp
  cases op <;> first | exact key _ _ | rfl

theorem Eqs.of {t : TypeId} {u v : Value} {b : Bool} (e : (Op.equal t u v).run P w = .ok b w) (h2 : ∀ c, u ≠ .agg c)
    (h3 : binOp .eql t u v = do pure (.bool (← Op.equal t u v))) (h4 : binOp .neq t u v = do pure (.bool (!(← Op.equal t u v)))) : Eqs P w t u v b :=
  ⟨by rw [h3]; simp [e], by rw [h4]; simp [e], fun _ _ _ h => guard_any h h2⟩

theorem equal_ok {t : TypeId} {u v : Value} {b : Bool} (e : ∀ d, (Op.equalIn (d + 1) t u v).run P w = .ok b w) : (Op.equal t u v).run P w = .ok b w := e 9999

theorem eqA_ok {t : TypeId} {x y : AV} {u v : Value} {b : Bool} (h : eqA P t x y = some b) (hx : VR E ρ x u) (hy : VR E ρ y v) : Eqs P w t u v b := by
  unfold eqA at h
  split at h
  · split at h
    · rename_i hu
      simp only [Option.some.injEq] at h
      subst h
      rw [show u = _ from hx, show v = _ from hy]
      exact .of (equal_ok fun d => by simp [Op.equalIn, underlying, hu]) (by simp) rfl rfl
    · cases h
  · split at h
    · rename_i hu
      simp only [Option.some.injEq] at h
      subst h
      rw [show u = _ from hx, show v = _ from hy]
      exact .of (equal_ok fun d => by simp [Op.equalIn, underlying, hu]) (by simp) rfl rfl
    · cases h
  · split at h
    · rename_i hu
      simp only [Option.some.injEq] at h
      subst h
      obtain ⟨c, _, rfl⟩ := hy
      rw [show u = _ from hx]
      exact .of (equal_ok fun d => by simp [Op.equalIn, underlying, hu]) (by simp) rfl rfl
    · cases h
  · split at h
    · rename_i hu
      simp only [Option.some.injEq] at h
      subst h
      obtain ⟨c, _, rfl⟩ := hx
      rw [show v = _ from hy]
      exact .of (equal_ok fun d => by simp [Op.equalIn, underlying, hu]) (by simp) rfl rfl
    · cases h
  · split at h
    · rename_i hu
      simp only [Option.some.injEq] at h
      subst h
      rw [show u = _ from hx, show v = _ from hy]
      exact .of (equal_ok fun d => by simp [Op.equalIn, underlying, hu]) (by simp) rfl rfl
    · cases h
  · split at h
    · rename_i hu
      simp only [Option.some.injEq] at h
      subst h
      obtain ⟨c, _, _, rfl, _⟩ := hx
      rw [show v = _ from hy]
      exact .of (equal_ok fun d => by simp [Op.equalIn, underlying, hu]) (by simp) rfl rfl
    · cases h
  · split at h
    · rename_i hu
      simp only [Option.some.injEq] at h
      subst h
      rw [show u = _ from hx, show v = _ from hy]
      exact .of (equal_ok fun d => by simp [Op.equalIn, underlying, hu]) (by simp) rfl rfl
    · cases h
  · split at h
    · rename_i hu
      simp only [Option.some.injEq] at h
      subst h
      obtain ⟨c, _, rfl⟩ := hx
      rw [show v = _ from hy]
      exact .of (equal_ok fun d => by simp [Op.equalIn, underlying, hu]) (by simp) rfl rfl
    · cases h
  · split at h
    · rename_i hu
      simp only [Option.some.injEq] at h
      subst h
      rw [show u = _ from hx, show v = _ from hy]
      exact .of (equal_ok fun d => by simp [Op.equalIn, underlying, hu]) (by simp) rfl rfl
    · cases h
  · split at h
    · rename_i hu
      simp only [Option.some.injEq] at h
      subst h
      obtain ⟨_, _, rfl, _⟩ := hx
      rw [show v = _ from hy]
      exact .of (equal_ok fun d => by simp [Op.equalIn, underlying, hu]) (by simp) rfl rfl
    · cases h
  · split at h
    · rename_i hu
      simp only [Option.some.injEq] at h
      subst h
      obtain ⟨_, rfl, _⟩ := hy
      rw [show u = _ from hx]
      exact .of (equal_ok fun d => by simp [Op.equalIn, underlying, hu]) (by simp) rfl rfl
    · cases h
  · split at h
    · rename_i hu
      simp only [Option.some.injEq] at h
      subst h
      obtain ⟨_, rfl, _⟩ := hx
      rw [show v = _ from hy]
      exact .of (equal_ok fun d => by simp [Op.equalIn, underlying, hu]) (by simp) rfl rfl
    · cases h
  · split at h
    · rename_i hu
      simp only [Option.some.injEq] at h
      subst h
      rw [show u = _ from hx, show v = _ from hy]
      exact .of (equal_ok fun d => by simp [Op.equalIn, underlying, hu]) (by simp) rfl rfl
    · cases h
  · cases h

theorem bsOf_toList (l : List Nat) : (bsOf l).toList = l.map UInt8.ofNat := by
  unfold bsOf
  exact ByteArray.toList_mk _
theorem ofNat_inj {a b : Nat} (ha : a < 256) (hb : b < 256) : (UInt8.ofNat a = UInt8.ofNat b) ↔ a = b := by
  constructor
  · intro h
    have := congrArg UInt8.toNat h
    simp at this
    omega
  · rintro rfl; rfl
theorem map_ofNat_inj : ∀ {x y : List Nat}, (∀ c ∈ x, c < 256) → (∀ c ∈ y, c < 256) → (x.map UInt8.ofNat = y.map UInt8.ofNat ↔ x = y)
  | [], [], _, _ => by simp
  | [], _ :: _, _, _ => by simp
  | _ :: _, [], _, _ => by simp
  | a :: x, b :: y, hx, hy => by
    simp only [List.map_cons, List.cons.injEq]
    rw [ofNat_inj (hx a (by simp)) (hy b (by simp)), map_ofNat_inj (fun c hc => hx c (by simp [hc])) (fun c hc => hy c (by simp [hc]))]
theorem lessB_ok : ∀ {x y : List Nat}, (∀ c ∈ x, c < 256) → (∀ c ∈ y, c < 256) → Op.bytesLess (x.map UInt8.ofNat) (y.map UInt8.ofNat) = lessB x y
  | [], [], _, _ => by simp [Op.bytesLess, lessB]
  | [], _ :: _, _, _ => by simp [Op.bytesLess, lessB]
  | _ :: _, [], _, _ => by simp [Op.bytesLess, lessB]
  | a :: x, b :: y, hx, hy => by
    have ha := hx a (by simp)
    have hb := hy b (by simp)
    have h1 : (UInt8.ofNat a < UInt8.ofNat b) ↔ a < b := by
      rw [UInt8.lt_iff_toNat_lt]
      simp
      omega
    have h2 : (UInt8.ofNat a == UInt8.ofNat b) = (a == b) := by
      rw [Bool.eq_iff_iff]
      simp only [beq_iff_eq]
      exact ofNat_inj ha hb
    simp only [List.map_cons, Op.bytesLess, lessB, h2, h1, lessB_ok (x := x) (y := y) (fun c hc => hx c (by simp [hc])) (fun c hc => hy c (by simp [hc]))]

theorem binA_int {t : TypeId} {op : BinOp} {k k' : IntKind} {n m : Int} {v : AV} (h : binA P t op (.int k n) (.int k' m) = some v) : ∃ u, (binOp op t (.int k n) (.int k' m)).run P w = .ok u w ∧ VR E ρ v u := by
  have hb : ∀ {x : AV}, (if m = 0 then none else some x) = some v → m ≠ 0 ∧ x = v := by
    intro x hh
    split at hh
    · cases hh
    · exact ⟨‹_›, Option.some.inj hh⟩
  cases op
  case shl =>
    simp only [binA] at h
    split at h
    · rename_i h0
      simp only [Option.some.injEq] at h
      subst h
      exact ⟨.int k (k.wrap (n * 2 ^ (min m.toNat k.bits))), by simp [binOp, Op.shift, Int.not_lt.2 h0], rfl⟩
    · cases h
  case shr =>
    simp only [binA] at h
    split at h
    · rename_i h0
      simp only [Option.some.injEq] at h
      subst h
      exact ⟨.int k (n.fdiv (2 ^ (min m.toNat k.bits))), by simp [binOp, Op.shift, Int.not_lt.2 h0], rfl⟩
    · cases h
  case add =>
    simp only [binA] at h
    split at h
    · rename_i hk
      subst hk
      simp only [Option.some.injEq] at h
      subst h
      exact ⟨.int k (k.wrap (n + m)), by simp [binOp, Op.intArith], rfl⟩
    · cases h
  case sub =>
    simp only [binA] at h
    split at h
    · rename_i hk
      subst hk
      simp only [Option.some.injEq] at h
      subst h
      exact ⟨.int k (k.wrap (n - m)), by simp [binOp, Op.intArith], rfl⟩
    · cases h
  case mul =>
    simp only [binA] at h
    split at h
    · rename_i hk
      subst hk
      simp only [Option.some.injEq] at h
      subst h
      exact ⟨.int k (k.wrap (n * m)), by simp [binOp, Op.intArith], rfl⟩
    · cases h
  case quo =>
    simp only [binA] at h
    split at h
    · rename_i hk
      subst hk
      obtain ⟨h0, rfl⟩ := hb h
      exact ⟨.int k (k.wrap (n.tdiv m)), by simp [binOp, Op.intDiv, h0], rfl⟩
    · cases h
  case rem =>
    simp only [binA] at h
    split at h
    · rename_i hk
      subst hk
      obtain ⟨h0, rfl⟩ := hb h
      exact ⟨.int k (n.tmod m), by simp [binOp, Op.intDiv, h0], rfl⟩
    · cases h
  case eql =>
    simp only [binA] at h
    split at h
    · rename_i hk
      subst hk
      simp only [Option.some.injEq] at h
      subst h
      exact ⟨.bool (n == m), by simp [binOp, Op.intCmp], rfl⟩
    · cases h
  case neq =>
    simp only [binA] at h
    split at h
    · rename_i hk
      subst hk
      simp only [Option.some.injEq] at h
      subst h
      exact ⟨.bool (n != m), by simp [binOp, Op.intCmp], rfl⟩
    · cases h
  case lss =>
    simp only [binA] at h
    split at h
    · rename_i hk
      subst hk
      simp only [Option.some.injEq] at h
      subst h
      exact ⟨.bool (decide (n < m)), by simp [binOp, Op.intCmp], rfl⟩
    · cases h
  case leq =>
    simp only [binA] at h
    split at h
    · rename_i hk
      subst hk
      simp only [Option.some.injEq] at h
      subst h
      exact ⟨.bool (decide (n ≤ m)), by simp [binOp, Op.intCmp], rfl⟩
    · cases h
  case gtr =>
    simp only [binA] at h
    split at h
    · rename_i hk
      subst hk
      simp only [Option.some.injEq] at h
      subst h
      exact ⟨.bool (decide (m < n)), by simp [binOp, Op.intCmp], rfl⟩
    · cases h
  case geq =>
    simp only [binA] at h
    split at h
    · rename_i hk
      subst hk
      simp only [Option.some.injEq] at h
      subst h
      exact ⟨.bool (decide (m ≤ n)), by simp [binOp, Op.intCmp], rfl⟩
    · cases h
  all_goals
    simp only [binA] at h
    split at h <;> cases h

theorem binA_str {t : TypeId} {op : BinOp} {x y : List Nat} {v : AV} (hx : ∀ c ∈ x, c < 256) (hy : ∀ c ∈ y, c < 256) (h : binA P t op (.str x) (.str y) = some v) : ∃ u, (binOp op t (.string (bsOf x)) (.string (bsOf y))).run P w = .ok u w ∧ VR E ρ v u := by
  have heq : ((bsOf x).toList == (bsOf y).toList) = (x == y) := by
    rw [Bool.eq_iff_iff]
    simp only [beq_iff_eq, bsOf_toList]
    exact map_ofNat_inj hx hy
  have hlt : Op.bytesLess (bsOf x).toList (bsOf y).toList = lessB x y := by rw [bsOf_toList, bsOf_toList, lessB_ok hx hy]
  cases op
  case add =>
    simp only [binA] at h
    split at h
    · rename_i hs
      simp only [Option.some.injEq] at h
      subst h
      refine ⟨.string (bsOf (x ++ y)), ?_, rfl, fun c hc => (List.mem_append.1 hc).elim (hx c) (hy c)⟩
      have hcat : bsOf x ++ bsOf y = bsOf (x ++ y) := by
        apply ByteArray.ext
        rw [ByteArray.data_append]
        simp [bsOf]
      have hn : ¬ ((((bsOf x).size + (bsOf y).size : Nat) : Int) > IntKind.i64.max) := by
        rw [bsOf_size, bsOf_size]
        have : IntKind.i64.max = 9223372036854775807 := by decide
        omega
      simp only [binOp, Op.stringOp, hcat, if_neg hn]
      rfl
    · cases h
  case eql => simp only [binA, Option.some.injEq] at h; subst h; exact ⟨.bool (x == y), by simp only [binOp, Op.stringOp, heq]; rfl, rfl⟩
  case neq => simp only [binA, Option.some.injEq] at h; subst h; exact ⟨.bool (!(x == y)), by simp only [binOp, Op.stringOp, heq]; rfl, rfl⟩
  case lss => simp only [binA, Option.some.injEq] at h; subst h; exact ⟨.bool (lessB x y), by simp only [binOp, Op.stringOp, hlt]; rfl, rfl⟩
  case leq => simp only [binA, Option.some.injEq] at h; subst h; exact ⟨.bool (lessB x y || x == y), by simp only [binOp, Op.stringOp, hlt, heq]; rfl, rfl⟩
  case gtr => simp only [binA, Option.some.injEq] at h; subst h; exact ⟨.bool (!(lessB x y || x == y)), by simp only [binOp, Op.stringOp, hlt, heq]; rfl, rfl⟩
  case geq => simp only [binA, Option.some.injEq] at h; subst h; exact ⟨.bool (!lessB x y), by simp only [binOp, Op.stringOp, hlt]; rfl, rfl⟩
  all_goals cases h

theorem binA_eq {t : TypeId} {op : BinOp} {x y : AV} {v : AV} (h1 : ∀ k n k' m, x = .int k n → y = .int k' m → False) (h2 : ∀ l m, x = .str l → y = .str m → False) (h : binA P t op x y = some v) :
    ∃ b, eqA P t x y = some b ∧ ((op = .eql ∧ v = .bool b) ∨ (op = .neq ∧ v = .bool (!b))) := by
  unfold binA at h
  split at h
  · exact (h1 _ _ _ _ rfl rfl).elim
  · exact (h2 _ _ rfl rfl).elim
  · split at h
    · obtain ⟨b, h3, rfl⟩ := Option.map_eq_some_iff.1 h
      exact ⟨b, h3, .inl ⟨rfl, rfl⟩⟩
    · obtain ⟨b, h3, rfl⟩ := Option.map_eq_some_iff.1 h
      exact ⟨b, h3, .inr ⟨rfl, rfl⟩⟩
    · cases h

theorem run_binA {t : TypeId} {op : BinOp} {X Y : Operand} {x y v : AV} {u1 u2 : Value} (hx : VR E ρ x u1) (hy : VR E ρ y u2) (hn : u1 ≠ .nilIface ∨ u2 ≠ .nilIface ∨ (isConstO X || isConstO Y) = true) (h : binA P t op x y = some v) :
    ∃ u, ((eqGuard op t X Y u1 u2).run P w = .ok () w) ∧ (binOp op t u1 u2).run P w = .ok u w ∧ VR E ρ v u := by
  by_cases h1 : ∃ k n k' m, x = .int k n ∧ y = .int k' m
  · obtain ⟨k, n, k', m, rfl, rfl⟩ := h1
    obtain ⟨u, h2, h3⟩ := binA_int (P := P) (ρ := ρ) (w := w) h
    rw [show u1 = _ from hx, show u2 = _ from hy]
    exact ⟨u, guard_any (.inl (by simp)) (by simp), h2, h3⟩
  · by_cases h2 : ∃ l m, x = .str l ∧ y = .str m
    · obtain ⟨l, m, rfl, rfl⟩ := h2
      obtain ⟨rfl, h4⟩ := hx
      obtain ⟨rfl, h5⟩ := hy
      obtain ⟨u, h6, h7⟩ := binA_str (P := P) (ρ := ρ) (w := w) h4 h5 h
      exact ⟨u, guard_any (.inl (by simp)) (by simp), h6, h7⟩
    · obtain ⟨b, h3, h4⟩ := binA_eq (fun k n k' m e e' => h1 ⟨k, n, k', m, e, e'⟩) (fun l m e e' => h2 ⟨l, m, e, e'⟩) h
      have he := eqA_ok (w := w) h3 hx hy
      have hg : (eqGuard op t X Y u1 u2).run P w = .ok () w := by
        by_cases hn1 : u1 ≠ .nilIface ∨ u2 ≠ .nilIface
        · exact he.guard _ _ _ hn1
        · have e1 : u1 = .nilIface := Classical.not_not.1 fun e => hn1 (.inl e)
          have e2 : u2 = .nilIface := Classical.not_not.1 fun e => hn1 (.inr e)
          have hc : (isConstO X || isConstO Y) = true := by
            rcases hn with hn | hn | hn
            · exact (hn e1).elim
            · exact (hn e2).elim
            · exact hn
          rw [e1, e2]
          cases X <;> cases Y <;> simp [isConstO] at hc <;> cases op <;> rfl
      rcases h4 with ⟨rfl, rfl⟩ | ⟨rfl, rfl⟩
      · exact ⟨_, hg, he.eql, rfl⟩
      · exact ⟨_, hg, he.neq, rfl⟩

theorem VR.nilI {x : AV} (h : VR E ρ x .nilIface) : x = .nilIface := by
  cases x with
  | nilIface => rfl
  | str l => obtain ⟨h, _⟩ := h; cases h
  | ptr b o => obtain ⟨_, _, h⟩ := h; cases h
  | emptyS => obtain ⟨_, _, h⟩ := h; cases h
  | zeroS => obtain ⟨_, h⟩ := h; cases h
  | yieldF => obtain ⟨_, h⟩ := h; cases h
  | slice b o n c z => obtain ⟨_, _, _, h, _⟩ := h; cases h
  | map b => obtain ⟨_, _, h⟩ := h; cases h
  | fn f x y => obtain ⟨_, _, h, _⟩ := h; cases h
  | iface t y => obtain ⟨_, h, _⟩ := h; cases h
  | agg cs => obtain ⟨_, h, _⟩ := h; cases h
  | tuple cs => obtain ⟨_, h, _⟩ := h; cases h
  | sx e => obtain ⟨d, _, h⟩ := h; rcases h.form with ⟨_, _, h⟩ | ⟨_, h⟩ | ⟨_, h⟩ | ⟨_, _, _, h⟩ <;> cases h
  | gsl b e z => obtain ⟨_, _, _, _, _, h, _⟩ := h; cases h
  | fp a i j => obtain ⟨_, _, _, _, _, _, _, _, _, _, _, _, _, h, _⟩ := h; cases h
  | _ => rw [VR] at h; cases h

theorem good_binOp (op : BinOp) (t t' : TypeId) (x y : Operand) (ho : o.op = .binOp op t x y t') (hf : FR E ρ tm a.tmps) (hg : Glob E X P ρ) (h : HR E base ρ s w) (he : evOp P tm s o = some r) : Good E P base ρ s w (execOp a.eval o) r := by
  simp only [evOp, ho] at he
  split at he
  · rename_i h1 h2
    split at he
    · rename_i hc
      obtain ⟨v, h3, rfl⟩ := Option.map_eq_some_iff.1 he
      obtain ⟨u, h4, h5, h6⟩ := run_binA (P := P) (w := w) (rd_ok hf hg h1) (rd_ok hf hg h2) (.inr (.inr hc)) h3
      exact Good.same h (by simp [execOp, ho, h4, h5]) h6
    · cases he
  · rename_i p q h0 h1 h2
    obtain ⟨v, h3, rfl⟩ := Option.map_eq_some_iff.1 he
    have hp := rd_ok hf hg h1
    have hq := rd_ok hf hg h2
    obtain ⟨u, h4, h5, h6⟩ := run_binA (P := P) (w := w) (X := x) (Y := y) hp hq (by
      by_cases e1 : a.eval x = .nilIface
      · refine .inr (.inl fun e2 => ?_)
        rw [e1] at hp
        rw [e2] at hq
        exact h0 hp.nilI hq.nilI
      · exact .inl e1) h3
    exact Good.same h (by simp [execOp, ho, h4, h5]) h6
  · cases he
end
end Go.Proofs.YtjaaajmiojigbaaGreatDoor

/- Operations: conversions, what lies behind an interface, entries of maps. -/
namespace Go.Proofs.YtjaaajmiojigbaaGreatDoor
open Go Go.RowKit
variable {E : Env} {X : Ctx}

section
variable {P : Program} {base : Nat} {ρ : Mp} {s s' : St} {w : World} {tm : Tr AV} {a : Act} {o : Oper} {r : ARes}

theorem isU8_ok {e : TypeId} (h : isU8 P e = true) : P.underlying e = some (.int .u8) := by
  unfold isU8 at h
  split at h
  · assumption
  · cases h

theorem mapM_bytes : ∀ {cs : List AV} {l : List Nat} {vs : List Value}, cs.mapM byteN = some l → VRs E ρ cs vs → (∀ x ∈ l, x < 256) ∧ vs = l.map (fun (n : Nat) => Value.int .u8 (n : Int))
  | [], l, vs, h, hv => by simp at h; subst h; rw [show vs = [] from hv]; simp
  | c :: cs, l, vs, h, hv => by
    obtain ⟨v, vs', rfl, h1, h2⟩ := hv
    simp only [List.mapM_cons, Option.bind_eq_bind, Option.pure_def] at h
    cases h3 : byteN c with
    | none => simp [h3] at h
    | some n =>
      cases h4 : cs.mapM byteN with
      | none => simp [h3, h4] at h
      | some ns =>
        simp [h3, h4] at h
        subst h
        obtain ⟨h5, h6⟩ := mapM_bytes h4 h2
        unfold byteN at h3
        split at h3
        · split at h3
          · simp only [Option.some.injEq] at h3
            subst h3
            rw [show v = _ from h1, h6]
            exact ⟨fun x hx => (List.mem_cons.1 hx).elim (fun e => by omega) (h5 x), rfl⟩
          · cases h3
        · cases h3

theorem good_convert (src dst : TypeId) (x : Operand) (ho : o.op = .convert src dst x) (hf : FR E ρ tm a.tmps) (hg : Glob E X P ρ) (h : HR E base ρ s w) (he : evOp P tm s o = some r) : Good E P base ρ s w (execOp a.eval o) r := by
  simp only [evOp, ho] at he
  split at he
  · rename_i i j v h1 h2 h3
    have hv := rd_ok hf hg h3
    split at he
    · rename_i k k' n
      simp only [Option.some.injEq] at he
      subst he
      have hv : a.eval x = _ := hv
      exact Good.same h (u := .int k (k.wrap n)) (by simp [execOp, ho, hv, convert, underlying, h1, h2, Conv.intToInt]) rfl
    · rename_i l
      simp only [Option.some.injEq] at he
      subst he
      obtain ⟨h4, h5⟩ := hv
      exact Good.same h (u := .string (bsOf l)) (by simp [execOp, ho, h4, convert, underlying, h1, h2]) ⟨rfl, h5⟩
    · rename_i k n
      split at he
      · rename_i hn
        simp only [Option.some.injEq] at he
        subst he
        have hv : a.eval x = _ := hv
        refine Good.same h (u := .string (bsOf [n])) ?_ ⟨rfl, by simp; omega⟩
        have henc : Utf8.encode (n : Int) = bsOf [n] := by
          have hval : Utf8.valid (n : Int) = true := by unfold Utf8.valid; simp; omega
          unfold Utf8.encode
          simp [hval, bsOf, hn]
        have hv' : a.eval x = .int k (n : Int) := hv
        simp [execOp, ho, hv', convert, underlying, h1, h2, Conv.intToString, henc]
      · cases he
    · rename_i e l
      split at he
      · rename_i hu
        obtain ⟨hu, hlen⟩ := hu
        simp only [Option.some.injEq] at he
        subst he
        obtain ⟨h4, h5⟩ := hv
        have hr := run_bytes_of_string (P := P) w src dst e (bsOf l) h1 h2 (isU8_ok hu)
        rw [bsOf_size] at hr
        generalize hcap : grownCap w l.length 0 e = cap at hr
        have hge : l.length ≤ cap := by rw [← hcap]; exact grownCap_ge w l.length 0 e
        have hsz : (bytesRow (bsOf l) cap).size = cap := by unfold bytesRow; rw [Array.size_append, Array.size_map, Array.size_replicate, bsOf_size]; simp [bsOf]; omega
        have hcells : ∀ (σ : Mp) (j : Nat) (x : AV), (writeN .leaf 0 (l.map byteA)).get j = some x → j < l.length ∧ ∃ v, (bytesRow (bsOf l) cap)[0 + j]? = some v ∧ VR E σ x v := by
          intro σ j x hj
          rcases writeN_get hj with ⟨_, h7⟩ | ⟨_, h7⟩
          · rw [Nat.sub_zero] at h7
            obtain ⟨hlt, h8⟩ := List.getElem?_eq_some_iff.1 h7
            have hlt' : j < l.length := by simpa using hlt
            have h9 := h5 _ (List.getElem_mem hlt')
            refine ⟨hlt', .int .u8 (l[j] : Int), ?_, ?_⟩
            · unfold bytesRow
              rw [Nat.zero_add, Array.getElem?_append_left (by simp [bsOf]; exact hlt')]
              simp [bsOf, hlt']
              omega
            · rw [← h8]; simp [byteA, VR]
          · cases h7
        have hn := h.pushed (.cells true (writeN .leaf 0 (l.map byteA)) l.length) cap (.cells (bytesRow (bsOf l) cap) e ((bytesRow (bsOf l) cap).size, (bytesRow (bsOf l) cap).size + 1)) (w' := w.drew.alloc (.cells (bytesRow (bsOf l) cap) e ((bytesRow (bsOf l) cap).size, (bytesRow (bsOf l) cap).size + 1))) ⟨rfl, rfl, rfl⟩ rfl fun hq => ⟨_, e, _, hq, by simp [hsz], hge, hcells _, fun hh => by cases hh⟩
        refine ⟨.slice (some ⟨w.heap.size, 0, none⟩) l.length cap, _, _, by simp only [execOp, ho, h4]; simp [hr], ⟨_, cap, Mp.on_same _ _ _, rfl, Nat.le_refl _, hge, ?_, by simp⟩, hn.1, hn.2⟩
        rw [← hcap]
        exact grownCap_le_maxLen w _ _ _ (by unfold maxLen; omega)
      · cases he
    · rename_i e
      split at he
      · rename_i hu
        simp only [Option.some.injEq] at he
        subst he
        have hv : a.eval x = _ := hv
        exact Good.same h (u := .string (bsOf [])) (by simp [execOp, ho, hv, convert, underlying, h1, h2, isU8_ok hu, Conv.bytesToString, bsOf]; rfl) ⟨rfl, by simp⟩
      · cases he
    · rename_i e b q n c
      split at he
      · rename_i hu
        split at he
        · rename_i cs h4
          split at he
          · rename_i l h5
            simp only [Option.some.injEq] at he
            subst he
            obtain ⟨lc, cap, h6, h7, _⟩ := hv
            obtain ⟨vs, h8, h9, h10⟩ := h.load h6 h4
            obtain ⟨h11, h12⟩ := mapM_bytes h5 h8
            have hlen : (l.map UInt8.ofNat).length = n := by rw [List.length_map, ← h9, h12, List.length_map]
            have hr := run_convert_bytes_back (P := P) w src dst e ⟨lc.g, lc.d + q, none⟩ cap (l.map UInt8.ofNat) h1 (isU8_ok hu) h2 (fun j hj => by
              rw [Addr.add_lit]
              apply h10
              rw [h12, List.getElem?_map]
              have hj' : j < l.length := by simpa using hj
              rw [List.getElem?_eq_getElem hj']
              have := h11 _ (List.getElem_mem hj')
              simp
              omega)
            rw [hlen] at hr
            exact Good.same h (u := .string (bsOf l)) (by simp only [execOp, ho, h7]; simp [hr, bsOf]) ⟨rfl, h11⟩
          · cases he
        · cases he
      · cases he
    · cases he
  · cases he
end
end Go.Proofs.YtjaaajmiojigbaaGreatDoor

