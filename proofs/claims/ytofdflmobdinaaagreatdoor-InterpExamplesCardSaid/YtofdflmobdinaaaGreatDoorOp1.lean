/- What the evaluator says of an operation is what the operation does: operands, moves, addresses, loads. -/
import Derived.Test.YtofdflmobdinaaaGreatDoorMemo
namespace Go.Proofs.YtofdflmobdinaaaGreatDoor
open Go Go.RowKit
variable {E : Env} {X : Ctx}

/-- The package variables: where they lie; what the tables among them hold, frozen. -/
structure Glob0 (E : Env) (P : Program) (ρ : Mp) : Prop where
  lies : ∀ g, g < P.globals.size → ∃ m, ρ g = some ⟨g, 0, m⟩
  tab : ∀ g d, E.tab g = some d → ∃ arr T fr u, ρ.fz g = some (.cells arr T fr) ∧ arr[0]? = some u ∧ DR ρ.fz d u
/-- What is told of the unknown is true. -/
structure XOk (E : Env) (X : Ctx) : Prop where
  facts : ∀ e v, (e, v) ∈ X.facts → den E.val e = den E.val v
  kinds : ∀ i k, X.vk[i]? = some k → HasK X.kt (E.val i) k
  tabs : ∀ g i, (g, i) ∈ X.gt → E.tab g = some (E.val i)
structure Glob (E : Env) (X : Ctx) (P : Program) (ρ : Mp) : Prop where
  base : Glob0 E P ρ
  ok : XOk E X
theorem Glob0.mono {P : Program} {ρ σ : Mp} (h : Glob0 E P ρ) (hx : Ext ρ σ) : Glob0 E P σ :=
  ⟨fun g hg => let ⟨m, hm⟩ := h.lies g hg; ⟨m, hx _ _ hm⟩, fun g d hd => let ⟨arr, T, fr, u, h1, h2, h3⟩ := h.tab g d hd; ⟨arr, T, fr, u, hx.fz _ _ h1, h2, h3.mono hx.fz⟩⟩
theorem Glob.mono {P : Program} {ρ σ : Mp} (h : Glob E X P ρ) (hx : Ext ρ σ) : Glob E X P σ := ⟨h.base.mono hx, h.ok⟩

theorem bsOf_nats (s : ByteArray) : bsOf (nats s) = s := by
  obtain ⟨⟨l⟩⟩ := s
  unfold bsOf nats
  simp only [List.map_map]
  congr 2
  exact (List.map_congr_left fun a _ => by simp [Function.comp]).trans (List.map_id _)
theorem nats_lt (s : ByteArray) : ∀ x ∈ nats s, x < 256 := by
  intro x hx
  unfold nats at hx
  rw [List.mem_map] at hx
  obtain ⟨c, _, rfl⟩ := hx
  exact c.toNat_lt

theorem ofVal0_ok {ρ : Mp} {v : Value} {x : AV} (h : ofVal0 v = some x) : VR E ρ x v := by
  unfold ofVal0 at h
  split at h <;> first | (cases h; done) | (simp only [Option.some.injEq] at h; subst h)
  · exact rfl
  · exact rfl
  · exact ⟨by rw [bsOf_nats], nats_lt _⟩
  all_goals exact rfl
theorem mapM_ofVal0 {ρ : Mp} : ∀ {xs : List Value} {cs : List AV}, xs.mapM ofVal0 = some cs → VRs E ρ cs xs
  | [], cs, h => by simp at h; subst h; rfl
  | x :: r, cs, h => by
    simp only [List.mapM_cons, Option.bind_eq_bind, Option.pure_def] at h
    cases h1 : ofVal0 x with
    | none => simp [h1] at h
    | some v =>
      cases h2 : r.mapM ofVal0 with
      | none => simp [h1, h2] at h
      | some vs => simp [h1, h2] at h; subst h; exact ⟨x, r, rfl, ofVal0_ok h1, mapM_ofVal0 h2⟩
theorem ofVal_ok {ρ : Mp} {v : Value} {x : AV} (h : ofVal v = some x) : VR E ρ x v := by
  unfold ofVal at h
  split at h
  · split at h
    · rename_i cs _ l h1
      simp only [Option.some.injEq] at h
      subst h
      exact ⟨cs.toList, rfl, mapM_ofVal0 h1⟩
    · cases h
  · exact ofVal0_ok h

theorem rd_ok {P : Program} {ρ : Mp} {tm : Tr AV} {a : Act} {x : Operand} {v : AV} (hf : FR E ρ tm a.tmps) (hg : Glob E X P ρ) (h : rd P tm x = some v) : VR E ρ v (a.eval x) := by
  cases x with
  | tmp t =>
    obtain ⟨u, h1, h2⟩ := hf.get t v h
    show VR E ρ v (a.tmps.getD t undef)
    rw [Array.getD_eq_getD_getElem?, h1]
    exact h2
  | const c => exact ofVal_ok h
  | global g =>
    simp only [rd] at h
    split at h
    · simp only [Option.some.injEq] at h; subst h
      obtain ⟨m, hm⟩ := hg.base.lies g ‹_›
      exact ⟨_, hm, rfl⟩
    · cases h
  | func f =>
    simp only [rd, Option.some.injEq] at h
    subst h
    exact ⟨[], [], rfl, rfl, rfl⟩
theorem rds_ok {P : Program} {ρ : Mp} {tm : Tr AV} {a : Act} (hf : FR E ρ tm a.tmps) (hg : Glob E X P ρ) : ∀ {xs : List Operand} {vs : List AV}, rds P tm xs = some vs → VRs E ρ vs (xs.map a.eval)
  | [], _, h => by simp [rds] at h; subst h; rfl
  | x :: r, vs, h => by
    simp only [rds] at h
    cases h1 : rd P tm x with
    | none => simp [h1] at h
    | some v =>
      cases h2 : rds P tm r with
      | none => simp [h1, h2] at h
      | some us =>
        simp [h1, h2] at h
        subst h
        exact ⟨_, _, rfl, rd_ok hf hg h1, rds_ok hf hg h2⟩

/-- An operation does what the evaluator says. -/
def Good (E : Env) (P : Program) (base : Nat) (ρ : Mp) (s : St) (w : World) (x : Sem Next) : ARes → Prop
  | .val v s' => ∃ u σ w', x.run P w = .ok (.value u) w' ∧ VR E σ v u ∧ HR E base σ s' w' ∧ Turn ρ s w σ s' w'
  | .skip s' => ∃ σ w', x.run P w = .ok .skip w' ∧ HR E base σ s' w' ∧ Turn ρ s w σ s' w'
  | .enter f args s' => s' = s ∧ ∃ vs, x.run P w = .ok (.enter f (List.toArray vs)) w ∧ VRs E ρ args vs

theorem Good.same {P : Program} {base : Nat} {ρ : Mp} {s : St} {w : World} {x : Sem Next} {v : AV} {u : Value} (h : HR E base ρ s w) (hr : x.run P w = .ok (.value u) w) (hv : VR E ρ v u) : Good E P base ρ s w x (.val v s) :=
  ⟨u, ρ, w, hr, hv, h, Turn.refl h⟩

theorem map_arr {α β : Type} (f : α → β) (x : Array α) : (List.map f x.toList).toArray = x.map f := by
  apply Array.ext'
  simp

section
variable {P : Program} {base : Nat} {ρ : Mp} {s : St} {w : World} {tm : Tr AV} {a : Act} {o : Oper} {r : ARes}

theorem good_move (x : Operand) (ho : o.op = .move x ∨ o.op = .assign x) (hf : FR E ρ tm a.tmps) (hg : Glob E X P ρ) (h : HR E base ρ s w) (he : evOp P tm s o = some r) : Good E P base ρ s w (execOp a.eval o) r := by
  have he' : (rd P tm x).map (fun v => ARes.val v s) = some r := by rcases ho with ho | ho <;> simpa [evOp, ho] using he
  obtain ⟨v, h1, rfl⟩ := Option.map_eq_some_iff.1 he'
  refine Good.same h ?_ (rd_ok hf hg h1)
  rcases ho with ho | ho <;> simp [execOp, ho]
theorem good_pick (c x y : Operand) (ho : o.op = .pick c x y) (hf : FR E ρ tm a.tmps) (hg : Glob E X P ρ) (h : HR E base ρ s w) (he : evOp P tm s o = some r) : Good E P base ρ s w (execOp a.eval o) r := by
  simp only [evOp, ho] at he
  split at he
  · rename_i hc
    obtain ⟨v, h1, rfl⟩ := Option.map_eq_some_iff.1 he
    have h2 : a.eval c = .bool true := rd_ok hf hg hc
    exact Good.same h (by simp [execOp, ho, h2, asBool]) (rd_ok hf hg h1)
  · rename_i hc
    obtain ⟨v, h1, rfl⟩ := Option.map_eq_some_iff.1 he
    have h2 : a.eval c = .bool false := rd_ok hf hg hc
    exact Good.same h (by simp [execOp, ho, h2, asBool]) (rd_ok hf hg h1)
  · cases he
theorem good_makeInterface (t : TypeId) (x : Operand) (ho : o.op = .makeInterface t x) (hf : FR E ρ tm a.tmps) (hg : Glob E X P ρ) (h : HR E base ρ s w) (he : evOp P tm s o = some r) : Good E P base ρ s w (execOp a.eval o) r := by
  simp only [evOp, ho] at he
  split at he
  · cases he
  · rename_i d hni hu
    obtain ⟨v, h1, rfl⟩ := Option.map_eq_some_iff.1 he
    refine Good.same h ?_ ⟨_, rfl, rd_ok hf hg h1⟩
    simp only [execOp, ho, Instr.makeInterface]
    cases d <;> first | exact (hni _ rfl).elim | simp [underlying, hu]
  · cases he
theorem good_makeFunc (f : Fn) (x y : Array Operand) (ho : o.op = .makeFunc f x y) (hf : FR E ρ tm a.tmps) (hg : Glob E X P ρ) (h : HR E base ρ s w) (he : evOp P tm s o = some r) : Good E P base ρ s w (execOp a.eval o) r := by
  simp only [evOp, ho] at he
  split at he
  · rename_i us vs h1 h2
    simp only [Option.some.injEq] at he
    subst he
    refine Good.same h (u := .func f (x.map a.eval) (y.map a.eval)) (by simp [execOp, ho, Instr.makeFunc]) ⟨x.toList.map a.eval, y.toList.map a.eval, by rw [map_arr, map_arr], rds_ok hf hg h1, rds_ok hf hg h2⟩
  · cases he
theorem good_extract (t : Operand) (k : Nat) (ho : o.op = .extract t k) (hf : FR E ρ tm a.tmps) (hg : Glob E X P ρ) (h : HR E base ρ s w) (he : evOp P tm s o = some r) : Good E P base ρ s w (execOp a.eval o) r := by
  simp only [evOp, ho] at he
  split at he
  · rename_i vs h1
    obtain ⟨v, h2, rfl⟩ := Option.map_eq_some_iff.1 he
    obtain ⟨xs, h3, h4⟩ := rd_ok hf hg h1
    obtain ⟨u, h5, h6⟩ := h4.get h2
    exact Good.same h (by simp [execOp, ho, h3, Instr.extract, h5]) h6
  · cases he
end
end Go.Proofs.YtofdflmobdinaaaGreatDoor
