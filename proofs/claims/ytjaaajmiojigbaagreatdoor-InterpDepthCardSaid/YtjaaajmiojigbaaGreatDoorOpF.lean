/- Calls. -/
import Derived.Test.YtjaaajmiojigbaaGreatDoorOpE
namespace Go.Proofs.YtjaaajmiojigbaaGreatDoor
open Go Go.RowKit
variable {E : Env} {X : Ctx}

section
variable {P : Program} {base : Nat} {ρ : Mp} {s s' : St} {w : World} {tm : Tr AV} {a : Act} {o : Oper} {r : ARes}

theorem run_enters {g : FuncId} (args : Array Value) (h : enters P g = true) : (callFunc g args).run P w = .ok (.enter g args) w := by
  unfold enters at h
  split at h
  · rename_i fn hfn
    simp only [Bool.and_eq_true, Bool.not_eq_true'] at h
    have hb : ¬ (fn.body = none) := by intro hx; rw [hx] at h; simp at h
    have hn : ¬ (fn.name = "runtime.NumGoroutine") := by simpa using h.2
    simp [callFunc, hfn, hn, hb]
  · cases h

theorem run_methA {t : TypeId} {v : Value} {name : String} {g : FuncId} (n : Nat) (h : methA P t name = some g) : (method (n + 1) t v name).run P w = .ok (g, v) w ∧ enters P g = true := by
  unfold methA at h
  split at h
  · rename_i i hi
    split at h
    · rename_i m hm
      split at h
      · rename_i g' q hfn hp
        split at h
        · rename_i hc
          simp only [Option.some.injEq] at h
          subst h
          refine ⟨?_, hc.1⟩
          have hr := hc.2
          unfold recvOk at hr
          split at hr
          · rename_i e hu
            subst hr
            simp [method, typeInfo, hi, hm, hp, follow, hfn, receiverAt, underlying, hu, Place.get]
          · rename_i d hnp hu
            have hq : q = false := by simpa using hr
            subst hq
            simp only [method, typeInfo, hfn, receiverAt]
            cases d <;> first | exact (hnp _ rfl).elim | simp [hi, hm, hp, follow, underlying, hu, Place.get, hfn]
          · cases hr
        · cases h
      · cases h
    · cases h
  · cases h

theorem good_call (c : Call) (ho : o.op = .call c) (hf : FR E ρ tm a.tmps) (hg : Glob E X P ρ) (h : HR E base ρ s w) (he : evOp P tm s o = some r) : Good E P base ρ s w (execOp a.eval o) r := by
  simp only [evOp, ho] at he
  split at he
  · cases he
  · rename_i args h1
    have hv := rds_ok hf hg h1
    have harr : c.args.map a.eval = List.toArray (c.args.toList.map a.eval) := (map_arr _ _).symm
    split at he
    · rename_i b hc
      have := builtinA_ok o.type (c.args.map fun | .const _ => true | _ => false) h hv he
      have he2 : execOp a.eval o = builtin b (List.toArray c.argTypes.toList) o.type (c.args.map fun | .const _ => true | _ => false) (List.toArray (c.args.toList.map a.eval)) := by
        simp only [execOp, ho, resolve, hc, harr]
        rfl
      rw [he2]
      exact this
    · rename_i f hc
      split at he
      · rename_i g first cap h2
        split at he
        · rename_i hen
          simp only [Option.some.injEq] at he
          subst he
          obtain ⟨xs, ys, h3, h4, h5⟩ := rd_ok hf hg h2
          refine ⟨rfl, xs ++ c.args.toList.map a.eval ++ ys, ?_, (h4.append hv).append h5⟩
          have := run_enters (P := P) (w := w) (List.toArray (xs ++ c.args.toList.map a.eval ++ ys)) hen
          rw [← this]
          simp only [execOp, ho, resolve, hc, harr, h3, Deferred.ofValue, invoke, Sem.run_bind, Sem.run_pure, Result.andThen_ok, List.append_toArray]
        · cases he
      · cases he
    · rename_i rc name hc
      split at he
      · rename_i t v h2
        split at he
        · rename_i g h3
          simp only [Option.some.injEq] at he
          subst he
          obtain ⟨u, h4, h5⟩ := rd_ok hf hg h2
          refine ⟨rfl, u :: c.args.toList.map a.eval, ?_, ⟨_, _, rfl, h5, hv⟩⟩
          obtain ⟨h6, h7⟩ := run_methA (P := P) (w := w) (v := u) (P.types.size + Made.depth - 1) h3
          have hd : P.types.size + Made.depth - 1 + 1 = P.types.size + Made.depth := by unfold Made.depth; omega
          rw [hd] at h6
          have := run_enters (P := P) (w := w) (List.toArray (u :: c.args.toList.map a.eval)) h7
          rw [← this]
          have hget : (#[Value.iface t u] ++ List.toArray (c.args.toList.map a.eval))[0]? = some (.iface t u) := by simp
          have hext : (#[Value.iface t u] ++ List.toArray (c.args.toList.map a.eval)).extract 1 (#[Value.iface t u] ++ List.toArray (c.args.toList.map a.eval)).size = List.toArray (c.args.toList.map a.eval) := by
            apply Array.ext'
            simp
            exact List.take_of_length_le (by simp)
          have hcat : #[u] ++ List.toArray (c.args.toList.map a.eval) = List.toArray (u :: c.args.toList.map a.eval) := by simp
          have hprog : (program).run P w = .ok P w := rfl
          simp only [execOp, ho, resolve, hc, harr, h4, invoke, Sem.run_bind, Sem.run_pure, Result.andThen_ok, hget, hext, callMethod, hprog, h6, hcat]
        · cases he
      · cases he
end

/-- Every operation that the evaluator knows does what it says. -/
theorem evOp_ok {P : Program} {base : Nat} {ρ : Mp} {s : St} {w : World} {tm : Tr AV} {a : Act} {o : Oper} {r : ARes} (hf : FR E ρ tm a.tmps) (hg : Glob E X P ρ) (h : HR E base ρ s w) (he : evOp P tm s o = some r) : Good E P base ρ s w (execOp a.eval o) r := by
  cases ho : o.op
  case move x => exact good_move x (.inl ho) hf hg h he
  case assign x => exact good_move x (.inr ho) hf hg h he
  case pick c x y => exact good_pick c x y ho hf hg h he
  case alloc e => exact good_alloc e ho h he
  case box e x => exact good_box e x ho hf hg h he
  case build t parts => exact good_build t parts ho hf hg h he
  case buildSlice t n parts => exact good_buildSlice t n parts ho hf hg h he
  case load t x => exact good_load t x ho hf hg h he
  case store t x y => exact good_store t x y ho hf hg h he
  case nilCheck x => exact good_nilCheck x ho hf hg h he
  case binOp op t x y t' => exact good_binOp op t t' x y ho hf hg h he
  case unOp u t x => exact good_unOp u t x ho hf hg h he
  case convert src dst x => exact good_convert src dst x ho hf hg h he
  case makeInterface t x => exact good_makeInterface t x ho hf hg h he
  case makeFunc f x y => exact good_makeFunc f x y ho hf hg h he
  case makeMap t x => exact good_makeMap t x ho hf hg h he
  case makeSlice t l c => exact good_makeSlice t l c ho hf hg h he
  case slice t x lo hi mx => exact good_slice t x lo hi mx ho hf hg h he
  case fieldAddr t x k => exact good_fieldAddr t x k ho hf hg h he
  case field t x k => exact good_field t x k ho hf hg h he
  case indexAddr t x y => exact good_indexAddr t x y ho hf hg h he
  case index t x y => exact good_index t x y ho hf hg h he
  case lookup t m k ok => exact good_lookup t m k ok ho hf hg h he
  case mapUpdate t m k x => exact good_mapUpdate t m k x (.inl ho) hf hg h he
  case insert t m k x => exact good_mapUpdate t m k x (.inr ho) hf hg h he
  case range t x => exact good_range t x ho hf hg h he
  case next x b =>
    cases b
    · simp [evOp, ho] at he
    · exact good_next x ho hf hg h he
  case typeAssert x t0 t ok => exact good_typeAssert x t0 t ok ho hf hg h he
  case extract t k => exact good_extract t k ho hf hg h he
  case call c => exact good_call c ho hf hg h he
  all_goals simp [evOp, ho] at he
end Go.Proofs.YtjaaajmiojigbaaGreatDoor
