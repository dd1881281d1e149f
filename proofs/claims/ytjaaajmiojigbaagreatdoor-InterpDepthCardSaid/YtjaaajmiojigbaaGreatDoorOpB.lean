/- Operations: entries of maps are read and written. -/
import Derived.Test.YtjaaajmiojigbaaGreatDoorOpA
namespace Go.Proofs.YtjaaajmiojigbaaGreatDoor
open Go Go.RowKit
variable {E : Env} {X : Ctx}

section
variable {P : Program} {base : Nat} {ρ : Mp} {s s' : St} {w : World} {tm : Tr AV} {a : Act} {o : Oper} {r : ARes}

theorem run_findKeyA {kt : TypeId} {d : TypeDesc} {u : Value} {es : List MapEntry} {q : Option (Nat × Value)} (hd : P.underlying kt = some d) (h : Instr.findNow d u es 0 = some q) : (Instr.findKey kt u es).run P w = .ok q w := by
  simp [Instr.findKey, underlying, hd, h]

theorem run_lookup_some {t kt e : TypeId} {mv u v : Value} {us : Array MapEntry} {d : TypeDesc} {ok : Bool} {j : Nat} (hu : P.underlying t = some (.map kt e)) (hm : (mv = .map none ∧ us = #[]) ∨ ∃ r cl, mv = .map (some r) ∧ w.heap[r]? = some (.map us cl))
    (hc : ∀ b, (Instr.checkKey b 10000 kt u).run P w = .ok () w) (hd : P.underlying kt = some d) (hq : Instr.findNow d u us.toList 0 = some (some (j, v))) :
    (Instr.lookup t mv u ok).run P w = .ok (if ok then .tuple #[v, .bool true] else v) w := by
  have hk := run_findKeyA (w := w) hd hq
  rcases hm with ⟨rfl, rfl⟩ | ⟨r, cl, rfl, hr⟩
  · simp [Instr.findNow] at hq
  · simp [Instr.lookup, underlying, hu, getObj, Sem.run, hr, hc, hk]

theorem run_lookup_none {t kt e : TypeId} {mv u z : Value} {us : Array MapEntry} {d : TypeDesc} {ok : Bool} (hu : P.underlying t = some (.map kt e)) (hm : (mv = .map none ∧ us = #[]) ∨ ∃ r cl, mv = .map (some r) ∧ w.heap[r]? = some (.map us cl))
    (hc : ∀ b, (Instr.checkKey b 10000 kt u).run P w = .ok () w) (hd : P.underlying kt = some d) (hq : Instr.findNow d u us.toList 0 = some none) (hz : (zeroValue e).run P w = .ok z w) :
    (Instr.lookup t mv u ok).run P w = .ok (if ok then .tuple #[z, .bool false] else z) w := by
  have hk := run_findKeyA (w := w) hd hq
  rcases hm with ⟨rfl, rfl⟩ | ⟨r, cl, rfl, hr⟩
  · simp at hk
    simp [Instr.lookup, underlying, hu, hc, hk, hz]
  · simp [Instr.lookup, underlying, hu, getObj, Sem.run, hr, hc, hk, hz]

theorem entries_ok {v : AV} {mv : Value} {es : List (AV × AV)} (h : HR E base ρ s w) (hv : VR E ρ v mv) (he : s.entries v = some es) : ∃ us, EsR E ρ es us.toList ∧ ((mv = .map none ∧ us = #[]) ∨ ∃ r cl, mv = .map (some r) ∧ w.heap[r]? = some (.map us cl)) := by
  unfold St.entries at he
  split at he
  · simp only [Option.some.injEq] at he
    subst he
    exact ⟨#[], rfl, .inl ⟨hv, rfl⟩⟩
  · split at he
    · rename_i b es' hb
      simp only [Option.some.injEq] at he
      subst he
      obtain ⟨l, h5, h6⟩ := hv
      obtain ⟨_, arr, cl, h7, h8⟩ := h.at hb h5
      exact ⟨arr, h8, .inr ⟨l.g, cl, h6, h7⟩⟩
    · cases he
  · cases he

theorem good_lookup (t : TypeId) (m k : Operand) (ok : Bool) (ho : o.op = .lookup t m k ok) (hf : FR E ρ tm a.tmps) (hg : Glob E X P ρ) (h : HR E base ρ s w) (he : evOp P tm s o = some r) : Good E P base ρ s w (execOp a.eval o) r := by
  simp only [evOp, ho] at he
  split at he
  · rename_i kt e v key hu h1 h2
    have hm := rd_ok hf hg h1
    have hk := rd_ok hf hg h2
    split at he
    · rename_i hko
      split at he
      · rename_i es z h3 h4
        obtain ⟨us, h5, h6⟩ := entries_ok h hm h3
        have hc := fun b => (keyOk_ok (w := w) hko hk b).1
        obtain ⟨d, hd, hki⟩ := (keyOk_ok (w := w) hko hk true).2
        split at he
        · rename_i j v h7
          simp only [Option.some.injEq] at he
          subst he
          rcases findNow_ok hki hk h5 h7 with ⟨h8, _⟩ | ⟨j', v0, v', h8, h9, h10, _⟩
          · cases h8
          · simp only [Option.some.injEq, Prod.mk.injEq] at h8
            obtain ⟨rfl, rfl⟩ := h8
            have hr := run_lookup_some (ok := ok) hu h6 hc hd h9
            refine Good.same h (by simp [execOp, ho, hr]; rfl) ?_
            cases ok
            · exact h10
            · exact ⟨[v', .bool true], rfl, _, _, rfl, h10, _, _, rfl, rfl, rfl⟩
        · rename_i h7
          simp only [Option.some.injEq] at he
          subst he
          obtain ⟨zv, h11, h12⟩ := zeroV_ok (E := E) (ρ := ρ) (w := w) h4
          rcases findNow_ok hki hk h5 h7 with ⟨_, h9⟩ | ⟨j', v0, v', h8, _⟩
          · have hr := run_lookup_none (ok := ok) hu h6 hc hd h9 h11
            refine Good.same h (by simp [execOp, ho, hr]; rfl) ?_
            cases ok
            · exact h12
            · exact ⟨[zv, .bool false], rfl, _, _, rfl, h12, _, _, rfl, rfl, rfl⟩
          · cases h8
        · cases he
      · cases he
    · cases he
  · cases he

theorem EsR.push : ∀ {es : List (AV × AV)} {us : List MapEntry} {k v : AV} {e : MapEntry}, EsR E ρ es us → VR E ρ k e.key → VR E ρ v e.val → EsR E ρ (es ++ [(k, v)]) (us ++ [e])
  | [], us, k, v, e, h, h1, h2 => by rw [show us = [] from h]; exact ⟨e, [], rfl, h1, h2, rfl⟩
  | _ :: _, _, _, _, _, ⟨e', es', h1, h2, h3, h4⟩, h5, h6 => ⟨e', es' ++ [_], by rw [h1]; rfl, h2, h3, h4.push h5 h6⟩
theorem EsR.set : ∀ {es : List (AV × AV)} {us : List MapEntry} {k v : AV} {f : MapEntry → MapEntry} (i : Nat), EsR E ρ es us → (∀ e, VR E ρ k (f e).key ∧ VR E ρ v (f e).val) → EsR E ρ (es.set i (k, v)) (us.modify i f)
  | [], us, k, v, f, i, h, _ => by rw [show us = [] from h]; simp [EsR]
  | _ :: _, _, _, _, f, 0, ⟨e', es', h1, _, _, h4⟩, h5 => ⟨f e', es', by rw [h1]; rfl, (h5 e').1, (h5 e').2, h4⟩
  | _ :: _, _, _, _, f, i + 1, ⟨e', es', h1, h2, h3, h4⟩, h5 => ⟨e', es'.modify i f, by rw [h1]; rfl, h2, h3, h4.set i h5⟩

/-- A map's entries are replaced. -/
theorem HR.mapTurn (h : HR E base ρ s w) {b : Nat} {es es' : List (AV × AV)} {l : Loc} {arr' : Array MapEntry} {cl : Nat} (hb : s.H.get b = some (.map es)) (hl : ρ b = some l) (he : EsR E ρ es' arr'.toList) :
    HR E base ρ ⟨s.H.set b (.map es'), s.nx, s.hi⟩ { w with heap := w.heap.setIfInBounds l.g (.map arr' cl) } ∧ Turn ρ s w ρ ⟨s.H.set b (.map es'), s.nx, s.hi⟩ { w with heap := w.heap.setIfInBounds l.g (.map arr' cl) } :=
  h.turn (o' := .map es') hb hl trivial ⟨rfl, rfl, rfl⟩ (by simp) (fun g hg => by simp [Array.getElem?_setIfInBounds_ne (Ne.symm hg)]) ⟨(h.at hb hl).1, arr', cl, by
    have := h.loc_lt hb hl
    simp [this], he⟩

theorem sameBits_key {d : TypeDesc} {k : AV} {u : Value} (hd : KeyIs d k) (hk : VR E ρ k u) : Instr.sameBits 10000 u u = true := by
  rcases hd with ⟨j0, m0, rfl, m1, rfl⟩ | ⟨rfl, l0, rfl⟩ | ⟨rfl, l0, rfl⟩
  · rw [hk.of_int]; simp [Instr.sameBits]
  · obtain ⟨rfl, h5⟩ := hk
    simp [Instr.sameBits, bsOf_inj h5 h5]
  · rw [hk.of_bool]; simp [Instr.sameBits]

theorem good_mapUpdate (t : TypeId) (m k x : Operand) (ho : o.op = .mapUpdate t m k x ∨ o.op = .insert t m k x) (hf : FR E ρ tm a.tmps) (hg : Glob E X P ρ) (h : HR E base ρ s w) (he : evOp P tm s o = some r) : Good E P base ρ s w (execOp a.eval o) r := by
  have hex : execOp a.eval o = (do Instr.mapUpdate t (a.eval m) (a.eval k) (a.eval x); pure .skip) := by rcases ho with ho | ho <;> simp only [execOp, ho]
  rw [hex]
  have he' : s.mapUp P t (rd P tm m) (rd P tm k) (rd P tm x) = some r := by rcases ho with ho | ho <;> simpa only [evOp, ho] using he
  unfold St.mapUp at he'
  clear he hex
  split at he'
  · rename_i kt e b key v hu h1 h2 h3
    obtain ⟨l, hl, hm⟩ := rd_ok hf hg h1
    have hk := rd_ok hf hg h2
    have hx := rd_ok hf hg h3
    split at he'
    · rename_i hko
      split at he'
      · rename_i es hb
        obtain ⟨es', h4, rfl⟩ := Option.map_eq_some_iff.1 he'
        have hat := h.at hb hl
        obtain ⟨_, arr, cl, h5, h6⟩ := hat
        have hc := fun b => (keyOk_ok (w := w) hko hk b).1
        obtain ⟨d, hd, hki⟩ := (keyOk_ok (w := w) hko hk true).2
        unfold mapPut at h4
        split at h4
        · rename_i i v0 h7
          simp only [Option.some.injEq] at h4
          subst h4
          rcases findNow_ok hki hk h6 h7 with ⟨h8, _⟩ | ⟨j', v1, v', h8, h9, h10, h11, e', h12, h13, _⟩
          · cases h8
          · simp only [Option.some.injEq, Prod.mk.injEq] at h8
            obtain ⟨rfl, rfl⟩ := h8
            have hfk := run_findKeyA (w := w) hd h9
            rw [Nat.sub_zero] at h12
            have h12' : arr[i]? = some e' := by simpa using h12
            have hn := h.mapTurn (arr' := arr.modify i fun e => { e with key := a.eval k, val := a.eval x }) (cl := cl) hb hl (by
              rw [Array.toList_modify]
              exact h6.set i fun e => ⟨hk, hx⟩)
            refine ⟨ρ, _, ?_, hn.1, hn.2⟩
            simp [Instr.mapUpdate, underlying, hu, hm, getObj, setObj, Sem.run, h5, hc, hfk, h12', h13, Instr.keyThatStays, sameBits_key hki hk]
        · rename_i h7
          simp only [Option.some.injEq] at h4
          subst h4
          rcases findNow_ok hki hk h6 h7 with ⟨_, h9⟩ | ⟨j', v1, v', h8, _⟩
          · have hfk := run_findKeyA (w := w) hd h9
            have hn := h.mapTurn (arr' := arr.push { key := a.eval k, val := a.eval x, born := cl }) (cl := cl + 1) hb hl (by
              rw [Array.toList_push]
              exact h6.push hk hx)
            refine ⟨ρ, _, ?_, hn.1, hn.2⟩
            simp [Instr.mapUpdate, underlying, hu, hm, getObj, setObj, Sem.run, h5, hc, hfk]
          · cases h8
        · cases h4
      · cases he'
    · cases he'
  · cases he'
end
end Go.Proofs.YtjaaajmiojigbaaGreatDoor
