/- Operations on memory: stores and new blocks. -/
import Derived.Test.YtofdflmobdinaaaGreatDoorOp2
namespace Go.Proofs.YtofdflmobdinaaaGreatDoor
open Go Go.RowKit
variable {E : Env} {X : Ctx}

theorem writeN_get {x : AV} : ∀ {cs : List AV} {vs : Tr AV} {o j : Nat}, (writeN vs o cs).get j = some x → (o ≤ j ∧ cs[j - o]? = some x) ∨ ((j < o ∨ o + cs.length ≤ j) ∧ vs.get j = some x)
  | [], vs, o, j, h => by
    refine .inr ⟨?_, h⟩
    simp only [List.length_nil, Nat.add_zero]
    omega
  | c :: r, vs, o, j, h => by
    simp only [writeN] at h
    rcases writeN_get (cs := r) h with ⟨h1, h2⟩ | ⟨h1, h2⟩
    · refine .inl ⟨by omega, ?_⟩
      have : j - o = (j - (o + 1)) + 1 := by omega
      rw [this, List.getElem?_cons_succ]
      exact h2
    · rcases Tr.get_set h2 with ⟨rfl, rfl⟩ | ⟨h3, h4⟩
      · exact .inl ⟨Nat.le_refl _, by simp⟩
      · refine .inr ⟨?_, h4⟩
        simp only [List.length_cons]
        omega

theorem VR.cells {ρ : Mp} {v : AV} {u : Value} (h : VR E ρ v u) : VRs E ρ v.cells u.cells.toList := by
  cases v with
  | agg cs => obtain ⟨xs, rfl, h2⟩ := h; simpa [AV.cells, Value.cells] using h2
  | tuple cs => obtain ⟨xs, rfl, h2⟩ := h; exact ⟨_, [], rfl, ⟨xs, rfl, h2⟩, rfl⟩
  | bool b => rw [show u = _ from h]; exact ⟨_, [], rfl, rfl, rfl⟩
  | int k n => rw [show u = _ from h]; exact ⟨_, [], rfl, rfl, rfl⟩
  | str l => obtain ⟨rfl, h2⟩ := h; exact ⟨_, [], rfl, ⟨rfl, h2⟩, rfl⟩
  | nilPtr => rw [show u = _ from h]; exact ⟨_, [], rfl, rfl, rfl⟩
  | ptr b o => obtain ⟨c, h1, rfl⟩ := h; exact ⟨_, [], rfl, ⟨c, h1, rfl⟩, rfl⟩
  | nilSlice => rw [show u = _ from h]; exact ⟨_, [], rfl, rfl, rfl⟩
  | emptyS => obtain ⟨x, c, rfl⟩ := h; exact ⟨_, [], rfl, ⟨x, c, rfl⟩, rfl⟩
  | slice b o n c z => obtain ⟨l, cap, h1, rfl, h2⟩ := h; exact ⟨_, [], rfl, ⟨l, cap, h1, rfl, h2⟩, rfl⟩
  | nilMap => rw [show u = _ from h]; exact ⟨_, [], rfl, rfl, rfl⟩
  | map b => obtain ⟨c, h1, rfl⟩ := h; exact ⟨_, [], rfl, ⟨c, h1, rfl⟩, rfl⟩
  | fn f x y => obtain ⟨xs, ys, rfl, h2⟩ := h; exact ⟨_, [], rfl, ⟨xs, ys, rfl, h2⟩, rfl⟩
  | nilFn => rw [show u = _ from h]; exact ⟨_, [], rfl, rfl, rfl⟩
  | iface t x => obtain ⟨y, rfl, h2⟩ := h; exact ⟨_, [], rfl, ⟨y, rfl, h2⟩, rfl⟩
  | nilIface => rw [show u = _ from h]; exact ⟨_, [], rfl, rfl, rfl⟩
  | yieldF => obtain ⟨l, rfl⟩ := h; exact ⟨_, [], rfl, ⟨l, rfl⟩, rfl⟩
  | sx e =>
    obtain ⟨d, h1, h2⟩ := h
    have : u.cells.toList = [u] := by rcases h2.form with ⟨k, n, rfl⟩ | ⟨b, rfl⟩ | ⟨l, rfl⟩ | ⟨a, n, c, rfl⟩ <;> rfl
    rw [this]
    exact ⟨_, [], rfl, ⟨d, h1, h2⟩, rfl⟩
  | gsl b e z => obtain ⟨l, cap, rows, h1, h2, rfl, h3⟩ := h; exact ⟨_, [], rfl, ⟨l, cap, rows, h1, h2, rfl, h3⟩, rfl⟩
  | fp a i j => obtain ⟨rows, k, n, row, arr, T, fr, g, q, h1, h2, h3, h4, rfl, h5⟩ := h; exact ⟨_, [], rfl, ⟨rows, k, n, row, arr, T, fr, g, q, h1, h2, h3, h4, rfl, h5⟩, rfl⟩
theorem VR.one {ρ : Mp} {v : AV} {u : Value} (h : VR E ρ v u) (h1 : v.one = true) : u.oneCell' = true := by
  cases v with
  | agg cs => cases h1
  | tuple cs => cases h1
  | str l => obtain ⟨rfl, _⟩ := h; rfl
  | ptr b o => obtain ⟨c, _, rfl⟩ := h; rfl
  | emptyS => obtain ⟨x, c, rfl⟩ := h; rfl
  | slice b o n c z => obtain ⟨l, cap, _, rfl, _⟩ := h; rfl
  | map b => obtain ⟨c, _, rfl⟩ := h; rfl
  | fn f x y => obtain ⟨xs, ys, rfl, _⟩ := h; rfl
  | iface t x => obtain ⟨y, rfl, _⟩ := h; rfl
  | yieldF => obtain ⟨l, rfl⟩ := h; rfl
  | sx e => obtain ⟨d, _, h2⟩ := h; rcases h2.form with ⟨k, n, rfl⟩ | ⟨b, rfl⟩ | ⟨l, rfl⟩ | ⟨a, n, c, rfl⟩ <;> rfl
  | gsl b e z => obtain ⟨l, cap, rows, _, _, rfl, _⟩ := h; rfl
  | fp a i j => obtain ⟨rows, k, n, row, arr, T, fr, g, q, _, _, _, _, rfl, _⟩ := h; rfl
  | _ => rw [show u = _ from h]; rfl
theorem VRs.one {ρ : Mp} : ∀ {as : List AV} {vs : List Value}, VRs E ρ as vs → as.all AV.one = true → ∀ u ∈ vs, u.oneCell' = true
  | [], _, h, _, u, hu => by rw [show _ = [] from h] at hu; cases hu
  | a :: as, _, ⟨x, xs, h1, h2, h3⟩, ha, u, hu => by
    simp only [List.all_cons, Bool.and_eq_true] at ha
    rw [h1] at hu
    rcases List.mem_cons.1 hu with rfl | hu
    · exact h2.one ha.1
    · exact h3.one ha.2 u hu

section
variable {P : Program} {base : Nat} {ρ : Mp} {s s' : St} {w : World} {tm : Tr AV} {a : Act} {o : Oper} {r : ARes}

/-- Cells are stored. -/
theorem HR.store (h : HR E base ρ s w) {b q : Nat} {cs : List AV} {xs : List Value} {l : Loc} (hl : ρ b = some l) (hx : VRs E ρ cs xs) (hs : s.store b q cs = some s') :
    ∃ w', (storeCells ⟨l.g, l.d + q, none⟩ xs).run P w = .ok () w' ∧ HR E base ρ s' w' ∧ Turn ρ s w ρ s' w' := by
  unfold St.store at hs
  split at hs
  · rename_i vs n hb
    split at hs
    · rename_i hc
      obtain ⟨hle, hone⟩ := hc
      simp only [Option.some.injEq] at hs
      subst hs
      obtain ⟨arr, e, fr, h1, h2, h3, h4, h5⟩ := h.at hb hl
      obtain ⟨hbase, rfl⟩ := h5 rfl
      have h2 := h2 rfl
      have hlen := hx.length
      have hrun := run_storeCells_at (P := P) l.g (l.d + q) e xs 0 arr w h1 (by omega) (hx.one hone)
      rw [Nat.add_zero] at hrun
      refine ⟨_, hrun, h.turn hb hl rfl ⟨rfl, rfl, rfl⟩ (by simp [World.setRow]) (fun g hg => setRow_other w l.g g _ hg) ⟨_, e, (0, 0), setRow_heap w l.g arr _ e _ h1, ?_, h3, fun j x hj => ?_, fun _ => ⟨hbase, rfl⟩⟩⟩
      · simp; omega
      · rcases writeN_get hj with ⟨h6, h7⟩ | ⟨h6, h7⟩
        · obtain ⟨v, h8, h9⟩ := hx.get h7
          have hlt : j - q < xs.length := (List.getElem?_eq_some_iff.1 h8).1
          refine ⟨by omega, v, ?_, h9⟩
          rw [List.getElem?_toArray, List.append_assoc, List.getElem?_append_right (by simp; omega), List.getElem?_append_left (by simp; omega)]
          simp only [List.length_take, Array.length_toList]
          rw [show l.d + j - min (l.d + q) arr.size = j - q by omega]
          exact h8
        · obtain ⟨h8, v, h9, h10⟩ := h4 j x h7
          refine ⟨h8, v, ?_, h10⟩
          rw [List.getElem?_toArray]
          rcases h6 with h6 | h6
          · rw [List.append_assoc, List.getElem?_append_left (by simp; omega), List.getElem?_take_of_lt (by omega)]
            simpa using h9
          · rw [List.getElem?_append_right (by simp; omega), List.getElem?_drop]
            simp only [List.length_append, List.length_take, Array.length_toList]
            rw [show l.d + q + xs.length + (l.d + j - (min (l.d + q) arr.size + xs.length)) = l.d + j by omega]
            simpa using h9
    · cases hs
  · cases hs

theorem good_store (t : TypeId) (x y : Operand) (ho : o.op = .store t x y) (hf : FR E ρ tm a.tmps) (hg : Glob E X P ρ) (h : HR E base ρ s w) (he : evOp P tm s o = some r) : Good E P base ρ s w (execOp a.eval o) r := by
  simp only [evOp, ho] at he
  split at he
  · rename_i p v h1 h2
    obtain ⟨s', h3, rfl⟩ := Option.map_eq_some_iff.1 he
    unfold St.storeVar at h3
    split at h3
    · rename_i b q
      obtain ⟨l, h4, h5⟩ := rd_ok hf hg h1
      split at h3
      · rename_i n hn
        split at h3
        · rename_i hlen
          have hc := (rd_ok hf hg h2).cells
          obtain ⟨w', h6, h7, h8⟩ := h.store (P := P) h4 hc h3
          refine ⟨ρ, w', ?_, h7, h8⟩
          have hsz : (a.eval y).cells.size = n := by rw [← hlen, ← hc.length]; simp
          simp only [execOp, ho, Instr.storeAt, h5, Instr.sureAddr, storeVar]
          simp [run_sizeOf' hn, hsz, h6]
        · cases h3
      · cases h3
    · cases h3
  · cases he

/-- New cells. -/
theorem HR.cells (h : HR E base ρ s w) {cs : List AV} {arr : Array Value} (e : TypeId) (w' : World) (ha : Alike w w') (hw : w'.heap = w.heap.push (.cells arr e (0, 0))) (hx : VRs E ρ cs (arr.toList.take cs.length)) :
    HR E base (ρ.on s.nx ⟨w.heap.size, 0, arr.size⟩) (s.cells cs) w' ∧ Turn ρ s w (ρ.on s.nx ⟨w.heap.size, 0, arr.size⟩) (s.cells cs) w' := by
  have hlen := hx.length
  have hal : arr.toList.length = arr.size := Array.length_toList
  rw [List.length_take, hal] at hlen
  have hx' := hx.mono (Mp.on_ext (l := ⟨w.heap.size, 0, arr.size⟩) (h.fresh.1))
  refine h.new _ arr.size ha (by simp [hw]) (fun g hg => by rw [hw, Array.getElem?_push, if_neg (by omega)]) ⟨arr, e, (0, 0), by rw [hw]; simp, by simp, by show cs.length ≤ arr.size; omega, fun j x hj => ?_, fun _ => ⟨h.base, rfl⟩⟩
  rcases writeN_get hj with ⟨_, h2⟩ | ⟨_, h2⟩
  · rw [Nat.sub_zero] at h2
    obtain ⟨v, h3, h4⟩ := hx'.get h2
    refine ⟨(List.getElem?_eq_some_iff.1 h2).1, v, ?_, h4⟩
    rw [List.getElem?_take_of_lt (List.getElem?_eq_some_iff.1 h2).1] at h3
    simpa using h3
  · cases h2
end
end Go.Proofs.YtofdflmobdinaaaGreatDoor
