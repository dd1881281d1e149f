/- Append: the evaluator's answer. -/
import Derived.Test.YtjaaajmiojigbaaGreatDoorOpC
namespace Go.Proofs.YtjaaajmiojigbaaGreatDoor
open Go Go.RowKit
variable {E : Env} {X : Ctx}

section
variable {P : Program} {base : Nat} {ρ : Mp} {s s' : St} {w : World} {tm : Tr AV} {a : Act} {o : Oper} {r : ARes}

theorem take_left' {α : Type} {x y : List α} {n : Nat} (h : n = x.length) : (x ++ y).take n = x := by subst h; simp

theorem growA_ok {t u ty e : TypeId} {i : TypeInfo} {zv : Value} {du : TypeDesc} {x v : AV} {m : Nat} {cs : List AV} {xv yv : Value} {news : Array Value} (hgr : growA s i x m cs = some (v, s')) (hcl : cs.length = m * i.size) (hone : cs.all AV.one = true)
    (ht : P.underlying t = some (.slice e)) (hi : P.info? e = some i) (hzv : i.zero = some zv) (hzs : zv.cells.size = i.size) (hm6 : m ≤ 1000000) (hu : P.underlying u = some du) (hd : ∀ k, du ≠ .int k) (h : HR E base ρ s w) (hx : VR E ρ x xv)
    (hl : (Builtin.lenOf yv).run P w = .ok m w) (hnews : VRs E ρ cs news.toList) (hf : ∀ w' : World, w'.heap = w.heap → (Builtin.firstCells i.size m yv).run P w' = .ok news w') :
    ∃ uu σ w', (Builtin.append_ #[t, u] ty #[xv, yv]).run P w = .ok uu w' ∧ VR E σ v uu ∧ HR E base σ s' w' ∧ Turn ρ s w σ s' w' := by
  have hnl : news.toList.length = cs.length := hnews.length
  have hts : news.toList.length = news.size := Array.length_toList
  unfold growA at hgr
  split at hgr
  · have hx : xv = .slice none 0 0 := hx
    subst hx
    split at hgr
    · rename_i hm
      subst hm
      simp only [Option.some.injEq, Prod.mk.injEq] at hgr
      obtain ⟨rfl, rfl⟩ := hgr
      have hr := run_app_room (ty := ty) (ba := none) (n := 0) (cap := 0) ht hi hu hd hl (hf w rfl) (Nat.le_refl _)
      exact ⟨_, ρ, w, by rw [hr]; simp, rfl, h, Turn.refl h⟩
    · rename_i hm
      split at hgr
      · rename_i hby
        simp only [Option.some.injEq, Prod.mk.injEq] at hgr
        obtain ⟨rfl, rfl⟩ := hgr
        have hr := run_app_grow (ty := ty) (ba := none) (n := 0) (cap := 0) (olds := #[]) ht hi hzv hu hd hl (hf w.drew rfl) (by simp [Builtin.firstCells]) (by omega) (by omega) (by simpa using hby)
        have hge := grownCap_ge w (0 + m) 0 e
        have hlm := grownCap_le_maxLen w (0 + m) 0 e (by unfold maxLen; omega)
        generalize grownCap w (0 + m) 0 e = nc at hr hge hlm
        have hn := h.cells (cs := cs) (arr := #[] ++ news ++ Builtin.zeroCells zv.cells (nc - (0 + m))) e (w.drew.alloc (.cells (#[] ++ news ++ Builtin.zeroCells zv.cells (nc - (0 + m))) e)) ⟨rfl, rfl, rfl⟩ rfl (by
          rw [Array.toList_append, Array.toList_append, List.nil_append, take_left' hnl.symm]
          exact hnews)
        refine ⟨_, _, _, hr, ?_, hn.1, hn.2⟩
        rw [Nat.zero_add] at *
        refine ⟨_, nc, Mp.on_same _ _ _, rfl, Nat.le_refl _, hge, hlm, ?_⟩
        have hzc : (Builtin.zeroCells zv.cells (nc - m)).size = (nc - m) * i.size := by unfold Builtin.zeroCells; simp [hzs]
        have hns : news.size = m * i.size := by rw [← hcl, ← hnl]; simp
        simp only [Array.size_append, hzc, hns, List.size_toArray, List.length_nil]
        have : nc * i.size = m * i.size + (nc - m) * i.size := by rw [← Nat.add_mul]; congr 1; omega
        omega
      · cases hgr
  · rename_i b q n c z
    obtain ⟨l, cap, h1, rfl, h3, h4, h5, h6⟩ := hx
    split at hgr
    rotate_left
    · cases hgr
    rename_i hz
    subst hz
    split at hgr
    · rename_i hroom
      split at hgr
      · rename_i vs k hb
        simp only [Option.some.injEq, Prod.mk.injEq] at hgr
        obtain ⟨rfl, rfl⟩ := hgr
        have hr := run_app_room (ty := ty) (ba := some ⟨l.g, l.d + q, none⟩) (n := n) (cap := cap) ht hi hu hd hl (hf w rfl) (by omega)
        have hmul : (n + m) * i.size ≤ cap * i.size := Nat.mul_le_mul_right _ (by omega)
        rw [Nat.add_mul] at hmul
        obtain ⟨w', h7, h8, h9⟩ := h.fill (P := P) (q := q + n * i.size) hb h1 hnews hone (by omega)
        simp only [Addr.add_lit, Nat.add_assoc, h7, Result.andThen_ok] at hr
        exact ⟨_, ρ, w', hr, ⟨l, cap, h1, rfl, by omega, h4, h5, h6⟩, h8, h9⟩
      · cases hgr
    · rename_i hroom
      split at hgr
      rotate_left
      · cases hgr
      rename_i hfit
      split at hgr
      rotate_left
      · cases hgr
      rename_i vs k old hb hld
      simp only [Option.some.injEq, Prod.mk.injEq] at hgr
      obtain ⟨rfl, rfl⟩ := hgr
      obtain ⟨olds, h7, h8, h9⟩ := h.load h1 hld
      have holen : old.length = n * i.size := by rw [← h7.length]; exact h8
      have hat := h.at hb h1
      obtain ⟨arr, e', fr, g1, g2, g3, g4, g5⟩ := hat
      obtain ⟨hbase, rfl⟩ := g5 rfl
      have g2 := g2 rfl
      by_cases hin : n + m ≤ cap
      · have hr := run_app_room (ty := ty) (ba := some ⟨l.g, l.d + q, none⟩) (n := n) (cap := cap) ht hi hu hd hl (hf w rfl) hin
        have hmul : (n + m) * i.size ≤ cap * i.size := Nat.mul_le_mul_right _ hin
        rw [Nat.add_mul] at hmul
        have hrun := run_storeCells_at (P := P) l.g (l.d + q + n * i.size) e' news.toList 0 arr w g1 (by omega) (hnews.one hone)
        rw [Nat.add_zero] at hrun
        simp only [Addr.add_lit, hrun, Result.andThen_ok] at hr
        have hx' := (h7.append hnews).mono (Mp.on_ext (l := ⟨l.g, l.d + q, l.m - q⟩) (h.fresh.1))
        refine ⟨.slice (some ⟨l.g, l.d + q, none⟩) (n + m) cap, ρ.on s.nx ⟨l.g, l.d + q, l.m - q⟩, _, hr, ⟨_, cap, Mp.on_same _ _ _, rfl, Nat.le_refl _, hin, h5, by simp; omega⟩, h.move (o' := .cells false (writeN .leaf 0 (old ++ cs)) (old ++ cs).length) (l' := ⟨l.g, l.d + q, l.m - q⟩) hb h1 rfl ⟨rfl, rfl, rfl⟩ (by simp [World.setRow]) (fun g _ hg => setRow_other w l.g g _ hg) (.inl rfl) hbase
          ⟨_, e', (0, 0), setRow_heap w l.g arr _ e' _ g1, ?_, ?_, fun j x hj => ?_, fun _ => ⟨hbase, rfl⟩⟩⟩
        · simp; omega
        · simp; omega
        · rcases writeN_get hj with ⟨_, k1⟩ | ⟨_, k1⟩
          · rw [Nat.sub_zero] at k1
            obtain ⟨uv, k2, k3⟩ := hx'.get k1
            refine ⟨(List.getElem?_eq_some_iff.1 k1).1, uv, ?_, k3⟩
            have hjl : j < olds.length + news.toList.length := by have := (List.getElem?_eq_some_iff.1 k2).1; simpa using this
            dsimp only
            rw [List.getElem?_toArray]
            by_cases hjo : j < olds.length
            · rw [List.getElem?_append_left hjo] at k2
              have hc := h9 j uv k2
              rw [cell_of_row w _ _ _ _ _ g1] at hc
              rw [List.append_assoc, List.getElem?_append_left (by simp; omega), List.getElem?_take_of_lt (by omega)]
              simpa using hc
            · rw [List.getElem?_append_right (by omega)] at k2
              rw [List.append_assoc, List.getElem?_append_right (by simp; omega), List.getElem?_append_left (by simp; simp at hjl; omega)]
              simp only [List.length_take, Array.length_toList]
              rw [show l.d + q + j - min (l.d + q + n * i.size) arr.size = j - olds.length by omega]
              exact k2
          · cases k1
      · have hfo : (Builtin.firstCells i.size n (.slice (some ⟨l.g, l.d + q, none⟩) n cap)).run P w.drew = .ok olds.toArray w.drew := by
          have := run_loadCells_list (P := P) w.drew ⟨l.g, l.d + q, none⟩ olds (fun j u hj => by rw [cell_of_heap (w := w) (w' := w.drew) rfl, Addr.add_lit]; exact h9 j u hj)
          rw [h8] at this
          simp only [Builtin.firstCells]
          exact this
        have hr := run_app_grow (ty := ty) ht hi hzv hu hd hl (hf w.drew rfl) hfo (by omega) (by omega) hfit.2
        have hge := grownCap_ge w (n + m) cap e
        have hlm := grownCap_le_maxLen w (n + m) cap e (by unfold maxLen; omega)
        generalize grownCap w (n + m) cap e = nc at hr hge hlm
        have hx' := (h7.append hnews).mono (Mp.on_ext (l := ⟨w.heap.size, 0, (olds.toArray ++ news ++ Builtin.zeroCells zv.cells (nc - (n + m))).size⟩) (h.fresh.1))
        have hol : olds.length = old.length := h7.length
        have hns0 : news.size = cs.length := by rw [← hnl]; simp
        have hmv := h.move (o' := .cells false (writeN .leaf 0 (old ++ cs)) (old ++ cs).length) (l' := ⟨w.heap.size, 0, (olds.toArray ++ news ++ Builtin.zeroCells zv.cells (nc - (n + m))).size⟩) (w' := w.drew.alloc (.cells (olds.toArray ++ news ++ Builtin.zeroCells zv.cells (nc - (n + m))) e)) hb h1 rfl ⟨rfl, rfl, rfl⟩ (by simp) (fun g hg _ => heap_alloc_old w.drew _ g hg) (.inr (Nat.le_refl _)) h.base
          ⟨_, e, (0, 0), heap_alloc_new w.drew _, by simp, by simp only [List.length_append, Array.size_append, List.size_toArray]; omega, fun j x hj => ?_, fun _ => ⟨h.base, rfl⟩⟩
        · refine ⟨_, _, _, hr, ⟨_, nc, Mp.on_same _ _ _, rfl, Nat.le_refl _, hge, hlm, ?_⟩, hmv.1, hmv.2⟩
          have hzc : (Builtin.zeroCells zv.cells (nc - (n + m))).size = (nc - (n + m)) * i.size := by unfold Builtin.zeroCells; simp [hzs]
          have hns : news.size = m * i.size := by rw [← hcl, ← hnl]; simp
          simp only [Array.size_append, hzc, hns, List.size_toArray, h8]
          have : nc * i.size = n * i.size + m * i.size + (nc - (n + m)) * i.size := by rw [← Nat.add_mul, ← Nat.add_mul]; congr 1; omega
          omega
        · rcases writeN_get hj with ⟨_, k1⟩ | ⟨_, k1⟩
          · rw [Nat.sub_zero] at k1
            obtain ⟨uv, k2, k3⟩ := hx'.get k1
            refine ⟨(List.getElem?_eq_some_iff.1 k1).1, uv, ?_, k3⟩
            have hjl := (List.getElem?_eq_some_iff.1 k2).1
            show (olds.toArray ++ news ++ Builtin.zeroCells zv.cells (nc - (n + m)))[0 + j]? = some uv
            rw [Nat.zero_add, Array.getElem?_append_left (by simpa using hjl), ← k2, ← Array.getElem?_toList]
            simp
          · cases k1
  · cases hgr
end
end Go.Proofs.YtjaaajmiojigbaaGreatDoor
