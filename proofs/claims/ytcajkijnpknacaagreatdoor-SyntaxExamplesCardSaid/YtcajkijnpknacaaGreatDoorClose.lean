/- (*parser).parenthesis where a list is closed; 'add' and 'parenthesis' over the parser's state. -/
import Derived.Test.YtcajkijnpknacaaGreatDoorParen
namespace Go.Proofs.YtcajkijnpknacaaGreatDoor
open Go.RowKit
attribute [local go_sem ↓] Go.wp_at_zero Go.wp_at_succ

section
variable {w w' : World} {F : Fixed} {base pb : Nat} {s : ByteArray} {pos : Nat} {st : Stack} {ob cap : Nat} {cur : Array Value} {cvs : List Value}

theorem ownsRow_slice {w : World} {base : Nat} {e : TypeId} {size : Nat} {v : Value} {n : Nat} {xs : List Value} (h : w.ownsRow base e size v n xs) : ∃ a c, v = .slice a n c := by
  rcases h.2 with ⟨rfl, rfl⟩ | ⟨g, c, cur, rfl, _⟩
  · exact ⟨_, _, rfl⟩
  · exact ⟨_, _, rfl⟩

theorem add_ps {p : Nat} {l : Fr} {cv : Value} (h : PS w F base pb s pos ((p, l) :: st) ob cap cur (cv :: cvs)) {k : Int} {t : List UInt8} {kids : Fr} {o : Int} {ka : Option Addr} {kn kc : Nat} (hk : Rd w F 4 kids.dat (.slice ka kn kc)) (hl : l.len ≤ 65536) :
    Calls Tryz.prog 88 #[.pointer (some ⟨pb, 0, none⟩), .agg #[.int .i64 k, .string ⟨t.toArray⟩, .slice ka kn kc, .int .i64 o]] w fun e w' =>
      e = .returned (.tuple #[]) ∧ (∃ F', PState w' F' base pb s pos ((p, l.app (.cons k t kids o .nil)) :: st)) ∧ Below base w w' := by
  obtain ⟨ys, hown, henc⟩ := h.ok.1.own
  obtain ⟨ca, cc, rfl⟩ := ownsRow_slice hown
  have hcap := h.hcap
  unfold maxLen at hcap
  refine (add_any w base pb ob st.length cap cur ca l.len cc ys k o ⟨t.toArray⟩ ka kn kc (by simpa using h.p2) h.ho (by simpa using h.hle) (by omega) h.top.1 hown hl h.bw (h.far _ (by simp)).2).mono ?_
  rintro e w' ⟨rfl, g, c2, hA⟩
  exact ⟨rfl, h.added hown henc hk hA⟩

theorem PS.popped {p : Nat} {l : Fr} {cv : Value} (h : PS w F base pb s pos ((p, l) :: st) ob cap cur (cv :: cvs))
    (hw : w'.heap[pb]? = some (.cells #[.string s, .int .i64 pos, .slice (some ⟨ob, 0, none⟩) st.length cap] 87 (0, 0))) (hs : w.heap.size ≤ w'.heap.size) (hb : ∀ b, b < w.heap.size → b ≠ pb → w'.heap[b]? = w.heap[b]?) :
    PS w' F base pb s pos st ob cap cur cvs ∧ Rd w' F 4 l.dat cv := by
  have hx : Fix F w w' := fun b o hf => World.cell?_of_block (hb b (h.fw b o hf) (by rintro rfl; exact h.fp o hf))
  obtain ⟨⟨⟨ys, hown, henc⟩, hfix⟩, hdist, hrest⟩ := h.ok
  have hle := h.hle
  refine ⟨⟨hw, (hb _ h.lo (Ne.symm h.hpo)).trans h.ho, h.hcs, by simp at hle; omega, h.hcap, ?_, hrest.turn hx (fun _ _ h => h) (fun u hu b e => ⟨hb b (StOk.lt e hrest hu) ?_, fun _ h => h⟩), h.hpo, h.bp, h.bo, h.fp, h.fo, fun u hu => h.far u (by simp [hu]), Nat.le_trans h.bw hs, fun b j hf => Nat.lt_of_lt_of_le (h.fw b j hf) hs, h.fb⟩, ?_⟩
  · have hc := h.cells
    have hl := stCells_len hrest.len
    have h1 : cur.toList.take (st.length * 4) = (cur.toList.take (((p, l) :: st).length * 4)).take (st.length * 4) := by
      rw [List.take_take]; congr 1; simp only [List.length_cons]; omega
    rw [h1, hc]
    simp only [stCells]
    rw [← hl, List.take_left]
  · rintro rfl
    exact (h.far u (by simp [hu])).1 e
  · refine ⟨ys, ?_, henc.mono hx fun _ _ h => h⟩
    refine RowAt.mono (w := w) (F := F) ?_ hx fun _ _ h => h
    rcases hown.2 with ⟨rfl, h0⟩ | ⟨g, c, cur', rfl, _, hg, h1, h2, h3, h4⟩
    · refine .inl ⟨rfl, List.eq_nil_of_length_eq_zero ?_⟩
      rw [hown.1, h0]
    · refine .inr ⟨g, 0, l.len, c, rfl, h1, h2, hown.1, fun j u hu => ?_⟩
      have hj : j < l.len * 4 := by
        have := (List.getElem?_eq_some_iff.1 hu).1
        rw [hown.1] at this
        exact this
      rw [Nat.zero_add]
      refine ⟨(hfix g rfl j).2 hj, ?_⟩
      have := hown.cells (g := g) rfl j u hu
      rwa [Addr.add_lit, Nat.zero_add] at this

set_option maxRecDepth 100000 in
set_option maxHeartbeats 1600000 in
theorem paren_close {p p' : Nat} {l l' : Fr} {cv cv' : Value} (h : PS w F base pb s pos ((p, l) :: (p', l') :: st) ob cap cur (cv :: cv' :: cvs)) (hlt : pos < s.size) (hs : s.size ≤ 65536) (hc : ((s[pos].toNat : Int) == 40) = false) (hn : st.length ≤ 65536) (hl : l'.len ≤ 65536) :
    Calls Tryz.prog 53 #[.pointer (some ⟨pb, 0, none⟩)] w fun e w' => e = .returned (.tuple #[]) ∧ (∃ F', PState w' F' base pb s (pos + 1) ((p', l'.app (.cons 3 [] l p .nil)) :: st)) ∧ Below base w w' := by
  have i0 : (0 : Int) ≤ (pos : Int) := by omega
  have i1 : (pos : Int) < (s.size : Int) := by omega
  obtain ⟨ys, hown, henc⟩ := h.ok.1.own
  obtain ⟨ka, kc, rfl⟩ := ownsRow_slice hown
  have p0 := h.p0
  have p1 := h.p1
  have p2 : w.cell? ⟨pb, 2, none⟩ = some (.slice (some ⟨ob, 0, none⟩) (st.length + 1 + 1) cap) := h.p2
  have pf := h.pf 2
  have lp := h.lp
  have lo := h.lo
  obtain ⟨t2, t3, t0, t1⟩ := h.top
  have c0 : w.cell? ⟨ob, (st.length + 1) * 4, none⟩ = some (.int .i64 3) := by rw [cell_of_row w _ _ _ _ _ h.ho]; exact t0
  have c1 : w.cell? ⟨ob, (st.length + 1) * 4 + 1, none⟩ = some (.string ⟨#[]⟩) := by rw [cell_of_row w _ _ _ _ _ h.ho]; exact t1
  have c2 : w.cell? ⟨ob, (st.length + 1) * 4 + 2, none⟩ = some (.slice ka l.len kc) := by rw [cell_of_row w _ _ _ _ _ h.ho]; exact t2
  have c3 : w.cell? ⟨ob, (st.length + 1) * 4 + 3, none⟩ = some (.int .i64 p) := by rw [cell_of_row w _ _ _ _ _ h.ho]; exact t3
  have hle : st.length + 1 + 1 ≤ cap := h.hle
  have hcap := h.hcap
  unfold maxLen at hcap
  have hpo : ¬ pb = ob := h.hpo
  have H := Lib.hid h
  clear h t0 t1 t2 t3 hown henc
  have g1 : (((st.length : Int) + 1) == 0) = false := by simp; omega
  go_enter Tryz.func53, Tryz.ntmps53
  go_wp2_with fail
  go_quiet (fail)
  rename Nat => m1
  go_wp2_with fail
  go_quiet (fail)
  rename Nat => m2
  obtain ⟨W, hW⟩ : ∃ W, w.drewN (m1 + m2) = W := ⟨_, rfl⟩
  have hW' : (w.drewN m1).drewN m2 = W := by rw [← hW]; simp
  first | rw [hW] | rw [hW']
  have d0 : W.cell? ⟨ob, (st.length + 1) * 4, none⟩ = some (.int .i64 3) := by rw [← hW]; exact c0
  have d1 : W.cell? ⟨ob, (st.length + 1) * 4 + 1, none⟩ = some (.string ⟨#[]⟩) := by rw [← hW]; exact c1
  have d2 : W.cell? ⟨ob, (st.length + 1) * 4 + 2, none⟩ = some (.slice ka l.len kc) := by rw [← hW]; exact c2
  have d3 : W.cell? ⟨ob, (st.length + 1) * 4 + 3, none⟩ = some (.int .i64 p) := by rw [← hW]; exact c3
  have q2 : W.cell? ⟨pb, 2, none⟩ = some (.slice (some ⟨ob, 0, none⟩) (st.length + 1 + 1) cap) := by rw [← hW]; exact p2
  have qf : W.frozen? ⟨pb, 2, none⟩ = false := by rw [← hW]; exact pf
  have HW : PS W F base pb s pos ((p, l) :: (p', l') :: st) ob cap cur (.slice ka l.len kc :: cv' :: cvs) := by rw [← hW]; exact H.out.ext (Nat.le_refl _) fun _ _ => rfl
  have HB : Below base w W := by rw [← hW]; exact ⟨rfl, rfl, rfl, Nat.le_refl _, fun _ _ => rfl⟩
  have lp' := HW.lp
  have lo' := HW.lo
  have HP := Lib.hid HW
  have HBB := Lib.hid HB
  clear HW HB hW hW' H p0 p1 p2 pf c0 c1 c2 c3 lp lo
  go_wp2_with fail
  obtain ⟨V, hV⟩ : ∃ V, (W.setCell ⟨pb, 2, none⟩ (.slice (some ⟨ob, 0, none⟩) (List.length st + 1) cap)).alloc (.cells #[.int .i64 3, .string ⟨#[]⟩, .slice ka l.len kc, .int .i64 p] 64) = V := ⟨_, rfl⟩
  rw [hV]
  have hVp := HP.out.popped (w' := V) (by rw [← hV, Below.heap_alloc _ _ _ (by rw [(setCell_same W _ _).1]; exact lp'), setCell_row HP.out.hp]; rfl) (by rw [← hV]; simp [World.setCell]) (fun b hb hne => by rw [← hV, Below.heap_alloc _ _ _ (by rw [(setCell_same W _ _).1]; exact hb)]; exact setCell_far hne)
  have hVb : Below base W V := by
    rw [← hV]
    exact ((Below.refl base W).setCell HP.out.bp _).alloc (by rw [(setCell_same W _ _).1]; exact HP.out.bw) _
  clear hV
  refine (add_ps (t := []) (kids := l) hVp.1 hVp.2 hl).mono ?_
  rintro e w2 ⟨rfl, ⟨F2, ob2, cap2, cur2, cvs2, h2⟩, hb2⟩
  have r1 := h2.p1
  have rf := h2.pf 1
  have H2 := Lib.hid h2
  have Hb2 := Lib.hid hb2
  have HVb := Lib.hid hVb
  clear h2 hb2 hVb hVp
  go_wp2_with fail
  go_end0
  exact ⟨rfl, ⟨F2, ob2, cap2, cur2, cvs2, by have := H2.out.setPos (pos + 1); rwa [Int.natCast_add] at this⟩, ((HBB.out.trans HVb.out).trans Hb2.out).setCell H2.out.bp _⟩
end
end Go.Proofs.YtcajkijnpknacaaGreatDoor
