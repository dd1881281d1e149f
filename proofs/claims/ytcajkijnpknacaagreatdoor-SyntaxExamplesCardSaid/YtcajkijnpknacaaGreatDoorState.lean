/- The state of the parser in memory, and what each kind of step does to it. -/
import Derived.Test.YtcajkijnpknacaaGreatDoorAdd
namespace Go.Proofs.YtcajkijnpknacaaGreatDoor
open Go.RowKit

/-- The cells of a row of nodes. -/
def Fr.dat : Fr → Dat
  | .nil => .nil
  | .cons k t c o r => .val (.int .i64 k) (.val (.string ⟨t.toArray⟩) (.row 4 c.dat (.val (.int .i64 o) r.dat)))

theorem Fr.dat_app : ∀ (a b : Fr), (a.app b).dat = a.dat.app b.dat
  | .nil, _ => rfl
  | .cons _ _ _ _ r, b => by simp [Fr.app, Fr.dat, Dat.app, Fr.dat_app r b]
theorem Fr.dat_len : ∀ a : Fr, a.dat.len = a.len * 4
  | .nil => rfl
  | .cons _ _ _ _ r => by simp [Fr.dat, Dat.len, Fr.len, Fr.dat_len r]; omega

def openCells (k : Int) (cv : Value) (p : Nat) : List Value := [.int .i64 k, .string ⟨#[]⟩, cv, .int .i64 p]
def kindOf (st : Stack) : Int := if st.isEmpty then 0 else 3
def stCells : Stack → List Value → List Value
  | (p, _) :: st, cv :: cvs => stCells st cvs ++ openCells (kindOf st) cv p
  | _, _ => []

/-- The row of one open list: it may be appended to. -/
structure Own1 (w : World) (F : Fixed) (base : Nat) (cv : Value) (l : Fr) : Prop where
  own : ∃ ys, w.ownsRow base 64 4 cv l.len ys ∧ Enc w F l.dat ys
  fixed : ∀ b, cv.ownBlock = some b → ∀ j, F b j ↔ j < l.len * 4

def StOk (w : World) (F : Fixed) (base : Nat) : Stack → List Value → Prop
  | [], [] => True
  | (_, l) :: st, cv :: cvs => Own1 w F base cv l ∧ (∀ u ∈ cvs, ∀ b, cv.ownBlock = some b → u.ownBlock ≠ some b) ∧ StOk w F base st cvs
  | _, _ => False

theorem StOk.len {w : World} {F : Fixed} {base : Nat} : ∀ {st : Stack} {cvs : List Value}, StOk w F base st cvs → cvs.length = st.length
  | [], [], _ => rfl
  | (_, _) :: _, _ :: _, ⟨_, _, h⟩ => by simp [h.len]
theorem stCells_len : ∀ {st : Stack} {cvs : List Value}, cvs.length = st.length → (stCells st cvs).length = st.length * 4
  | [], [], _ => rfl
  | (_, _) :: st, _ :: cvs, h => by
    simp only [List.length_cons, Nat.add_right_cancel_iff] at h
    simp [stCells, openCells, stCells_len h]; omega

theorem ownsRow_of_block {w w' : World} {base : Nat} {e : TypeId} {size : Nat} {v : Value} {n : Nat} {xs : List Value} (h : w.ownsRow base e size v n xs) (hb : ∀ b, v.ownBlock = some b → w'.heap[b]? = w.heap[b]?) : w'.ownsRow base e size v n xs := by
  refine ⟨h.1, ?_⟩
  rcases h.2 with hn | ⟨g, cap, cur, rfl, hb0, hgg, rest⟩
  · exact .inl hn
  · exact .inr ⟨g, cap, cur, rfl, hb0, (hb g rfl).trans hgg, rest⟩

theorem Own1.turn {w w' : World} {F F' : Fixed} {base : Nat} {cv : Value} {l : Fr} (h : Own1 w F base cv l) (hx : Fix F w w') (hF : ∀ b j, F b j → F' b j)
    (hb : ∀ b, cv.ownBlock = some b → w'.heap[b]? = w.heap[b]? ∧ ∀ j, F' b j → F b j) : Own1 w' F' base cv l := by
  obtain ⟨⟨ys, h1, h2⟩, h3⟩ := h
  exact ⟨⟨ys, ownsRow_of_block h1 (fun b e => (hb b e).1), h2.mono hx hF⟩, fun b e j => ⟨fun hf => (h3 b e j).1 ((hb b e).2 j hf), fun hj => hF b j ((h3 b e j).2 hj)⟩⟩

theorem StOk.turn {w w' : World} {F F' : Fixed} {base : Nat} (hx : Fix F w w') (hF : ∀ b j, F b j → F' b j) :
    ∀ {st : Stack} {cvs : List Value}, StOk w F base st cvs → (∀ u ∈ cvs, ∀ b, u.ownBlock = some b → w'.heap[b]? = w.heap[b]? ∧ ∀ j, F' b j → F b j) → StOk w' F' base st cvs
  | [], [], _, _ => trivial
  | (_, _) :: _, cv :: _, ⟨h1, h2, h3⟩, hb => ⟨h1.turn hx hF (hb cv (by simp)), h2, StOk.turn hx hF h3 fun u hu => hb u (by simp [hu])⟩

theorem StOk.lt {w : World} {F : Fixed} {base b : Nat} {u : Value} (e : u.ownBlock = some b) : ∀ {st : Stack} {cvs : List Value}, StOk w F base st cvs → u ∈ cvs → b < w.heap.size
  | [], [], _, hm => by cases hm
  | (_, _) :: _, _ :: _, ⟨⟨⟨_, h1, _⟩, _⟩, _, h3⟩, hm => by
    rcases List.mem_cons.1 hm with rfl | hm
    · exact (h1.lt b e).2
    · exact StOk.lt e h3 hm

/-- The state of the parser: the text, the position, the open lists. -/
structure PS (w : World) (F : Fixed) (base pb : Nat) (s : ByteArray) (pos : Nat) (st : Stack) (ob cap : Nat) (cur : Array Value) (cvs : List Value) : Prop where
  hp : w.heap[pb]? = some (.cells #[.string s, .int .i64 pos, .slice (some ⟨ob, 0, none⟩) st.length cap] 87 (0, 0))
  ho : w.heap[ob]? = some (.cells cur 64 (0, 0))
  hcs : cur.size = cap * 4
  hle : st.length ≤ cap
  hcap : cap ≤ maxLen
  cells : cur.toList.take (st.length * 4) = stCells st cvs
  ok : StOk w F base st cvs
  hpo : pb ≠ ob
  bp : base ≤ pb
  bo : base ≤ ob
  fp : ∀ j, ¬ F pb j
  fo : ∀ j, ¬ F ob j
  far : ∀ u ∈ cvs, u.ownBlock ≠ some pb ∧ u.ownBlock ≠ some ob
  bw : base ≤ w.heap.size
  fw : ∀ b j, F b j → b < w.heap.size
  fb : ∀ b j, F b j → base ≤ b

def PState (w : World) (F : Fixed) (base pb : Nat) (s : ByteArray) (pos : Nat) (st : Stack) : Prop := ∃ ob cap cur cvs, PS w F base pb s pos st ob cap cur cvs

section
variable {w w' : World} {F : Fixed} {base pb : Nat} {s : ByteArray} {pos : Nat} {st : Stack} {ob cap : Nat} {cur : Array Value} {cvs : List Value}

theorem PS.lp (h : PS w F base pb s pos st ob cap cur cvs) : pb < w.heap.size := (Array.getElem?_eq_some_iff.1 h.hp).1
theorem PS.lo (h : PS w F base pb s pos st ob cap cur cvs) : ob < w.heap.size := (Array.getElem?_eq_some_iff.1 h.ho).1
theorem PS.p0 (h : PS w F base pb s pos st ob cap cur cvs) : w.cell? ⟨pb, 0, none⟩ = some (.string s) := by rw [cell_of_row w _ _ _ _ _ h.hp]; rfl
theorem PS.p1 (h : PS w F base pb s pos st ob cap cur cvs) : w.cell? ⟨pb, 1, none⟩ = some (.int .i64 pos) := by rw [cell_of_row w _ _ _ _ _ h.hp]; rfl
theorem PS.p2 (h : PS w F base pb s pos st ob cap cur cvs) : w.cell? ⟨pb, 2, none⟩ = some (.slice (some ⟨ob, 0, none⟩) st.length cap) := by rw [cell_of_row w _ _ _ _ _ h.hp]; rfl
theorem PS.pf (h : PS w F base pb s pos st ob cap cur cvs) (j : Nat) : w.frozen? ⟨pb, j, none⟩ = false := by simp [World.frozen?, h.hp]

/-- Nothing old has turned. -/
theorem PS.ext (h : PS w F base pb s pos st ob cap cur cvs) (hs : w.heap.size ≤ w'.heap.size) (hb : ∀ b, b < w.heap.size → w'.heap[b]? = w.heap[b]?) : PS w' F base pb s pos st ob cap cur cvs := by
  have hx : Fix F w w' := fun b o hf => World.cell?_of_block (hb b (h.fw b o hf))
  refine ⟨(hb _ h.lp).trans h.hp, (hb _ h.lo).trans h.ho, h.hcs, h.hle, h.hcap, h.cells, h.ok.turn hx (fun _ _ h => h) (fun u hu b e => ⟨?_, fun _ h => h⟩), h.hpo, h.bp, h.bo, h.fp, h.fo, h.far, Nat.le_trans h.bw hs, fun b j hf => Nat.lt_of_lt_of_le (h.fw b j hf) hs, h.fb⟩
  exact hb b (StOk.lt e h.ok hu)

/-- The position moves. -/
theorem PS.setPos (h : PS w F base pb s pos st ob cap cur cvs) (q : Nat) : PS (w.setCell ⟨pb, 1, none⟩ (.int .i64 q)) F base pb s q st ob cap cur cvs := by
  have hfar : ∀ b, b ≠ pb → (w.setCell ⟨pb, 1, none⟩ (.int .i64 q)).heap[b]? = w.heap[b]? := fun b hb => setCell_far hb
  have hx : Fix F w (w.setCell ⟨pb, 1, none⟩ (.int .i64 q)) := fun b o hf => World.cell?_of_block (hfar b (by rintro rfl; exact h.fp o hf))
  have hsz : (w.setCell ⟨pb, 1, none⟩ (.int .i64 q)).heap.size = w.heap.size := (setCell_same w _ _).1
  refine ⟨setCell_row h.hp, (hfar _ (Ne.symm h.hpo)).trans h.ho, h.hcs, h.hle, h.hcap, h.cells, h.ok.turn hx (fun _ _ h => h) (fun u hu b e => ⟨hfar b ?_, fun _ h => h⟩), h.hpo, h.bp, h.bo, h.fp, h.fo, h.far, by rw [hsz]; exact h.bw, by rw [hsz]; exact h.fw, h.fb⟩
  rintro rfl
  exact (h.far u hu).1 e

theorem PS.top {p : Nat} {l : Fr} {cv : Value} (h : PS w F base pb s pos ((p, l) :: st) ob cap cur (cv :: cvs)) : cur[st.length * 4 + 2]? = some cv ∧ cur[st.length * 4 + 3]? = some (.int .i64 p) ∧ cur[st.length * 4]? = some (.int .i64 (kindOf st)) ∧ cur[st.length * 4 + 1]? = some (.string ⟨#[]⟩) := by
  have hl := stCells_len h.ok.2.2.len
  have hg : ∀ j, j < 4 → cur[st.length * 4 + j]? = (openCells (kindOf st) cv p)[j]? := by
    intro j hj
    have h1 : (cur.toList.take (((p, l) :: st).length * 4))[st.length * 4 + j]? = cur[st.length * 4 + j]? := by
      rw [List.getElem?_take_of_lt (by simp; omega)]; simp
    rw [← h1, h.cells]
    simp only [stCells]
    rw [List.getElem?_append_right (by omega), hl]
    simp
  exact ⟨hg 2 (by omega), hg 3 (by omega), hg 0 (by omega), hg 1 (by omega)⟩

/-- One node more in the innermost open list. -/
theorem PS.added {p : Nat} {l : Fr} {cv : Value} (h : PS w F base pb s pos ((p, l) :: st) ob cap cur (cv :: cvs)) {ys : List Value} (hown : w.ownsRow base 64 4 cv l.len ys) (henc : Enc w F l.dat ys)
    {k o : Int} {t : List UInt8} {kids : Fr} {kv : Value} (hk : Rd w F 4 kids.dat kv) {g c2 : Nat}
    (hA : Added w w' base 64 ob 64 (st.length * 4 + 2) cur cv l.len ys [.int .i64 k, .string ⟨t.toArray⟩, kv, .int .i64 o] g c2) :
    (∃ F', PState w' F' base pb s pos ((p, l.app (.cons k t kids o .nil)) :: st)) ∧ Below base w w' := by
  have hcv := h.far cv (by simp)
  have hlt : ∀ b, cv.ownBlock = some b → base ≤ b ∧ b < w.heap.size := fun b e => hown.lt b e
  obtain ⟨htop, hdist, hrest⟩ := h.ok
  have hgo : g ≠ ob := by
    rintro rfl
    rcases hA.lies with e | e
    · exact hcv.2 e
    · have := h.lo; omega
  have hgp : g ≠ pb := by
    rintro rfl
    rcases hA.lies with e | e
    · exact hcv.1 e
    · have := h.lp; omega
  have hbg : base ≤ g := by
    rcases hA.lies with e | e
    · exact (hlt g e).1
    · exact Nat.le_trans h.bw e
  have hx : Fix F w w' := fun b j hf => hA.fix b j (h.fw b j hf) (by rintro rfl; exact h.fo j hf) (fun e => (htop.fixed b e j).1 hf)
  refine ⟨⟨fun b j => F b j ∨ (b = g ∧ j < (l.len + 1) * 4), ob, cap, _, .slice (some ⟨g, 0, none⟩) (l.len + 1) c2 :: cvs, ?_, hA.top, by simpa using h.hcs, h.hle, h.hcap, ?_, ⟨⟨⟨ys ++ [.int .i64 k, .string ⟨t.toArray⟩, kv, .int .i64 o], ?_, ?_⟩, ?_⟩, ?_, hrest.turn hx (fun _ _ hf => .inl hf) ?_⟩, h.hpo, h.bp, h.bo, ?_, ?_, ?_, Nat.le_trans h.bw hA.size, ?_, ?_⟩, ?_⟩
  · exact (hA.other pb h.lp h.hpo hcv.1).trans h.hp
  · have hl := stCells_len hrest.len
    have hc := h.cells
    simp only [stCells, List.length_cons] at hc ⊢
    have hsplit : cur.toList = stCells st cvs ++ (openCells (kindOf st) cv p ++ cur.toList.drop ((st.length + 1) * 4)) := by
      rw [← List.append_assoc, ← hc, List.take_append_drop]
    have hlen : (st.length + 1) * 4 = (stCells st cvs).length + 4 := by omega
    rw [Array.toList_setIfInBounds, hsplit, ← hl, hlen]
    simp [openCells, List.take_append, List.take_of_length_le]
  · rw [Fr.len_app]; exact hA.own
  · rw [Fr.dat_app]
    refine Enc.app (e := Fr.dat (.cons k t kids o .nil)) ?_ (henc.mono hx fun _ _ hf => .inl hf)
    obtain ⟨zs, hz1, hz2⟩ := hk
    exact ⟨_, rfl, _, rfl, kv, zs, _, rfl, hz1.mono hx fun _ _ hf => .inl hf, hz2.mono hx fun _ _ hf => .inl hf, _, rfl, rfl⟩
  · intro b e j
    have e' : g = b := by simpa [Value.ownBlock] using e
    subst e'
    rw [Fr.len_app]
    show F g j ∨ (g = g ∧ j < (l.len + 1) * 4) ↔ j < (l.len + 1) * 4
    refine ⟨fun hf => ?_, fun hj => .inr ⟨rfl, hj⟩⟩
    rcases hf with hf | hf
    · rcases hA.lies with e | e
      · have := (htop.fixed g e j).1 hf; omega
      · have := h.fw g j hf; omega
    · exact hf.2
  · intro u hu b e
    have e' : g = b := by simpa [Value.ownBlock] using e
    subst e'
    rcases hA.lies with e | e
    · exact hdist u hu g e
    · intro hu'
      have := StOk.lt hu' hrest hu
      omega
  · intro u hu b e
    have hbl : b < w.heap.size := StOk.lt e hrest hu
    have hne : cv.ownBlock ≠ some b := fun e' => hdist u hu b e' e
    have hbo : b ≠ ob := by rintro rfl; exact (h.far u (by simp [hu])).2 e
    refine ⟨hA.other b hbl hbo hne, fun j hf => ?_⟩
    rcases hf with hf | ⟨rfl, _⟩
    · exact hf
    · rcases hA.lies with e' | e'
      · exact (hne e').elim
      · omega
  · rintro j (hf | ⟨e, _⟩)
    · exact h.fp j hf
    · exact hgp e.symm
  · rintro j (hf | ⟨e, _⟩)
    · exact h.fo j hf
    · exact hgo e.symm
  · intro u hu
    rcases List.mem_cons.1 hu with rfl | hu
    · exact ⟨by simpa [Value.ownBlock] using hgp, by simpa [Value.ownBlock] using hgo⟩
    · exact h.far u (by simp [hu])
  · rintro b j (hf | ⟨rfl, _⟩)
    · exact Nat.lt_of_lt_of_le (h.fw b j hf) hA.size
    · rcases hA.own.2 with ⟨h1, _⟩ | ⟨g', cap', cur', h1, _, h2, _⟩
      · cases h1
      · injection h1 with e1
        injection e1 with e1
        injection e1 with e1
        rw [← e1] at h2
        exact (Array.getElem?_eq_some_iff.1 h2).1
  · rintro b j (hf | ⟨rfl, _⟩)
    · exact h.fb b j hf
    · exact hbg
  · refine ⟨hA.os, hA.tape, hA.output, hA.size, fun b hb => hA.other b (Nat.lt_of_lt_of_le hb h.bw) (by have := h.bo; omega) ?_⟩
    intro e
    have := (hlt b e).1
    omega
end
end Go.Proofs.YtcajkijnpknacaaGreatDoor
