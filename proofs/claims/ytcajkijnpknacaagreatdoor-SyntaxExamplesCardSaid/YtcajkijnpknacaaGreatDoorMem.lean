/- Memory that holds trees of slices: what stays fixed, what a list of cells stands for, and append with an exact frame. No program in sight. -/
import Derived.Below
import Derived.Deep.AppendLies
import Derived.Deep.Draws
import Derived.Lib.Hide
namespace Go.Proofs.YtcajkijnpknacaaGreatDoor
open Go.RowKit

/-- A list of cells: a plain value, or a slice whose elements have 'size' cells each. -/
inductive Dat where
  | nil : Dat
  | val (v : Value) (rest : Dat) : Dat
  | row (size : Nat) (kids : Dat) (rest : Dat) : Dat

def Dat.len : Dat → Nat
  | .nil => 0
  | .val _ r => r.len + 1
  | .row _ _ r => r.len + 1

def Dat.app : Dat → Dat → Dat
  | .nil, b => b
  | .val v r, b => .val v (r.app b)
  | .row s k r, b => .row s k (r.app b)

/-- Cells that stay as they are. -/
abbrev Fixed := Nat → Nat → Prop

def Fix (F : Fixed) (w w' : World) : Prop := ∀ b o, F b o → w'.cell? ⟨b, o, none⟩ = w.cell? ⟨b, o, none⟩
theorem Fix.refl (F : Fixed) (w : World) : Fix F w w := fun _ _ _ => rfl
theorem Fix.trans {F : Fixed} {a b c : World} (h : Fix F a b) (k : Fix F b c) : Fix F a c := fun x o hf => (k x o hf).trans (h x o hf)
theorem Fix.mono {F G : Fixed} {a b : World} (h : Fix F a b) (hg : ∀ x o, G x o → F x o) : Fix G a b := fun x o hf => h x o (hg x o hf)

/-- The slice value 'cv' has the cells 'ys', all of them fixed. -/
def RowAt (w : World) (F : Fixed) (size : Nat) (cv : Value) (ys : List Value) : Prop :=
  (cv = .slice none 0 0 ∧ ys = []) ∨
  ∃ b off n cap, cv = .slice (some ⟨b, off, none⟩) n cap ∧ n ≤ cap ∧ cap ≤ maxLen ∧ ys.length = n * size ∧
    ∀ j u, ys[j]? = some u → F b (off + j) ∧ w.cell? ⟨b, off + j, none⟩ = some u

def Enc (w : World) (F : Fixed) : Dat → List Value → Prop
  | .nil, xs => xs = []
  | .val v r, xs => ∃ zs, xs = v :: zs ∧ Enc w F r zs
  | .row sz kids r, xs => ∃ cv ys zs, xs = cv :: zs ∧ RowAt w F sz cv ys ∧ Enc w F kids ys ∧ Enc w F r zs

theorem RowAt.mono {w w' : World} {F F' : Fixed} {size : Nat} {cv : Value} {ys : List Value} (h : RowAt w F size cv ys) (hw : Fix F w w') (hf : ∀ b o, F b o → F' b o) : RowAt w' F' size cv ys := by
  rcases h with h | ⟨b, off, n, cap, h1, h2, h3, h4, h5⟩
  · exact .inl h
  · exact .inr ⟨b, off, n, cap, h1, h2, h3, h4, fun j u hu => ⟨hf _ _ (h5 j u hu).1, (hw _ _ (h5 j u hu).1).trans (h5 j u hu).2⟩⟩

theorem Enc.mono {w w' : World} {F F' : Fixed} (hw : Fix F w w') (hf : ∀ b o, F b o → F' b o) : ∀ {d : Dat} {xs : List Value}, Enc w F d xs → Enc w' F' d xs
  | .nil, _, h => h
  | .val _ _, _, ⟨zs, h1, h2⟩ => ⟨zs, h1, h2.mono hw hf⟩
  | .row _ _ _, _, ⟨cv, ys, zs, h1, h2, h3, h4⟩ => ⟨cv, ys, zs, h1, h2.mono hw hf, h3.mono hw hf, h4.mono hw hf⟩

theorem Enc.len {w : World} {F : Fixed} : ∀ {d : Dat} {xs : List Value}, Enc w F d xs → xs.length = d.len
  | .nil, _, h => by rw [show _ = [] from h]; rfl
  | .val _ _, _, ⟨_, h1, h2⟩ => by rw [h1, List.length_cons, h2.len]; rfl
  | .row _ _ _, _, ⟨_, _, _, h1, _, _, h4⟩ => by rw [h1, List.length_cons, h4.len]; rfl

theorem Enc.app {w : World} {F : Fixed} {e : Dat} {zs : List Value} (hz : Enc w F e zs) : ∀ {d : Dat} {xs : List Value}, Enc w F d xs → Enc w F (d.app e) (xs ++ zs)
  | .nil, _, h => by rw [show _ = [] from h]; exact hz
  | .val _ _, _, ⟨ys, h1, h2⟩ => ⟨ys ++ zs, by rw [h1]; rfl, Enc.app hz h2⟩
  | .row _ _ _, _, ⟨cv, ys, us, h1, h2, h3, h4⟩ => ⟨cv, ys, us ++ zs, by rw [h1]; rfl, h2, h3, Enc.app hz h4⟩

/-- A slice value that stands for the cells of 'd'. -/
def Rd (w : World) (F : Fixed) (size : Nat) (d : Dat) (cv : Value) : Prop := ∃ ys, RowAt w F size cv ys ∧ Enc w F d ys

theorem Rd.mono {w w' : World} {F F' : Fixed} {size : Nat} {d : Dat} {cv : Value} (h : Rd w F size d cv) (hw : Fix F w w') (hf : ∀ b o, F b o → F' b o) : Rd w' F' size d cv :=
  let ⟨ys, h1, h2⟩ := h; ⟨ys, h1.mono hw hf, h2.mono hw hf⟩

theorem Rd.nil (w : World) (F : Fixed) (size : Nat) : Rd w F size .nil (.slice none 0 0) := ⟨[], .inl ⟨rfl, rfl⟩, rfl⟩

/-- All that is read lies in blocks that are there. -/
def There (w : World) : Fixed := fun b _ => b < w.heap.size
theorem Fix.below {w w' : World} (h : Below w.heap.size w w') : Fix (There w) w w' := fun b o hb => h.cell (p := ⟨b, o, none⟩) hb

theorem RowAt.there {w : World} {F : Fixed} {size : Nat} {cv : Value} {ys : List Value} (h : RowAt w F size cv ys) : RowAt w (fun b o => F b o ∧ There w b o) size cv ys := by
  rcases h with h | ⟨b, off, n, cap, h1, h2, h3, h4, h5⟩
  · exact .inl h
  · exact .inr ⟨b, off, n, cap, h1, h2, h3, h4, fun j u hu => ⟨⟨(h5 j u hu).1, World.block_lt_of_cell? w _ (h5 j u hu).2⟩, (h5 j u hu).2⟩⟩
theorem Enc.there {w : World} {F : Fixed} : ∀ {d : Dat} {xs : List Value}, Enc w F d xs → Enc w (fun b o => F b o ∧ There w b o) d xs
  | .nil, _, h => h
  | .val _ _, _, ⟨zs, h1, h2⟩ => ⟨zs, h1, h2.there⟩
  | .row _ _ _, _, ⟨cv, ys, zs, h1, h2, h3, h4⟩ => ⟨cv, ys, zs, h1, h2.there, h3.there, h4.there⟩
theorem Rd.there {w : World} {F : Fixed} {size : Nat} {d : Dat} {cv : Value} (h : Rd w F size d cv) : Rd w (fun b o => F b o ∧ There w b o) size d cv :=
  let ⟨ys, h1, h2⟩ := h; ⟨ys, h1.there, h2.there⟩
/-- What is read stays readable where nothing old has turned. -/
theorem Rd.below {w w' : World} {F : Fixed} {size : Nat} {d : Dat} {cv : Value} (h : Rd w F size d cv) (hb : Below w.heap.size w w') : Rd w' F size d cv :=
  h.there.mono (Fix.below hb |>.mono fun _ _ h => h.2) fun _ _ h => h.1

/-- What an append leaves. -/
structure Appended (w w' : World) (base : Nat) (e : TypeId) (size : Nat) (v : Value) (n : Nat) (xs : List Value) (m : Nat) (news : List Value) (g cap : Nat) : Prop where
  own : w'.ownsRow base e size (.slice (some ⟨g, 0, none⟩) (n + m) cap) (n + m) (xs ++ news)
  grown : w.grownBy w' v.ownBlock
  lies : v.ownBlock = some g ∨ (g = w.heap.size ∧ w.grownBy w' none)
  lt : g < w'.heap.size
  fix : ∀ b j, b < w.heap.size → (v.ownBlock = some b → j < n * size) → w'.cell? ⟨b, j, none⟩ = w.cell? ⟨b, j, none⟩

/-- The last cells of a row that is owned. -/
theorem own_cells {w : World} {base : Nat} {e : TypeId} {size g n cap : Nat} {xs news : List Value} {v : Value} (h : w.ownsRow base e size v n (xs ++ news)) (hv : v = .slice (some ⟨g, 0, none⟩) n cap) :
    ∀ j u, news[j]? = some u → w.cell? ⟨g, xs.length + j, none⟩ = some u := fun j u hu => by
  have hc := h.cells (g := g) (by rw [hv]; rfl) (xs.length + j) u (by rw [List.getElem?_append_right (by omega)]; simpa using hu)
  rwa [Addr.add_lit, Nat.zero_add] at hc
theorem own_free {w : World} {base : Nat} {e : TypeId} {size g n cap : Nat} {xs : List Value} {v : Value} (h : w.ownsRow base e size v n xs) (hv : v = .slice (some ⟨g, 0, none⟩) n cap) (j : Nat) : w.frozen? ⟨g, j, none⟩ = false := by
  rcases h.2 with ⟨h1, _⟩ | ⟨g', cap', cur, h1, _, h2, _⟩
  · rw [hv] at h1; cases h1
  · rw [hv] at h1
    have : g = g' := by injection h1 with h1; injection h1 with h1; injection h1
    subst this
    simp [World.frozen?, h2]
/-- The four cells of a node that was just appended. -/
theorem Appended.four {w w' : World} {base : Nat} {e : TypeId} {v : Value} {n : Nat} {xs : List Value} {a b c d : Value} {g cap : Nat} (h : Appended w w' base e 4 v n xs 1 [a, b, c, d] g cap) (hl : xs.length = n * 4) :
    (w'.cell? ⟨g, n * 4, none⟩ = some a ∧ w'.cell? ⟨g, n * 4 + 1, none⟩ = some b ∧ w'.cell? ⟨g, n * 4 + 2, none⟩ = some c ∧ w'.cell? ⟨g, n * 4 + 3, none⟩ = some d) ∧ ∀ j, w'.frozen? ⟨g, j, none⟩ = false := by
  have hc := own_cells h.own rfl
  rw [hl] at hc
  exact ⟨⟨hc 0 a rfl, hc 1 b rfl, hc 2 c rfl, hc 3 d rfl⟩, own_free h.own rfl⟩

theorem setCell_row {w : World} {g o : Nat} {cur : Array Value} {e : TypeId} {fr : Nat × Nat} {u : Value} (h : w.heap[g]? = some (.cells cur e fr)) : (w.setCell ⟨g, o, none⟩ u).heap[g]? = some (.cells (cur.setIfInBounds o u) e fr) := by
  simp [World.setCell, Array.getElem?_modify, h]
theorem setCell_far {w : World} {b g o : Nat} {u : Value} (h : b ≠ g) : (w.setCell ⟨g, o, none⟩ u).heap[b]? = w.heap[b]? := Below.heap_setCell w ⟨g, o, none⟩ u b h

/-- Nothing but cells has turned. -/
def Same (w w' : World) : Prop := w'.heap.size = w.heap.size ∧ w'.os = w.os ∧ w'.tape = w.tape ∧ w'.output = w.output
theorem Same.trans {a b c : World} (h : Same a b) (k : Same b c) : Same a c := ⟨k.1.trans h.1, k.2.1.trans h.2.1, k.2.2.1.trans h.2.2.1, k.2.2.2.trans h.2.2.2⟩
theorem setCell_same (w : World) (a : Addr) (u : Value) : Same w (w.setCell a u) := ⟨by simp [World.setCell], rfl, rfl, rfl⟩

/-- Four cells in a row are stored. -/
def set4 (w : World) (g q : Nat) (a b c d : Value) : World := (((w.setCell ⟨g, q, none⟩ a).setCell ⟨g, q + 1, none⟩ b).setCell ⟨g, q + 2, none⟩ c).setCell ⟨g, q + 3, none⟩ d
theorem set4_far {w : World} {b g q : Nat} {x y z u : Value} (h : b ≠ g) : (set4 w g q x y z u).heap[b]? = w.heap[b]? := by
  unfold set4; rw [setCell_far h, setCell_far h, setCell_far h, setCell_far h]
@[simp] theorem set4_size {w : World} {g q : Nat} {x y z u : Value} : (set4 w g q x y z u).heap.size = w.heap.size := by simp [set4, World.setCell]
theorem set4_same (w : World) (g q : Nat) (x y z u : Value) : Same w (set4 w g q x y z u) :=
  (((setCell_same _ _ _).trans (setCell_same _ _ _)).trans (setCell_same _ _ _)).trans (setCell_same _ _ _)
theorem set4_row {w : World} {base : Nat} {e : TypeId} {g k cap : Nat} {xs : List Value} {z0 z1 z2 z3 a b c d : Value} (h : w.ownsRow base e 4 (.slice (some ⟨g, 0, none⟩) (k + 1) cap) (k + 1) (xs ++ [z0, z1, z2, z3])) (hl : xs.length = k * 4) :
    ∃ cur, (set4 w g (k * 4) a b c d).heap[g]? = some (.cells cur e (0, 0)) ∧ base ≤ g ∧ k + 1 ≤ cap ∧ cap ≤ maxLen ∧ cur.size = cap * 4 ∧ cur.toList.take ((k + 1) * 4) = xs ++ [a, b, c, d] := by
  rcases h.2 with ⟨h1, _⟩ | ⟨g', cap', cur, h1, hb, h2, h3, h4, h5, h6⟩
  · cases h1
  · injection h1 with e1 _ e3
    injection e1 with e1
    injection e1 with e1
    subst e1 e3
    refine ⟨_, setCell_row (setCell_row (setCell_row (setCell_row h2))), hb, h3, h4, by simp [h5], ?_⟩
    have hsplit : cur.toList = xs ++ ([z0, z1, z2, z3] ++ cur.toList.drop ((k + 1) * 4)) := by
      rw [← List.append_assoc, ← h6, List.take_append_drop]
    have hlen : (k + 1) * 4 = xs.length + 4 := by omega
    simp only [Array.toList_setIfInBounds]
    rw [hsplit, ← hl, hlen]
    simp [List.take_append, List.take_of_length_le]

section
variable {P : Program} (w : World)
theorem run_append_fix (t ty : TypeId) (base : Nat) (e : TypeId) (i : TypeInfo) (z : Value) (size bytes : Nat) (ht : P.underlying t = some (.slice e)) (hi : P.info? e = some i) (hz : i.zero = some z)
    (hsize : i.size = size) (hby : i.bytes = bytes) (hzs : z.cells.size = size) (hsz : 0 < size)
    (v : Value) (n : Nat) (xs : List Value) (hown : w.ownsRow base e size v n xs)
    (ad : Addr) (m c : Nat) (news : List Value) (hl : news.length = m * size) (hnews : ∀ j u, news[j]? = some u → w.cell? (ad.add j) = some u) (h1 : ∀ u ∈ news, u.oneCell' = true)
    (hm : 0 < m) (h63 : n + m ≤ maxLen) (hbytes : (n + m) * bytes ≤ 140737488355328) (hbase : base ≤ w.heap.size) :
    ∃ g cap w', (Builtin.append_ #[t, t] ty #[v, .slice (some ad) m c]).run P w = .ok (.slice (some ⟨g, 0, none⟩) (n + m) cap) w' ∧ Appended w w' base e size v n xs m news g cap := by
  obtain ⟨g, cap, w', hr, h2, h3, h4, h5⟩ := run_append_lies (P := P) w t ty base e i z size bytes ht hi hz hsize hby hzs hsz v n xs hown ad m c news hl hnews h1 hm h63 hbytes hbase _ rfl
  have hlong : n + m ≤ 9223372036854775807 := by simp only [maxLen] at h63; omega
  -- a new array: nothing old has turned
  have fresh : ∀ cs : Array Value, w' = w.drew.alloc (.cells cs e) → Value.slice (some ⟨g, 0, none⟩) (n + m) cap = .slice (some ⟨w.heap.size, 0, none⟩) (n + m) cap → Appended w w' base e size v n xs m news g cap := by
    intro cs hw hg
    have hgw : g = w.heap.size := by injection hg with hg; injection hg with hg; injection hg
    subst hw
    refine ⟨h2, h3, .inr ⟨hgw, ⟨rfl, rfl, rfl, by simp, fun k hk _ => heap_alloc_old w.drew _ k hk⟩⟩, h5, fun b j hb _ => World.cell?_of_block (heap_alloc_old w.drew _ b hb)⟩
  refine ⟨g, cap, w', hr, ?_⟩
  rcases hown.2 with ⟨rfl, rfl⟩ | ⟨q, c0, cur, rfl, hq0, hq1, hq2, hq3, hq4, hq5⟩
  · have hr' := run_append_nil (P := P) w t ty e i z ht hi hz ad m c news (by rw [hsize]; exact hl) hnews hm (by omega) (by rw [hby]; rw [Nat.zero_add] at hbytes; omega)
    rw [hr'] at hr
    injection hr with e1 e2
    refine fresh _ e2.symm ?_
    rw [← e1, Nat.zero_add]
    injection e1 with _ _ e1
    rw [e1]
  · by_cases hroom : n + m ≤ c0
    · have hr' := run_append_room (P := P) w t ty e i ht hi q n c0 cur hq1 ad m c news (by rw [hsize]; exact hl) hnews h1 hroom (by rw [hsize, hl, hq4, ← Nat.add_mul]; exact Nat.mul_le_mul_right _ hroom)
      rw [hr'] at hr
      injection hr with e1 e2
      have hgq : q = g := by injection e1 with e1; injection e1 with e1; injection e1
      subst hgq
      refine ⟨h2, h3, .inl rfl, h5, fun b j hb hj => ?_⟩
      subst e2
      by_cases hbq : b = q
      · subst hbq
        have hj' := hj rfl
        rw [cell_setRow_same w b j cur _ e (0, 0) hq1, cell_of_row w b j cur e (0, 0) hq1, hsize]
        have hlt : j < cur.size := by
          have := Nat.mul_le_mul_right size hq2
          omega
        rw [List.getElem?_toArray, List.append_assoc, List.getElem?_append_left (by simp; omega), List.getElem?_take_of_lt hj']
        simp
      · exact World.cell?_of_block (setRow_other w q b _ hbq)
    · have hr' := run_append_grow (P := P) w t ty e i z ht hi hz ⟨q, 0, none⟩ n c0 xs (by rw [hsize]; exact hown.1) (hown.cells (g := q) rfl) ad m c news (by rw [hsize]; exact hl) hnews (by omega) (by omega) (growslice_fits (by omega) (by rw [hby]; exact hbytes))
      rw [hr'] at hr
      injection hr with e1 e2
      refine fresh _ e2.symm ?_
      rw [← e1]
      injection e1 with _ _ e1
      rw [e1]

/-- At the operation. -/
theorem wp_append_fix {o : Oper} {a : Act} {K : Act → World → Prop} {Q : Exit → Act → World → Prop} (s x : Operand) (t : TypeId)
    (ho : o.op = .call { callee := .builtin .append, args := #[s, x], argTypes := #[t, t] })
    (base : Nat) (e : TypeId) (i : TypeInfo) (z : Value) (size bytes : Nat) (ht : P.underlying t = some (.slice e)) (hi : P.info? e = some i) (hz : i.zero = some z)
    (hsize : i.size = size) (hby : i.bytes = bytes) (hzs : z.cells.size = size) (hsz : 0 < size)
    (v : Value) (n : Nat) (xs : List Value) (hs : a.eval s = v) (hown : w.ownsRow base e size v n xs)
    (ad : Addr) (m c : Nat) (news : List Value) (hx : a.eval x = .slice (some ad) m c) (hl : news.length = m * size) (hnews : ∀ j u, news[j]? = some u → w.cell? (ad.add j) = some u) (h1 : ∀ u ∈ news, u.oneCell' = true)
    (hm : 0 < m) (h63 : n + m ≤ maxLen) (hbytes : (n + m) * bytes ≤ 140737488355328) (hbase : base ≤ w.heap.size)
    (h : ∀ g cap w', Appended w w' base e size v n xs m news g cap → K (a.put o.dst (.slice (some ⟨g, 0, none⟩) (n + m) cap)) w') : o.wp P a w K Q := by
  obtain ⟨g, cap, w', hr, h2⟩ := run_append_fix (P := P) w t o.type base e i z size bytes ht hi hz hsize hby hzs hsz v n xs hown ad m c news hl hnews h1 hm h63 hbytes hbase
  unfold Oper.wp execOp
  simp only [ho, resolve, invoke, builtin, Sem.run_bind, Sem.run_pure, Result.andThen_ok, List.map_toArray, List.map_cons, List.map_nil, hs, hx, hr]
  exact h g cap w' h2

/-- At a plain region's list. -/
theorem wpList_append_fix {ops : Array Oper} {rest : List Oper} {o : Oper} {a : Act} {Q : Exit → Act → World → Prop} (hgd : o.guard = none) (s x : Operand) (t : TypeId)
    (ho : o.op = .call { callee := .builtin .append, args := #[s, x], argTypes := #[t, t] })
    (base : Nat) (e : TypeId) (i : TypeInfo) (z : Value) (size bytes : Nat) (ht : P.underlying t = some (.slice e)) (hi : P.info? e = some i) (hz : i.zero = some z)
    (hsize : i.size = size) (hby : i.bytes = bytes) (hzs : z.cells.size = size) (hsz : 0 < size)
    (v : Value) (n : Nat) (xs : List Value) (hs : a.eval s = v) (hown : w.ownsRow base e size v n xs)
    (ad : Addr) (m c : Nat) (news : List Value) (hx : a.eval x = .slice (some ad) m c) (hl : news.length = m * size) (hnews : ∀ j u, news[j]? = some u → w.cell? (ad.add j) = some u) (h1 : ∀ u ∈ news, u.oneCell' = true)
    (hm : 0 < m) (h63 : n + m ≤ maxLen) (hbytes : (n + m) * bytes ≤ 140737488355328) (hbase : base ≤ w.heap.size)
    (h : ∀ g cap w', Appended w w' base e size v n xs m news g cap → wpList P ops Q rest (a.put o.dst (.slice (some ⟨g, 0, none⟩) (n + m) cap)) w') : wpList P ops Q (o :: rest) a w :=
  wpList_plain hgd fun _ hK => wp_append_fix w s x t ho base e i z size bytes ht hi hz hsize hby hzs hsz v n xs hs hown ad m c news hx hl hnews h1 hm h63 hbytes hbase fun g cap w' h2 => hK _ _ (h g cap w' h2)

/-- At a step of a region that draws its order. -/
theorem step_append_fix {ops : Array Oper} {o : Oper} {a : Act} {K : Act → World → Prop} {Q : Exit → Act → World → Prop} {E : Prop} (hgd : o.guard = none) (s x : Operand) (t : TypeId)
    (ho : o.op = .call { callee := .builtin .append, args := #[s, x], argTypes := #[t, t] })
    (base : Nat) (e : TypeId) (i : TypeInfo) (z : Value) (size bytes : Nat) (ht : P.underlying t = some (.slice e)) (hi : P.info? e = some i) (hz : i.zero = some z)
    (hsize : i.size = size) (hby : i.bytes = bytes) (hzs : z.cells.size = size) (hsz : 0 < size)
    (v : Value) (n : Nat) (xs : List Value) (hs : a.eval s = v) (hown : w.ownsRow base e size v n xs)
    (ad : Addr) (m c : Nat) (news : List Value) (hx : a.eval x = .slice (some ad) m c) (hl : news.length = m * size) (hnews : ∀ j u, news[j]? = some u → w.cell? (ad.add j) = some u) (h1 : ∀ u ∈ news, u.oneCell' = true)
    (hm : 0 < m) (h63 : n + m ≤ maxLen) (hbytes : (n + m) * bytes ≤ 140737488355328) (hbase : base ≤ w.heap.size)
    (h : ∀ g cap w', Appended w w' base e size v n xs m news g cap → K (a.put o.dst (.slice (some ⟨g, 0, none⟩) (n + m) cap)) w') :
    if Region.wanted o (yielded ops a.tmps) = true then Oper.wp P o a w K Q else E := by
  have hw : Region.wanted o (yielded ops a.tmps) = true := by simp [Region.wanted, hgd]
  rw [if_pos hw]
  exact wp_append_fix w s x t ho base e i z size bytes ht hi hz hsize hby hzs hsz v n xs hs hown ad m c news hx hl hnews h1 hm h63 hbytes hbase h
end
/-- What 'x.f = append(x.f, node)' leaves: the row 'cv' has one element of four cells more; the slice's header lies in block 'ob' at offset 'r'. -/
structure Added (w w' : World) (base : Nat) (e : TypeId) (ob : Nat) (T : TypeId) (r : Nat) (cur : Array Value) (cv : Value) (k : Nat) (xs : List Value) (news : List Value) (g c2 : Nat) : Prop where
  own : w'.ownsRow base e 4 (.slice (some ⟨g, 0, none⟩) (k + 1) c2) (k + 1) (xs ++ news)
  lies : cv.ownBlock = some g ∨ w.heap.size ≤ g
  top : w'.heap[ob]? = some (.cells (cur.setIfInBounds r (.slice (some ⟨g, 0, none⟩) (k + 1) c2)) T (0, 0))
  other : ∀ b, b < w.heap.size → b ≠ ob → cv.ownBlock ≠ some b → w'.heap[b]? = w.heap[b]?
  fix : ∀ b j, b < w.heap.size → b ≠ ob → (cv.ownBlock = some b → j < k * 4) → w'.cell? ⟨b, j, none⟩ = w.cell? ⟨b, j, none⟩
  size : w.heap.size ≤ w'.heap.size
  os : w'.os = w.os
  tape : w'.tape = w.tape
  output : w'.output = w.output

theorem add_mid {W w1 : World} {Z : Obj} {base : Nat} {e : TypeId} {v u : Value} {k : Nat} {xs news : List Value} {g c2 ob q : Nat} (hA : Appended (W.alloc Z).drew w1 base e 4 v k xs 1 news g c2) (hne : v.ownBlock ≠ some ob) (lo : ob < W.heap.size)
    (bt : W.cell? ⟨ob, q, none⟩ = some u) (fo : W.frozen? ⟨ob, q, none⟩ = false) : w1.cell? ⟨ob, q, none⟩ = some u ∧ w1.frozen? ⟨ob, q, none⟩ = false ∧ ¬ g = ob := by
  have hb : w1.heap[ob]? = W.heap[ob]? := (hA.grown.block ob (by simp; omega) (Ne.symm hne)).trans (Below.heap_alloc W Z ob lo)
  refine ⟨(World.cell?_of_block hb).trans bt, (World.frozen?_of_block hb).trans fo, ?_⟩
  rintro rfl
  rcases hA.lies with h | ⟨h, _⟩
  · exact hne h
  · simp at h; omega

/-- The end of such a statement, in either order of the two stores. -/
theorem add_done {w W w1 X : World} {Z : Obj} {base ob r : Nat} {e T : TypeId} {cur : Array Value} {cv : Value} {k : Nat} {xs : List Value} {g c2 : Nat} {z0 z1 z2 z3 a b c d : Value}
    (hA : Appended (W.alloc Z).drew w1 base e 4 cv k xs 1 [z0, z1, z2, z3] g c2) (hl : xs.length = k * 4)
    (hWs : w.heap.size ≤ W.heap.size) (hWb : ∀ b, b < w.heap.size → W.heap[b]? = w.heap[b]?) (hWo : W.os = w.os ∧ W.tape = w.tape ∧ W.output = w.output)
    (lo : ob < w.heap.size) (ho : w.heap[ob]? = some (.cells cur T (0, 0))) (hne : cv.ownBlock ≠ some ob) (hgo : ¬ g = ob)
    (hX : X = (set4 w1 g (k * 4) a b c d).setCell ⟨ob, r, none⟩ (.slice (some ⟨g, 0, none⟩) (k + 1) c2) ∨ X = set4 (w1.setCell ⟨ob, r, none⟩ (.slice (some ⟨g, 0, none⟩) (k + 1) c2)) g (k * 4) a b c d) :
    Added w X base e ob T r cur cv k xs [a, b, c, d] g c2 := by
  have hgr := hA.grown
  have hob1 : w1.heap[ob]? = some (.cells cur T (0, 0)) := by
    rw [hgr.block ob (by simp; omega) (Ne.symm hne)]
    exact (Below.heap_alloc W Z ob (by omega)).trans ((hWb ob lo).trans ho)
  have hXg : ∃ cur', X.heap[g]? = some (.cells cur' e (0, 0)) ∧ base ≤ g ∧ k + 1 ≤ c2 ∧ c2 ≤ maxLen ∧ cur'.size = c2 * 4 ∧ cur'.toList.take ((k + 1) * 4) = xs ++ [a, b, c, d] := by
    rcases hX with rfl | rfl
    · rw [setCell_far hgo]
      exact set4_row hA.own hl
    · exact set4_row (hA.own.kept (row := some ob) ⟨rfl, rfl, rfl, by simp [World.setCell], fun q _ hq => setCell_far (by rintro rfl; exact hq rfl)⟩ (.inr (by simpa [Value.ownBlock] using hgo))) hl
  have hXo : X.heap[ob]? = some (.cells (cur.setIfInBounds (r) (.slice (some ⟨g, 0, none⟩) (k + 1) c2)) T (0, 0)) := by
    rcases hX with rfl | rfl
    · exact setCell_row (by rw [set4_far (Ne.symm hgo)]; exact hob1)
    · rw [set4_far (Ne.symm hgo)]
      exact setCell_row hob1
  have hXb : ∀ q, q ≠ ob → q ≠ g → X.heap[q]? = w1.heap[q]? := by
    intro q h1 h2
    rcases hX with rfl | rfl
    · rw [setCell_far h1, set4_far h2]
    · rw [set4_far h2, setCell_far h1]
  have hXs : Same w1 X := by
    rcases hX with rfl | rfl
    · exact (set4_same _ _ _ _ _ _ _).trans (setCell_same _ _ _)
    · exact (setCell_same _ _ _).trans (set4_same _ _ _ _ _ _ _)
  have hXz := hXs.1
  have hsz : W.heap.size + 1 ≤ w1.heap.size := by have := hgr.size; simpa using this
  have hlies : cv.ownBlock = some g ∨ w.heap.size ≤ g := by
    rcases hA.lies with h | ⟨h, _⟩
    · exact .inl h
    · simp at h; exact .inr (by omega)
  refine ⟨⟨?_, .inr ?_⟩, hlies, hXo, ?_, ?_, by omega, ?_, ?_, ?_⟩
  · simp; omega
  · obtain ⟨cur', h1, h2, h3, h4, h5, h6⟩ := hXg
    exact ⟨g, c2, cur', rfl, h2, h1, h3, h4, h5, h6⟩
  · intro q hq h1 h2
    have h3 : q ≠ g := by
      rintro rfl
      rcases hlies with h | h
      · exact h2 h
      · omega
    rw [hXb q h1 h3, hgr.block q (by simp; omega) (Ne.symm h2)]
    exact (Below.heap_alloc W Z q (by omega)).trans (hWb q hq)
  · intro q j hq h1 h2
    have hold : w1.cell? ⟨q, j, none⟩ = w.cell? ⟨q, j, none⟩ := by
      rw [hA.fix q j (by simp; omega) h2]
      exact World.cell?_of_block ((Below.heap_alloc W Z q (by omega)).trans (hWb q hq))
    by_cases h3 : q = g
    · subst h3
      rcases hlies with h | h
      · have hj := h2 h
        have hfar : ∀ (Y : World) (o : Nat) (u : Value), k * 4 ≤ o → (Y.setCell ⟨q, o, none⟩ u).cell? ⟨q, j, none⟩ = Y.cell? ⟨q, j, none⟩ := fun Y o u ho => World.cell?_setCell_other _ _ _ _ (by intro he; injection he with _ he; omega)
        have hfar2 : ∀ (Y : World) (o : Nat) (u : Value), (Y.setCell ⟨ob, o, none⟩ u).cell? ⟨q, j, none⟩ = Y.cell? ⟨q, j, none⟩ := fun Y o u => World.cell?_of_block (setCell_far h1)
        rw [← hold]
        rcases hX with rfl | rfl
        · rw [hfar2]; unfold set4
          rw [hfar _ _ _ (by omega), hfar _ _ _ (by omega), hfar _ _ _ (by omega), hfar _ _ _ (by omega)]
        · unfold set4
          rw [hfar _ _ _ (by omega), hfar _ _ _ (by omega), hfar _ _ _ (by omega), hfar _ _ _ (by omega), hfar2]
      · omega
    · rw [← hold]
      exact World.cell?_of_block (hXb q h1 h3)
  · rw [hXs.2.1, hgr.os]; exact hWo.1
  · rw [hXs.2.2.1, hgr.tape]; exact hWo.2.1
  · rw [hXs.2.2.2, hgr.output]; exact hWo.2.2

theorem set4_inl {X w1 Y : World} {g q ob r : Nat} {a b c d e : Value} (h : X = ((((w1.setCell ⟨g, q, none⟩ a).setCell ⟨g, q + 1, none⟩ b).setCell ⟨g, q + 2, none⟩ c).setCell ⟨g, q + 3, none⟩ d).setCell ⟨ob, r, none⟩ e) : X = (set4 w1 g q a b c d).setCell ⟨ob, r, none⟩ e ∨ X = Y := .inl h
theorem set4_inr {X w1 Y : World} {g q ob r : Nat} {a b c d e : Value} (h : X = ((((w1.setCell ⟨ob, r, none⟩ e).setCell ⟨g, q, none⟩ a).setCell ⟨g, q + 1, none⟩ b).setCell ⟨g, q + 2, none⟩ c).setCell ⟨g, q + 3, none⟩ d) : X = Y ∨ X = set4 (w1.setCell ⟨ob, r, none⟩ e) g q a b c d := .inr h

end Go.Proofs.YtcajkijnpknacaaGreatDoor
