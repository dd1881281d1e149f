/- telmake.AnyNode. -/
import Derived.Test.YtnaabplppfikcaaDoorKids
import Derived.Deep.RegionHeld3
namespace Go.Proofs.YtnaabplppfikcaaDoor
open Go.RowKit

/-- What AnyNode hands back: a node that reads as (k, t, c, o). -/
def AnyDone (bad : Bool) (d : Nat) (w : World) (sb : Nat) (e : Ending) (w' : World) : Prop :=
  ∃ (k : Int) (t : List UInt8) (c : Fr) (o : Int) (a : Option Addr) (n m : Nat) (F : Fixed), e = .returned (.agg #[.int .i64 k, .string ⟨t.toArray⟩, .slice a n m, .int .i64 o]) ∧ Rd w' F 4 c.dat (.slice a n m) ∧ (∀ b j, F b j → w.heap.size ≤ b ∧ b < w'.heap.size) ∧
    Gen bad (.cons k t c o .nil) d ∧ Strm w' sb ∧ w.grownBy w' (some sb)

theorem next_at {w : World} {sb : Nat} {z : Int} (n : Nat) (hz : z = n) (hn : 0 < n) (hn' : n ≤ 1000000) (h : Strm w sb) : Calls Tryd.prog 33 #[.pointer (some ⟨sb, 0, none⟩), .int .i64 z] w (NextDone w sb n) := by
  subst hz
  exact next_any w sb n hn hn' h

abbrev zrow : Array Value := #[.int .i64 0, .string ⟨#[]⟩, .slice none 0 0, .int .i64 0]

/-- The world inside AnyNode: w is the world at its start, rb the block of its result. -/
structure Mid (w : World) (rb wb wo wc tb to tc sb : Nat) (W : World) : Prop where
  eq : w.heap.size = rb
  strm : Strm W sb
  lt : sb < w.heap.size
  grown : w.grownBy W (some sb)
  res : W.heap[rb]? = some (.cells zrow 26 (0, 0))
  old : Tabs w wb wo wc tb to tc
  free : Free wb tb sb

section
variable {w W X : World} {rb wb wo wc tb to tc sb : Nat}

theorem Mid.start (h : Strm w sb) (ht : Tabs w wb wo wc tb to tc) (hf : Free wb tb sb) : Mid w w.heap.size wb wo wc tb to tc sb (w.alloc (.cells zrow 26 (0, 0))) :=
  ⟨rfl, h.below ((Below.refl _ _).alloc (Nat.le_refl _) _), h.lt, World.grownBy_alloc _ _ _, heap_alloc_new w _, ht, hf⟩

theorem Mid.next (h : Mid w rb wb wo wc tb to tc sb W) (hs : Strm X sb) (hg : W.grownBy X (some sb)) : Mid w rb wb wo wc tb to tc sb X :=
  ⟨h.eq, hs, h.lt, h.grown.trans hg, (hg.block _ (Array.getElem?_eq_some_iff.1 h.res).1 (by intro e; have := h.lt; have := h.eq; cases e; omega)).trans h.res, h.old, h.free⟩

theorem Mid.drewN (h : Mid w rb wb wo wc tb to tc sb W) (m : Nat) : Mid w rb wb wo wc tb to tc sb (W.drewN m) :=
  h.next (h.strm.below (Below.drewN' rfl)) ⟨rfl, rfl, rfl, Nat.le_refl _, fun _ _ _ => rfl⟩
theorem Mid.drew (h : Mid w rb wb wo wc tb to tc sb W) : Mid w rb wb wo wc tb to tc sb W.drew := h.drewN 1
theorem Mid.tabs (h : Mid w rb wb wo wc tb to tc sb W) : Tabs W wb wo wc tb to tc := h.old.grown h.grown h.free

theorem Mid.r0 (h : Mid w rb wb wo wc tb to tc sb W) : W.cell? ⟨rb, 0, none⟩ = some (.int .i64 0) := by rw [cell_of_row W _ _ _ _ _ h.res]; rfl
theorem Mid.r1 (h : Mid w rb wb wo wc tb to tc sb W) : W.cell? ⟨rb, 1, none⟩ = some (.string ⟨#[]⟩) := by rw [cell_of_row W _ _ _ _ _ h.res]; rfl
theorem Mid.r2 (h : Mid w rb wb wo wc tb to tc sb W) : W.cell? ⟨rb, 2, none⟩ = some (.slice none 0 0) := by rw [cell_of_row W _ _ _ _ _ h.res]; rfl
theorem Mid.r3 (h : Mid w rb wb wo wc tb to tc sb W) : W.cell? ⟨rb, 3, none⟩ = some (.int .i64 0) := by rw [cell_of_row W _ _ _ _ _ h.res]; rfl
theorem Mid.fz (h : Mid w rb wb wo wc tb to tc sb W) (j : Nat) : W.frozen? ⟨rb, j, none⟩ = false := by simp [World.frozen?, h.res]

/-- What lies up to the result's block is as it was. -/
theorem Mid.keep (h : Mid w rb wb wo wc tb to tc sb W) (hs : W.heap.size ≤ X.heap.size) (ho : X.os = W.os) (ht : X.tape = W.tape) (hu : X.output = W.output) (hb : ∀ b, b ≤ rb → X.heap[b]? = W.heap[b]?) : Mid w rb wb wo wc tb to tc sb X := by
  have hl := h.lt
  have he := h.eq
  refine ⟨h.eq, ?_, h.lt, ⟨ho.trans h.grown.os, ht.trans h.grown.tape, hu.trans h.grown.output, Nat.le_trans h.grown.size hs, fun i hi hn => (hb i (by omega)).trans (h.grown.block i hi hn)⟩, (hb rb (Nat.le_refl _)).trans h.res, h.old, h.free⟩
  obtain ⟨ia, len, cap, pos, h1, h2, h3, h4⟩ := h.strm
  refine ⟨ia, len, cap, pos, (hb sb (by omega)).trans h1, h2, h3, fun i hi => ?_⟩
  obtain ⟨x, off, z, e1, e2, e3⟩ := h4 i hi
  exact ⟨x, off, z, e1, (World.cell?_of_block (hb x (by omega))).trans e2, e3⟩
theorem Mid.alloc (h : Mid w rb wb wo wc tb to tc sb W) (o : Obj) : Mid w rb wb wo wc tb to tc sb (W.alloc o) :=
  h.next (h.strm.below ((Below.refl _ _).alloc (Nat.le_refl _) _)) (World.grownBy_alloc _ _ _)
theorem Mid.rlt (h : Mid w rb wb wo wc tb to tc sb W) : rb < W.heap.size := (Array.getElem?_eq_some_iff.1 h.res).1

/-- One node in a block of its own. -/
theorem rd_one {b : Nat} {k o : Int} {t : List UInt8} {c : Fr} {cv : Value} {F : Fixed} {T : TypeId} {fr : Nat × Nat} (h : W.heap[b]? = some (.cells #[.int .i64 k, .string ⟨t.toArray⟩, cv, .int .i64 o] T fr)) (hc : Rd W F 4 c.dat cv) :
    Rd W (fun x j => F x j ∨ (x = b ∧ j < 4)) 4 (Fr.cons k t c o .nil).dat (.slice (some ⟨b, 0, none⟩) 1 1) := by
  obtain ⟨zs, h1, h2⟩ := hc
  refine ⟨[.int .i64 k, .string ⟨t.toArray⟩, cv, .int .i64 o], .inr ⟨b, 0, 1, 1, rfl, Nat.le_refl _, by unfold maxLen; omega, rfl, fun j u hu => ?_⟩, ?_⟩
  · have hj : j < 4 := (List.getElem?_eq_some_iff.1 hu).1
    refine ⟨.inr ⟨rfl, by omega⟩, ?_⟩
    rw [cell_of_row W _ _ _ _ _ h, Nat.zero_add]
    simpa using hu
  · exact ⟨_, rfl, _, rfl, cv, zs, _, rfl, h1.mono (Fix.refl _ _) (fun _ _ h => .inl h), h2.mono (Fix.refl _ _) (fun _ _ h => .inl h), _, rfl, rfl⟩

/-- The result is written. -/
theorem set4_cells {g : Nat} {z0 z1 z2 z3 a b c d : Value} {T : TypeId} {fr : Nat × Nat} (h : W.heap[g]? = some (.cells #[z0, z1, z2, z3] T fr)) : (set4 W g 0 a b c d).heap[g]? = some (.cells #[a, b, c, d] T fr) :=
  setCell_row (setCell_row (setCell_row (setCell_row h)))

structure Put (w : World) (rb sb : Nat) (a b c d : Value) (X : World) : Prop where
  strm : Strm X sb
  grown : w.grownBy X (some sb)
  row : X.heap[rb]? = some (.cells #[a, b, c, d] 26 (0, 0))

theorem Mid.put (h : Mid w rb wb wo wc tb to tc sb W) (a b c d : Value) : Put w rb sb a b c d (set4 W rb 0 a b c d) := by
  have hs := set4_same W rb 0 a b c d
  have hl := h.lt
  have he := h.eq
  refine ⟨?_, ⟨hs.2.1.trans h.grown.os, hs.2.2.1.trans h.grown.tape, hs.2.2.2.trans h.grown.output, by rw [hs.1]; exact h.grown.size, fun i hi hn => (set4_far (show i ≠ rb by omega)).trans (h.grown.block i hi hn)⟩, set4_cells h.res⟩
  obtain ⟨ia, len, cap, pos, h1, h2, h3, h4⟩ := h.strm
  refine ⟨ia, len, cap, pos, (set4_far (show sb ≠ rb by omega)).trans h1, h2, h3, fun i hi => ?_⟩
  obtain ⟨x, off, z, e1, e2, e3⟩ := h4 i hi
  refine ⟨x, off, z, e1, ?_, e3⟩
  exact (World.cell?_of_block (set4_far (show x ≠ rb by omega))).trans e2
theorem Mid.putTabs (h : Mid w rb wb wo wc tb to tc sb W) (a b c d : Value) : Tabs (set4 W rb 0 a b c d) wb wo wc tb to tc := h.old.grown (h.put a b c d).grown h.free
/-- The store of a node, as the walk spells it. -/
theorem Mid.putGw (h : Mid w rb wb wo wc tb to tc sb W) (a b c d : Value) : ((((W.setCell ⟨rb, 0, none⟩ a).setCell ⟨rb, 1, none⟩ b).setCell ⟨rb, 2, none⟩ c).setCell ⟨rb, 3, none⟩ d).cell? ⟨2, 0, none⟩ = some (.slice (some ⟨wb, wo, none⟩) 16 wc) := (h.putTabs a b c d).gw
theorem Mid.putGs (h : Mid w rb wb wo wc tb to tc sb W) (a b c d : Value) : ((((W.setCell ⟨rb, 0, none⟩ a).setCell ⟨rb, 1, none⟩ b).setCell ⟨rb, 2, none⟩ c).setCell ⟨rb, 3, none⟩ d).cell? ⟨1, 0, none⟩ = some (.slice (some ⟨tb, to, none⟩) 6 tc) := (h.putTabs a b c d).gs
theorem Mid.putWs (h : Mid w rb wb wo wc tb to tc sb W) (a b c d : Value) (i : Nat) (hi : i < 16) : ((((W.setCell ⟨rb, 0, none⟩ a).setCell ⟨rb, 1, none⟩ b).setCell ⟨rb, 2, none⟩ c).setCell ⟨rb, 3, none⟩ d).cell? ⟨wb, wo + i, none⟩ = some (.string ⟨(wordT i).toArray⟩) := (h.putTabs a b c d).ws i hi
theorem Mid.putSs (h : Mid w rb wb wo wc tb to tc sb W) (a b c d : Value) (i : Nat) (hi : i < 6) : ((((W.setCell ⟨rb, 0, none⟩ a).setCell ⟨rb, 1, none⟩ b).setCell ⟨rb, 2, none⟩ c).setCell ⟨rb, 3, none⟩ d).cell? ⟨tb, to + i, none⟩ = some (.string ⟨(strT i).toArray⟩) := (h.putTabs a b c d).ss i hi
theorem Mid.put' (h : Mid w rb wb wo wc tb to tc sb W) {a b c d : Value} : Put w rb sb a b c d ((((W.setCell ⟨rb, 0, none⟩ a).setCell ⟨rb, 1, none⟩ b).setCell ⟨rb, 2, none⟩ c).setCell ⟨rb, 3, none⟩ d) := h.put a b c d
theorem Put.drewN {a b c d : Value} (h : Put w rb sb a b c d X) (m : Nat) : Put w rb sb a b c d (X.drewN m) := ⟨h.strm.below (Below.drewN' rfl), h.grown.trans ⟨rfl, rfl, rfl, Nat.le_refl _, fun _ _ _ => rfl⟩, h.row⟩
theorem Put.c0 {a b c d : Value} (h : Put w rb sb a b c d X) : X.cell? ⟨rb, 0, none⟩ = some a := by rw [cell_of_row X _ _ _ _ _ h.row]; rfl
theorem Put.c1 {a b c d : Value} (h : Put w rb sb a b c d X) : X.cell? ⟨rb, 1, none⟩ = some b := by rw [cell_of_row X _ _ _ _ _ h.row]; rfl
theorem Put.c2 {a b c d : Value} (h : Put w rb sb a b c d X) : X.cell? ⟨rb, 2, none⟩ = some c := by rw [cell_of_row X _ _ _ _ _ h.row]; rfl
theorem Put.c3 {a b c d : Value} (h : Put w rb sb a b c d X) : X.cell? ⟨rb, 3, none⟩ = some d := by rw [cell_of_row X _ _ _ _ _ h.row]; rfl
end

def PosN (bad : Bool) (r : Nat) : Prop := bad = false ∨ (bad = true ∧ ¬ (r : Int) = 11 ∧ ¬ (r : Int) = 10)

/-- A call of a Go function in a region that draws its order. -/
theorem step_call {P : Program} {ops : Array Oper} {o : Oper} {a : Act} {w : World} {K : Act → World → Prop} {Q : Exit → Act → World → Prop} {E : Prop} (hg : o.guard = none) (f : FuncId) (args : Array Value) (hrun : (execOp a.eval o).run P w = .ok (.enter f args) w)
    (h : Calls P f args w fun e w' => ∃ v, e = .returned v ∧ K (a.put o.dst v) w') : if Region.wanted o (yielded ops a.tmps) = true then Oper.wp P o a w K Q else E := by
  rw [if_pos (by simp [Region.wanted, hg])]
  unfold Oper.wp
  rw [hrun, Oper.upon_enter]
  refine h.mono fun e w'' hh => ?_
  obtain ⟨v, rfl, hk⟩ := hh
  exact hk

/-- The list that is being filled: nb is the block of the variable n. -/
structure Fill (w : World) (rb wb wo wc tb to tc sb nb : Nat) (bad : Bool) (d : Nat) (wr : World) (F : Fixed) (ca : Option Addr) (cc : Nat) (l : Fr) (ys : List Value) : Prop where
  mid : Mid w rb wb wo wc tb to tc sb wr
  lt : rb < nb
  row : wr.heap[nb]? = some (.cells #[.int .i64 3, .string ⟨#[]⟩, .slice ca l.len cc, .int .i64 0] 26 (0, 0))
  kids : Kids (nb + 1) 26 wr F (.slice ca l.len cc) l ys
  gen : Gen bad l d

section
variable {w wr V w3 : World} {rb wb wo wc tb to tc sb nb d : Nat} {bad : Bool} {F : Fixed} {ca : Option Addr} {cc : Nat} {l : Fr} {ys : List Value}

theorem Fill.nlt (h : Fill w rb wb wo wc tb to tc sb nb bad d wr F ca cc l ys) : nb < wr.heap.size := (Array.getElem?_eq_some_iff.1 h.row).1
theorem Fill.next (h : Fill w rb wb wo wc tb to tc sb nb bad d wr F ca cc l ys) (hs : Strm V sb) (hg : wr.grownBy V (some sb)) : Fill w rb wb wo wc tb to tc sb nb bad d V F ca cc l ys := by
  have h1 := h.mid.lt
  have h2 := h.mid.eq
  have h3 := h.lt
  refine ⟨h.mid.next hs hg, h.lt, (hg.block nb h.nlt (by intro e; cases e; omega)).trans h.row, h.kids.turn hg.size fun b hb hl => hg.block b hl (by intro e; cases e; omega), h.gen⟩
theorem Fill.drew (h : Fill w rb wb wo wc tb to tc sb nb bad d wr F ca cc l ys) : Fill w rb wb wo wc tb to tc sb nb bad d wr.drew F ca cc l ys :=
  h.next (h.mid.strm.below (Below.drewN' (m := 1) rfl)) ⟨rfl, rfl, rfl, Nat.le_refl _, fun _ _ _ => rfl⟩
theorem Fill.c2 (h : Fill w rb wb wo wc tb to tc sb nb bad d wr F ca cc l ys) : wr.cell? ⟨nb, 2, none⟩ = some (.slice ca l.len cc) := by rw [cell_of_row wr _ _ _ _ _ h.row]; rfl
theorem Fill.fz (h : Fill w rb wb wo wc tb to tc sb nb bad d wr F ca cc l ys) (j : Nat) : wr.frozen? ⟨nb, j, none⟩ = false := by simp [World.frozen?, h.row]
theorem Fill.alloc (h : Fill w rb wb wo wc tb to tc sb nb bad d wr F ca cc l ys) (o : Obj) : Fill w rb wb wo wc tb to tc sb nb bad d (wr.alloc o) F ca cc l ys :=
  h.next (h.mid.strm.below ((Below.refl _ _).alloc (Nat.le_refl _) _)) (World.grownBy_alloc _ _ _)

/-- Behind the append the variable is still as it was. -/
theorem Fill.after (h : Fill w rb wb wo wc tb to tc sb nb bad d V F ca cc l ys) {g c2 m : Nat} {news : List Value} (hA : Appended V w3 (nb + 1) 26 4 (.slice ca l.len cc) l.len ys m news g c2) :
    w3.heap[nb]? = some (.cells #[.int .i64 3, .string ⟨#[]⟩, .slice ca l.len cc, .int .i64 0] 26 (0, 0)) :=
  (hA.grown.block nb h.nlt (fun e => by have := (h.kids.own.lt nb e.symm).1; omega)).trans h.row
theorem row_c2 {z0 z1 z2 z3 : Value} {T : TypeId} {fr : Nat × Nat} (h : w3.heap[nb]? = some (.cells #[z0, z1, z2, z3] T fr)) : w3.cell? ⟨nb, 2, none⟩ = some z2 := by rw [cell_of_row w3 _ _ _ _ _ h]; rfl
theorem row_fz {cs : Array Value} {T : TypeId} (h : w3.heap[nb]? = some (.cells cs T (0, 0))) (j : Nat) : w3.frozen? ⟨nb, j, none⟩ = false := by simp [World.frozen?, h]

theorem row_c0 {z0 z1 z2 z3 : Value} {T : TypeId} {fr : Nat × Nat} (h : w3.heap[nb]? = some (.cells #[z0, z1, z2, z3] T fr)) : w3.cell? ⟨nb, 0, none⟩ = some z0 := by rw [cell_of_row w3 _ _ _ _ _ h]; rfl
theorem row_c1 {z0 z1 z2 z3 : Value} {T : TypeId} {fr : Nat × Nat} (h : w3.heap[nb]? = some (.cells #[z0, z1, z2, z3] T fr)) : w3.cell? ⟨nb, 1, none⟩ = some z1 := by rw [cell_of_row w3 _ _ _ _ _ h]; rfl
theorem row_c3 {z0 z1 z2 z3 : Value} {T : TypeId} {fr : Nat × Nat} (h : w3.heap[nb]? = some (.cells #[z0, z1, z2, z3] T fr)) : w3.cell? ⟨nb, 3, none⟩ = some z3 := by rw [cell_of_row w3 _ _ _ _ _ h]; rfl

theorem Fill.fin (h : Fill w rb wb wo wc tb to tc sb nb bad d V F ca cc l ys) {x y u v : Value} : Kids (nb + 1) 26 ((((V.setCell ⟨rb, 0, none⟩ x).setCell ⟨rb, 1, none⟩ y).setCell ⟨rb, 2, none⟩ u).setCell ⟨rb, 3, none⟩ v) F (.slice ca l.len cc) l ys :=
  h.kids.turn (by simp only [World.size_setCell]; exact Nat.le_refl _) fun b hb _ => by
    have := h.lt
    rw [setCell_far (by omega), setCell_far (by omega), setCell_far (by omega), setCell_far (by omega)]

/-- One node more. -/
theorem Fill.more (h : Fill w rb wb wo wc tb to tc sb nb bad d V F ca cc l ys) {F2 : Fixed} {k o : Int} {t : List UInt8} {c : Fr} {a : Option Addr} {n m g c2 lo : Nat} (hrd : Rd V F2 4 c.dat (.slice a n m)) (hlow : ∀ b j, F2 b j → lo ≤ b ∧ b < V.heap.size)
    (hlo : ∀ b, (Value.slice ca l.len cc).ownBlock = some b → b < lo) (hlo' : nb + 1 ≤ lo) (hgen : Gen bad (.cons k t c o .nil) d) {T : TypeId}
    (hA : Appended (V.alloc (.cells #[.int .i64 k, .string ⟨t.toArray⟩, .slice a n m, .int .i64 o] T (0, 0))) w3 (nb + 1) 26 4 (.slice ca l.len cc) l.len ys 1 [.int .i64 k, .string ⟨t.toArray⟩, .slice a n m, .int .i64 o] g c2) :
    ∃ F' ys', Fill w rb wb wo wc tb to tc sb nb bad d (w3.setCell ⟨nb, 2, none⟩ (.slice (some ⟨g, 0, none⟩) (l.len + 1) c2)) F' (some ⟨g, 0, none⟩) c2 (l.app (.cons k t c o .nil)) ys' := by
  have hV := h.alloc (.cells #[.int .i64 k, .string ⟨t.toArray⟩, .slice a n m, .int .i64 o] T (0, 0))
  obtain ⟨F', hK⟩ := hV.kids.added (k := k) (o := o) (t := t) (kids := c) (kv := .slice a n m) (hrd.below ((Below.refl _ _).alloc (Nat.le_refl _) _))
    (fun b j hf => ⟨by have := (hlow b j hf).1; omega, by have := (hlow b j hf).2; simp; omega, fun e => by have := hlo b e; have := (hlow b j hf).1; omega⟩) (by have := hV.nlt; omega) hA
  have hrow := hV.after hA
  have hnl : (l.app (.cons k t c o .nil)).len = l.len + 1 := by rw [Fr.len_app]; rfl
  have hl1 := h.lt
  refine ⟨F', ys ++ [.int .i64 k, .string ⟨t.toArray⟩, .slice a n m, .int .i64 o], ?_, h.lt, ?_, ?_, Gen.app hgen h.gen⟩
  · refine hV.mid.keep (by simp only [World.size_setCell]; exact hA.grown.size) hA.grown.os hA.grown.tape hA.grown.output fun b hb => ?_
    rw [setCell_far (by omega)]
    exact hA.grown.block b (by have := hV.nlt; omega) (fun e => by have := (hV.kids.own.lt b e.symm).1; omega)
  · rw [hnl]
    exact setCell_row hrow
  · rw [hnl]
    exact hK.turn (by simp only [World.size_setCell]; exact Nat.le_refl _) fun b hb _ => setCell_far (by omega)
end

end Go.Proofs.YtnaabplppfikcaaDoor
