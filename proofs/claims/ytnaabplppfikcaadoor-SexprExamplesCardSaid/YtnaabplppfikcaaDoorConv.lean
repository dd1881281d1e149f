/- telmake.Node: a node of the reference becomes a node of the program. -/
import Derived.Test.YtnaabplppfikcaaDoorGen
import Derived.Test.YtnaabplppfikcaaDoorAdd
import Derived.Deep.RegionLaw
import Derived.Deep.LoopGhost
namespace Go.Proofs.YtnaabplppfikcaaDoor
open Go.RowKit

theorem below_grown {w w' : World} (h : w.grownBy w' none) : Below w.heap.size w w' := ⟨h.os, h.tape, h.output, h.size, fun k hk => h.block k hk (by simp)⟩
theorem grown_drewN (w : World) (m : Nat) (r : Option Nat) : w.grownBy (w.drewN m) r := ⟨rfl, rfl, rfl, Nat.le_refl _, fun _ _ _ => rfl⟩
theorem Rd.grown {w w' : World} {F : Fixed} {size : Nat} {d : Dat} {v : Value} (h : Rd w F size d v) (hg : w.grownBy w' none) : Rd w' F size d v := h.below (below_grown hg)

/-- The length of a slice of nodes. -/
theorem Rd.form {w : World} {F : Fixed} {l : Fr} {a : Option Addr} {n m : Nat} (h : Rd w F 4 l.dat (.slice a n m)) : n = l.len ∧ n ≤ m ∧ m ≤ maxLen := by
  generalize hv : Value.slice a n m = v at h
  cases h.nodes with
  | nil h0 => cases hv; exact ⟨h0.symm, Nat.le_refl _, Nat.zero_le _⟩
  | some b off cap h1 h2 h3 => cases hv; exact ⟨rfl, h1, h2⟩

/-- The i-th node of a slice. -/
theorem Rd.elem {w : World} {F : Fixed} {l : Fr} {a : Option Addr} {n m i : Nat} {k o : Int} {t : List UInt8} {c : Fr} (h : Rd w F 4 l.dat (.slice a n m)) (hi : l.nth i = some (k, t, c, o)) :
    ∃ b off a' n' m', a = some ⟨b, off, none⟩ ∧ w.cell? ⟨b, off + i * 4, none⟩ = some (.int .i64 k) ∧ w.cell? ⟨b, off + i * 4 + 1, none⟩ = some (.string ⟨t.toArray⟩) ∧
      w.cell? ⟨b, off + i * 4 + 2, none⟩ = some (.slice a' n' m') ∧ w.cell? ⟨b, off + i * 4 + 3, none⟩ = some (.int .i64 o) ∧ Rd w F 4 c.dat (.slice a' n' m') := by
  generalize hv : Value.slice a n m = v at h
  cases h.nodes with
  | nil h0 => cases l with
    | nil => cases hi
    | cons _ _ _ _ _ => simp [Fr.len] at h0
  | some b off cap h1 h2 h3 =>
    cases hv
    obtain ⟨a', n', m', e⟩ := h3 i k t c o hi
    exact ⟨b, off, a', n', m', rfl, e⟩

/-- The first i nodes. -/
def Fr.take : Fr → Nat → Fr
  | .nil, _ => .nil
  | .cons _ _ _ _ _, 0 => .nil
  | .cons k t c o r, i + 1 => .cons k t c o (r.take i)
theorem Fr.take_zero (l : Fr) : l.take 0 = .nil := by cases l <;> rfl
theorem Fr.take_len : ∀ {l : Fr}, l.take l.len = l
  | .nil => rfl
  | .cons k t c o r => by rw [show (Fr.cons k t c o r).len = r.len + 1 by simp [Fr.len]]; simp [Fr.take, Fr.take_len]
theorem Fr.take_succ : ∀ {l : Fr} {i : Nat} {k o : Int} {t : List UInt8} {c : Fr}, l.nth i = some (k, t, c, o) → l.take (i + 1) = (l.take i).app (.cons k t c o .nil)
  | .cons k t c o r, 0, _, _, _, _, h => by
    simp only [Fr.nth, Option.some.injEq, Prod.mk.injEq] at h
    obtain ⟨rfl, rfl, rfl, rfl⟩ := h
    simp [Fr.take, Fr.take_zero, Fr.app]
  | .cons k t c o r, i + 1, _, _, _, _, h => by
    simp only [Fr.take, Fr.app]
    rw [Fr.take_succ (l := r) h]
theorem Fr.len_take : ∀ {l : Fr} {i : Nat}, i ≤ l.len → (l.take i).len = i
  | .nil, i, h => by simp [Fr.len] at h; subst h; rfl
  | .cons _ _ _ _ _, 0, _ => rfl
  | .cons k t c o r, i + 1, h => by simp only [Fr.take, Fr.len] at h ⊢; rw [Fr.len_take (by omega)]

/-- What Node hands back. -/
def ConvDone (w : World) (k : Int) (t : List UInt8) (c : Fr) (o : Int) (e : Ending) (w' : World) : Prop :=
  ∃ (a : Option Addr) (n m : Nat) (F : Fixed), e = .returned (.agg #[.int .i64 k, .string ⟨t.toArray⟩, .slice a n m, .int .i64 o]) ∧ Rd w' F 4 c.dat (.slice a n m) ∧ (∀ b j, F b j → w.heap.size ≤ b ∧ b < w'.heap.size) ∧ w.grownBy w' none

/-- The list that is being filled: nb is the block of the variable x. -/
structure Fill2 (w : World) (bb rb nb : Nat) (k o : Int) (t : List UInt8) (cv : Value) (wr : World) (F : Fixed) (ca : Option Addr) (cc : Nat) (l : Fr) (ys : List Value) : Prop where
  e1 : w.heap.size = bb
  e2 : bb < rb
  e3 : rb < nb
  grown : w.grownBy wr none
  box : wr.heap[bb]? = some (.cells #[.int .i64 k, .string ⟨t.toArray⟩, cv, .int .i64 o] 26 (0, 0))
  res : wr.heap[rb]? = some (.cells zrow 39 (0, 0))
  row : wr.heap[nb]? = some (.cells #[.int .i64 k, .string ⟨t.toArray⟩, .slice ca l.len cc, .int .i64 o] 39 (0, 0))
  kids : Kids (nb + 1) 39 wr F (.slice ca l.len cc) l ys

section
variable {w wr V w3 : World} {bb rb nb : Nat} {k o : Int} {t : List UInt8} {cv : Value} {F : Fixed} {ca : Option Addr} {cc : Nat} {l : Fr} {ys : List Value}

theorem Fill2.nlt (h : Fill2 w bb rb nb k o t cv wr F ca cc l ys) : nb < wr.heap.size := (Array.getElem?_eq_some_iff.1 h.row).1
theorem Fill2.next (h : Fill2 w bb rb nb k o t cv wr F ca cc l ys) (hg : wr.grownBy V none) : Fill2 w bb rb nb k o t cv V F ca cc l ys := by
  have h2 := h.e2
  have h3 := h.e3
  have hn := h.nlt
  exact ⟨h.e1, h2, h3, h.grown.trans hg, (hg.block bb (by omega) (by simp)).trans h.box, (hg.block rb (by omega) (by simp)).trans h.res, (hg.block nb hn (by simp)).trans h.row, h.kids.turn hg.size fun b _ hl => hg.block b hl (by simp)⟩
theorem Fill2.drew (h : Fill2 w bb rb nb k o t cv wr F ca cc l ys) : Fill2 w bb rb nb k o t cv wr.drew F ca cc l ys := h.next (grown_drewN wr 1 none)
theorem Fill2.alloc (h : Fill2 w bb rb nb k o t cv wr F ca cc l ys) (ob : Obj) : Fill2 w bb rb nb k o t cv (wr.alloc ob) F ca cc l ys := h.next (World.grownBy_alloc _ _ _)
theorem Fill2.c2 (h : Fill2 w bb rb nb k o t cv wr F ca cc l ys) : wr.cell? ⟨nb, 2, none⟩ = some (.slice ca l.len cc) := row_c2 h.row
theorem Fill2.after (h : Fill2 w bb rb nb k o t cv V F ca cc l ys) {g c2 m : Nat} {news : List Value} (hA : Appended V w3 (nb + 1) 39 4 (.slice ca l.len cc) l.len ys m news g c2) :
    w3.heap[nb]? = some (.cells #[.int .i64 k, .string ⟨t.toArray⟩, .slice ca l.len cc, .int .i64 o] 39 (0, 0)) :=
  (hA.grown.block nb h.nlt (fun e => by have := (h.kids.own.lt nb e.symm).1; omega)).trans h.row

/-- One node more. -/
theorem Fill2.more (h : Fill2 w bb rb nb k o t cv V F ca cc l ys) {F2 : Fixed} {k2 o2 : Int} {t2 : List UInt8} {c : Fr} {a : Option Addr} {n m g c2 lo : Nat} (hrd : Rd V F2 4 c.dat (.slice a n m)) (hlow : ∀ b j, F2 b j → lo ≤ b ∧ b < V.heap.size)
    (hlo : ∀ b, (Value.slice ca l.len cc).ownBlock = some b → b < lo) (hlo' : nb + 1 ≤ lo) {T : TypeId}
    (hA : Appended (V.alloc (.cells #[.int .i64 k2, .string ⟨t2.toArray⟩, .slice a n m, .int .i64 o2] T (0, 0))) w3 (nb + 1) 39 4 (.slice ca l.len cc) l.len ys 1 [.int .i64 k2, .string ⟨t2.toArray⟩, .slice a n m, .int .i64 o2] g c2) :
    ∃ F' ys', Fill2 w bb rb nb k o t cv (w3.setCell ⟨nb, 2, none⟩ (.slice (some ⟨g, 0, none⟩) (l.len + 1) c2)) F' (some ⟨g, 0, none⟩) c2 (l.app (.cons k2 t2 c o2 .nil)) ys' := by
  have hV := h.alloc (.cells #[.int .i64 k2, .string ⟨t2.toArray⟩, .slice a n m, .int .i64 o2] T (0, 0))
  obtain ⟨F', hK⟩ := hV.kids.added (k := k2) (o := o2) (t := t2) (kids := c) (kv := .slice a n m) (hrd.below ((Below.refl _ _).alloc (Nat.le_refl _) _))
    (fun b j hf => ⟨by have := (hlow b j hf).1; omega, by have := (hlow b j hf).2; simp; omega, fun e => by have := hlo b e; have := (hlow b j hf).1; omega⟩) (by have := hV.nlt; omega) hA
  have hrow := hV.after hA
  have hnl : (l.app (.cons k2 t2 c o2 .nil)).len = l.len + 1 := by rw [Fr.len_app]; rfl
  have h1 := h.e1
  have h2 := h.e2
  have h3 := h.e3
  have hblk : ∀ b, b < nb → (w3.setCell ⟨nb, 2, none⟩ (.slice (some ⟨g, 0, none⟩) (l.len + 1) c2)).heap[b]? = (V.alloc (.cells #[.int .i64 k2, .string ⟨t2.toArray⟩, .slice a n m, .int .i64 o2] T (0, 0))).heap[b]? := fun b hb => by
    rw [setCell_far (by omega)]
    exact hA.grown.block b (by have := hV.nlt; omega) (fun e => by have := (hV.kids.own.lt b e.symm).1; omega)
  refine ⟨F', ys ++ [.int .i64 k2, .string ⟨t2.toArray⟩, .slice a n m, .int .i64 o2], h.e1, h.e2, h.e3, ?_, (hblk bb (by omega)).trans hV.box, (hblk rb (by omega)).trans hV.res, ?_, ?_⟩
  · exact ⟨hA.grown.os.trans hV.grown.os, hA.grown.tape.trans hV.grown.tape, hA.grown.output.trans hV.grown.output, by simp only [World.size_setCell]; exact Nat.le_trans hV.grown.size hA.grown.size, fun i hi hn => (hblk i (by omega)).trans (hV.grown.block i hi hn)⟩
  · rw [hnl]
    exact setCell_row hrow
  · rw [hnl]
    exact hK.turn (by simp only [World.size_setCell]; exact Nat.le_refl _) fun b hb _ => setCell_far (by omega)

/-- The result is written. -/
structure Put2 (w : World) (rb nb : Nat) (a b : Value) (ca : Option Addr) (cc : Nat) (d : Value) (F : Fixed) (l : Fr) (X : World) : Prop where
  grown : w.grownBy X none
  row : X.heap[rb]? = some (.cells #[a, b, .slice ca l.len cc, d] 39 (0, 0))
  rd : Rd X F 4 l.dat (.slice ca l.len cc)
  low : ∀ b j, F b j → w.heap.size ≤ b ∧ b < X.heap.size
theorem Fill2.fin (h : Fill2 w bb rb nb k o t cv V F ca cc l ys) : Put2 w rb nb (.int .i64 k) (.string ⟨t.toArray⟩) ca cc (.int .i64 o) F l ((((V.setCell ⟨rb, 0, none⟩ (.int .i64 k)).setCell ⟨rb, 1, none⟩ (.string ⟨t.toArray⟩)).setCell ⟨rb, 2, none⟩ (.slice ca l.len cc)).setCell ⟨rb, 3, none⟩ (.int .i64 o)) := by
  have h1 := h.e1
  have h2 := h.e2
  have h3 := h.e3
  have hf : ∀ b, b ≠ rb → ((((V.setCell ⟨rb, 0, none⟩ (.int .i64 k)).setCell ⟨rb, 1, none⟩ (.string ⟨t.toArray⟩)).setCell ⟨rb, 2, none⟩ (.slice ca l.len cc)).setCell ⟨rb, 3, none⟩ (.int .i64 o)).heap[b]? = V.heap[b]? := fun b hb => by
    rw [setCell_far hb, setCell_far hb, setCell_far hb, setCell_far hb]
  have hK := h.kids.turn (X := ((((V.setCell ⟨rb, 0, none⟩ (.int .i64 k)).setCell ⟨rb, 1, none⟩ (.string ⟨t.toArray⟩)).setCell ⟨rb, 2, none⟩ (.slice ca l.len cc)).setCell ⟨rb, 3, none⟩ (.int .i64 o))) (by simp only [World.size_setCell]; exact Nat.le_refl _) fun b hb _ => hf b (by omega)
  refine ⟨⟨h.grown.os, h.grown.tape, h.grown.output, by simp only [World.size_setCell]; exact h.grown.size, fun i hi hn => (hf i (by omega)).trans (h.grown.block i hi hn)⟩, set4_cells h.res, hK.rd, fun b j hfj => ⟨by have := (hK.low b j hfj).1; omega, (hK.low b j hfj).2⟩⟩
theorem Put2.c0 {a b d : Value} {X : World} (h : Put2 w rb nb a b ca cc d F l X) : X.cell? ⟨rb, 0, none⟩ = some a := row_c0 h.row
theorem Put2.c1 {a b d : Value} {X : World} (h : Put2 w rb nb a b ca cc d F l X) : X.cell? ⟨rb, 1, none⟩ = some b := row_c1 h.row
theorem Put2.c2 {a b d : Value} {X : World} (h : Put2 w rb nb a b ca cc d F l X) : X.cell? ⟨rb, 2, none⟩ = some (.slice ca l.len cc) := row_c2 h.row
theorem Put2.c3 {a b d : Value} {X : World} (h : Put2 w rb nb a b ca cc d F l X) : X.cell? ⟨rb, 3, none⟩ = some d := row_c3 h.row
end

def ConvOk (c : Fr) : Prop := ∀ (w : World) (G : Fixed) (k o : Int) (t : List UInt8) (a : Option Addr) (n m : Nat), Rd w G 4 c.dat (.slice a n m) →
    Calls Tryd.prog 18 #[.agg #[.int .i64 k, .string ⟨t.toArray⟩, .slice a n m, .int .i64 o]] w (ConvDone w k t c o)

set_option maxRecDepth 100000 in
set_option maxHeartbeats 6400000 in
theorem conv_step (c : Fr) (hc : c.size ≤ 65536) (IH : Hid (∀ c', c'.size < c.size → ConvOk c')) : ConvOk c := by
  intro w G k o t a n m hrd
  obtain ⟨hn, hnm, hm⟩ := hrd.form
  have HR := Lib.hid hrd
  have HN := Lib.hid hn
  have hlen : n ≤ 65536 := by have := Fr.len_le_size c; omega
  clear hrd hn hm
  obtain ⟨ti, hi0, hz0, hz1', hz2'⟩ := info_parts infoNode
  have Hz0 := Lib.hid hz0
  have Hz1 := Lib.hid hz1'
  have Hz2 := Lib.hid hz2'
  have Hi0 := Lib.hid hi0
  clear hz0 hz1' hz2' hi0
  go_enter Tryd.func18, Tryd.ntmps18
  go_wp2_with fail
  obtain ⟨Y, hY⟩ : ∃ Y, ((w.alloc (.cells #[.int .i64 k, .string ⟨t.toArray⟩, .slice a n m, .int .i64 o] 26)).alloc (.cells #[.int .i64 0, .string ⟨#[]⟩, .slice none 0 0, .int .i64 0] 39)).alloc (.cells #[.int .i64 k, .string ⟨t.toArray⟩, .slice none 0 0, .int .i64 o] 39) = Y := ⟨_, rfl⟩
  have HF : Hid (Fill2 w w.heap.size (w.heap.size + 1) (w.heap.size + 1 + 1) k o t (.slice a n m) Y (fun _ _ => False) none 0 .nil []) := by
    rw [← hY]
    refine ⟨rfl, by omega, by omega, ((World.grownBy_alloc _ _ _).trans (World.grownBy_alloc _ _ _)).trans (World.grownBy_alloc _ _ _), ?_, ?_, ?_, Kids.nil _ _ _⟩
    · rw [Below.heap_alloc _ _ _ (by simp; omega), Below.heap_alloc _ _ _ (by simp)]; exact heap_alloc_new w _
    · rw [Below.heap_alloc _ _ _ (by simp)]
      have := heap_alloc_new (w.alloc (.cells #[.int .i64 k, .string ⟨t.toArray⟩, .slice a n m, .int .i64 o] 26)) (.cells #[.int .i64 0, .string ⟨#[]⟩, .slice none 0 0, .int .i64 0] 39)
      simpa using this
    · have := heap_alloc_new ((w.alloc (.cells #[.int .i64 k, .string ⟨t.toArray⟩, .slice a n m, .int .i64 o] 26)).alloc (.cells #[.int .i64 0, .string ⟨#[]⟩, .slice none 0 0, .int .i64 0] 39)) (.cells #[.int .i64 k, .string ⟨t.toArray⟩, .slice none 0 0, .int .i64 o] 39)
      simpa [Fr.len] using this
  rw [hY]
  obtain ⟨nb, hnb⟩ : ∃ r, w.heap.size + 1 + 1 = r := ⟨_, rfl⟩
  rw [hnb] at HF ⊢
  obtain ⟨rb, hrb⟩ : ∃ r, w.heap.size + 1 = r := ⟨_, rfl⟩
  rw [hrb] at HF ⊢
  obtain ⟨bb, hbb⟩ : ∃ r, w.heap.size = r := ⟨_, rfl⟩
  rw [hbb] at HF ⊢
  clear hnb hrb hbb hY
  go_loopg [4] n (fun kk v wr => ∃ i F ca cc ys, kk = n - i ∧ i ≤ n ∧ v = .int .i64 (i : Nat) ∧ Fill2 w bb rb nb k o t (.slice a n m) wr F ca cc (c.take i) ys)
  case atStart => exact ⟨0, _, _, _, _, by omega, Nat.zero_le _, rfl, by rw [Fr.take_zero]; exact HF.out⟩
  case round =>
    obtain ⟨i, F, ca, cc, ys, hk, hi, rfl, hfl⟩ := hrel
    rename World => U
    have B1 := Lib.hid hk
    have HFl := Lib.hid hfl
    have HQ : Hid ((c.take i).len = i) := Fr.len_take (by have := HN.out; omega)
    have b2 := row_c2 HFl.out.drew.box
    have b2' := row_c2 HFl.out.box
    clear hk hfl HF
    by_cases hlt : i < n
    · have hi0 : (0 : Int) ≤ (i : Int) := by omega
      have hi1 : (i : Int) < (n : Int) := by omega
      have hwi : IntKind.i64.wrap ((i : Int) + 1) = (i : Int) + 1 := wrap_i64 (by omega) (by omega)
      obtain ⟨k2, t2, c2, o2, hnth, hsz⟩ := Fr.nth_lt (l := c) (i := i) (by have := HN.out; omega)
      have HT := Lib.hid hnth
      have HS := Lib.hid hsz
      obtain ⟨xb, xo, xa, xn, xm, rfl, x0, x1, x2, x3, hx⟩ := (HR.out.grown HFl.out.drew.grown).elem hnth
      have HX := Lib.hid hx
      have u2 := HFl.out.drew.c2
      rw [HQ.out] at u2
      have hown : ∀ b, (Value.slice ca (c.take i).len cc).ownBlock = some b → b < U.heap.size := fun b e => (HFl.out.kids.own.lt b e).2
      have HO := Lib.hid hown
      have HUL := Lib.hid HFl.out.nlt
      clear hown hnth hsz hx
      go_wp2_with fail
      go_region_law (first
        | (refine step_append_fix _ (by rfl) _ _ _ (by rfl) (nb + 1) 39 ti _ 4 56 Tryd.underlying30 Hi0.out Hz0.out Hz1.out Hz2.out rfl (by omega) (.slice ca i cc) i ys (by rfl) (HQ.out ▸ (HV.out.alloc _).kids.own) ⟨V.heap.size, 0, none⟩ 1 1 [.int .i64 k2, .string ⟨t2.toArray⟩, .slice ya yn ym, .int .i64 o2] (by rfl) (by rfl) (World.news_of_block (cs := #[.int .i64 k2, .string ⟨t2.toArray⟩, .slice ya yn ym, .int .i64 o2]) (t := 39) (fr := (0, 0)) (heap_alloc_new V _)) (by simp [Value.oneCell']) (by omega) (by unfold maxLen; omega) (by omega) (by have := HV.out.nlt; simp; omega) ?_; intro g cg w3 hAp; have hrow3 := (HV.out.alloc _).after (HQ.out.symm ▸ hAp); have t2' := row_c2 hrow3; have t3' := row_fz hrow3; have HA := Lib.hid hAp; clear hrow3 hAp)
        | (refine step_call rfl 18 #[.agg #[.int .i64 k2, .string ⟨t2.toArray⟩, .slice xa xn xm, .int .i64 o2]] (by kernel_rfl) ?_; refine (IH.out c2 HS.out _ G k2 o2 t2 xa xn xm HX.out).mono ?_; rintro e V ⟨ya, yn, ym, F2, rfl, hrd, hlow, hgr⟩; refine ⟨_, rfl, ?_⟩; have HV := Lib.hid (HFl.out.drew.next hgr); have v2 := HV.out.c2; have v4 := (HV.out.alloc (.cells #[.int .i64 k2, .string ⟨t2.toArray⟩, .slice ya yn ym, .int .i64 o2] 39 (0, 0))).c2; rw [HQ.out] at v2 v4; have HRd := Lib.hid hrd; have HLo := Lib.hid hlow; clear hrd hlow hgr))
      all_goals
        obtain ⟨F', ys', hf'⟩ := HV.out.more HRd.out HLo.out HO.out HUL.out (HQ.out.symm ▸ HA.out)
        rw [HQ.out, ← Fr.take_succ HT.out] at hf'
        have HNx := Lib.hid hf'
        clear hf'
        go_wp2_with fail
        go_roundg (n - (i + 1))
        case measure => have := B1.out; omega
        case rel => exact ⟨i + 1, F', _, _, ys', rfl, by omega, by go_num, HNx.out⟩
    · have hin : i = n := by omega
      subst hin
      have htk : c.take i = c := by rw [HN.out]; exact Fr.take_len
      rw [htk] at HFl
      have n0 := row_c0 HFl.out.row
      have n1 := row_c1 HFl.out.row
      have n2 := row_c2 HFl.out.row
      have n3 := row_c3 HFl.out.row
      have q0 := row_c0 HFl.out.res
      have q1 := row_c1 HFl.out.res
      have q2 := row_c2 HFl.out.res
      have q3 := row_c3 HFl.out.res
      have q4 := row_fz HFl.out.res
      go_wp2_with fail
      have HP := HFl.out.fin
      generalize ((((U.setCell ⟨rb, 0, none⟩ (.int .i64 k)).setCell ⟨rb, 1, none⟩ (.string ⟨t.toArray⟩)).setCell ⟨rb, 2, none⟩ (.slice ca c.len cc)).setCell ⟨rb, 3, none⟩ (.int .i64 o)) = X at HP ⊢
      have y0 := HP.c0
      have y1 := HP.c1
      have y2 := HP.c2
      have y3 := HP.c3
      (try simp only [Exit.inBlock, Exit.then])
      refine bodyPost_ret (v := .agg #[.int .i64 k, .string ⟨t.toArray⟩, .slice ca c.len cc, .int .i64 o]) (by simp [results, Tryd.results18, go_sem, y0, y1, y2, y3]) rfl ?_
      exact ⟨ca, c.len, cc, F, rfl, HP.rd, HP.low, HP.grown⟩

theorem conv_any (N : Nat) (hN : N ≤ 65536) : ∀ (c : Fr), c.size ≤ N → ConvOk c := by
  induction N with
  | zero => exact fun c hc => conv_step c (by omega) (fun c' h => by omega)
  | succ N ih => exact fun c hc => conv_step c (by omega) (fun c' h => ih (by omega) c' (by omega))
end Go.Proofs.YtnaabplppfikcaaDoor
