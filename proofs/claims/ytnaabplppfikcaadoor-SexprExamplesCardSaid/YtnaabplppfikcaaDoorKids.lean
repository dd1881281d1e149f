/- Rows of nodes that grow, for both types of nodes; the generated nodes. -/
import Derived.Test.YtnaabplppfikcaaDoorStream
import Derived.Test.YtnaabplppfikcaaDoorNodes
namespace Go.Proofs.YtnaabplppfikcaaDoor
open Go.RowKit

theorem infoRefNode : (Tryd.prog.info? 26).map (fun i => (i.zero, i.size, i.bytes)) = some (some (.agg #[.int .i64 0, .string ⟨#[]⟩, .slice none 0 0, .int .i64 0]), 4, 56) := by kernel_rfl

/-- The row 'v', which may be appended to, stands for the nodes l; all that it reaches lies in blocks from 'base' on. -/
structure Kids (base : Nat) (T : TypeId) (wr : World) (F : Fixed) (v : Value) (l : Fr) (ys : List Value) : Prop where
  own : wr.ownsRow base T 4 v l.len ys
  enc : Enc wr F l.dat ys
  low : ∀ b j, F b j → base ≤ b ∧ b < wr.heap.size
  exact : ∀ b, v.ownBlock = some b → ∀ j, F b j ↔ j < l.len * 4

theorem Kids.nil (base : Nat) (T : TypeId) (w : World) : Kids base T w (fun _ _ => False) (.slice none 0 0) .nil [] :=
  ⟨World.ownsRow_nil _ _ _ _, rfl, fun _ _ h => h.elim, fun b e => by simp [Value.ownBlock] at e⟩

theorem Kids.turn {base : Nat} {T : TypeId} {wr X : World} {F : Fixed} {v : Value} {l : Fr} {ys : List Value} (h : Kids base T wr F v l ys) (hs : wr.heap.size ≤ X.heap.size) (hb : ∀ b, base ≤ b → b < wr.heap.size → X.heap[b]? = wr.heap[b]?) : Kids base T X F v l ys :=
  ⟨ownsRow_of_block h.own fun b e => hb b (h.own.lt b e).1 (h.own.lt b e).2, h.enc.mono (fun b j hf => World.cell?_of_block (hb b (h.low b j hf).1 (h.low b j hf).2)) (fun _ _ h => h), fun b j hf => ⟨(h.low b j hf).1, Nat.lt_of_lt_of_le (h.low b j hf).2 hs⟩, h.exact⟩

/-- One node more. -/
theorem Kids.added {base : Nat} {T : TypeId} {Y w1 : World} {F F2 : Fixed} {v : Value} {l : Fr} {ys : List Value} (h : Kids base T Y F v l ys) {k o : Int} {t : List UInt8} {kids : Fr} {kv : Value} (hk : Rd Y F2 4 kids.dat kv)
    (hF2 : ∀ b j, F2 b j → base ≤ b ∧ b < Y.heap.size ∧ v.ownBlock ≠ some b) {g c2 : Nat} (hbw : base ≤ Y.heap.size)
    (hA : Appended Y w1 base T 4 v l.len ys 1 [.int .i64 k, .string ⟨t.toArray⟩, kv, .int .i64 o] g c2) :
    ∃ F', Kids base T w1 F' (.slice (some ⟨g, 0, none⟩) (l.len + 1) c2) (l.app (.cons k t kids o .nil)) (ys ++ [.int .i64 k, .string ⟨t.toArray⟩, kv, .int .i64 o]) := by
  have hx : Fix F Y w1 := fun b j hf => hA.fix b j (h.low b j hf).2 (fun e => (h.exact b e j).1 hf)
  have hx2 : Fix F2 Y w1 := fun b j hf => hA.fix b j (hF2 b j hf).2.1 (fun e => ((hF2 b j hf).2.2 e).elim)
  have hsz := hA.grown.size
  have hlen : (l.app (.cons k t kids o .nil)).len = l.len + 1 := by rw [Fr.len_app]; rfl
  refine ⟨fun b j => F b j ∨ F2 b j ∨ (b = g ∧ j < (l.len + 1) * 4), by rw [hlen]; exact hA.own, ?_, ?_, ?_⟩
  · rw [Fr.dat_app]
    refine Enc.app (e := Fr.dat (.cons k t kids o .nil)) ?_ (h.enc.mono hx fun _ _ hf => .inl hf)
    obtain ⟨zs, hz1, hz2⟩ := hk
    exact ⟨_, rfl, _, rfl, kv, zs, _, rfl, hz1.mono hx2 fun _ _ hf => .inr (.inl hf), hz2.mono hx2 fun _ _ hf => .inr (.inl hf), _, rfl, rfl⟩
  · rintro b j (hf | hf | ⟨rfl, _⟩)
    · exact ⟨(h.low b j hf).1, Nat.lt_of_lt_of_le (h.low b j hf).2 hsz⟩
    · exact ⟨(hF2 b j hf).1, Nat.lt_of_lt_of_le (hF2 b j hf).2.1 hsz⟩
    · refine ⟨?_, hA.lt⟩
      rcases hA.lies with e | ⟨e, _⟩
      · exact (h.own.lt b e).1
      · omega
  · intro b e j
    rw [hlen]
    have e' : g = b := by simpa [Value.ownBlock] using e
    subst e'
    refine ⟨fun hf => ?_, fun hj => .inr (.inr ⟨rfl, hj⟩)⟩
    rcases hf with hf | hf | hf
    · rcases hA.lies with e | ⟨e, _⟩
      · have := (h.exact g e j).1 hf; omega
      · have := (h.low g j hf).2; omega
    · rcases hA.lies with e | ⟨e, _⟩
      · exact ((hF2 g j hf).2.2 e).elim
      · have := (hF2 g j hf).2.1; omega
    · exact hf.2

theorem Kids.rd {base : Nat} {T : TypeId} {w : World} {F : Fixed} {v : Value} {l : Fr} {ys : List Value} (h : Kids base T w F v l ys) : Rd w F 4 l.dat v := by
  refine ⟨ys, ?_, h.enc⟩
  have hlen := h.own.1
  rcases h.own.2 with ⟨rfl, hn⟩ | ⟨g, cap, cur, rfl, h1, h2, h3, h4, h5, h6⟩
  · exact .inl ⟨rfl, List.length_eq_zero_iff.1 (by rw [hlen, hn])⟩
  · refine .inr ⟨g, 0, l.len, cap, rfl, h3, h4, hlen, fun j u hu => ?_⟩
    have hj : j < l.len * 4 := by rw [← hlen]; exact (List.getElem?_eq_some_iff.1 hu).1
    refine ⟨(h.exact g rfl _).2 (by omega), ?_⟩
    have hc := h.own.cells (g := g) rfl j u hu
    rwa [Addr.add_lit] at hc

/-- The tables of the generator. -/
def wordsL : List (List UInt8) := [[97], [120, 49], [45, 55], [48], [66, 111, 120], [97, 100, 100], [108, 101, 116], [116, 114, 117, 101], [110, 105, 108], [65], [65, 110, 121], [116, 117, 112, 108, 101], [97, 45, 98], [101, 120, 105, 115, 116, 115], [116, 97, 115, 107], [50, 49, 52, 55, 52, 56, 51, 54, 52, 56]]
def strsL : List (List UInt8) := [[], [97, 32, 98], [113, 117, 111, 116, 101, 32, 34, 32, 97, 110, 100, 32, 92], [126], [40, 110, 111, 116, 32, 97, 32, 108, 105, 115, 116, 41], [59, 32, 110, 111, 32, 99, 111, 109, 109, 101, 110, 116]]
def wordT (i : Nat) : List UInt8 := wordsL.getD i []
def strT (i : Nat) : List UInt8 := strsL.getD i []
structure Tabs (w : World) (wb wo wc tb to tc : Nat) : Prop where
  gw : w.cell? ⟨2, 0, none⟩ = some (.slice (some ⟨wb, wo, none⟩) 16 wc)
  gs : w.cell? ⟨1, 0, none⟩ = some (.slice (some ⟨tb, to, none⟩) 6 tc)
  ws : ∀ i, i < 16 → w.cell? ⟨wb, wo + i, none⟩ = some (.string ⟨(wordT i).toArray⟩)
  ss : ∀ i, i < 6 → w.cell? ⟨tb, to + i, none⟩ = some (.string ⟨(strT i).toArray⟩)

/-- The tables lie in none of the blocks that are written. -/
structure Free (wb tb sb : Nat) : Prop where
  a : 2 ≠ sb
  b : 1 ≠ sb
  c : wb ≠ sb
  d : tb ≠ sb

theorem Tabs.grown {w w' : World} {wb wo wc tb to tc sb : Nat} (h : Tabs w wb wo wc tb to tc) (hg : w.grownBy w' (some sb)) (hf : Free wb tb sb) : Tabs w' wb wo wc tb to tc :=
  ⟨hg.cell h.gw (fun e => hf.a (Option.some.inj e)), hg.cell h.gs (fun e => hf.b (Option.some.inj e)), fun i hi => hg.cell (h.ws i hi) (fun e => hf.c (Option.some.inj e)), fun i hi => hg.cell (h.ss i hi) (fun e => hf.d (Option.some.inj e))⟩

/-- A generated row of nodes: words and strings of the tables, lists of at most four; where 'bad', malformed ones too. -/
def Gen (bad : Bool) : Fr → Nat → Prop
  | .nil, _ => True
  | .cons k t c o r, d => ((k = 1 ∧ (∃ i, i < 16 ∧ t = wordT i) ∧ c = .nil ∧ o = 0) ∨ (k = 2 ∧ (∃ i, i < 6 ∧ t = strT i) ∧ c = .nil ∧ o = 0) ∨ (0 < d ∧ k = 3 ∧ t = [] ∧ o = 0 ∧ c.len ≤ 4 ∧ Gen bad c (d - 1)) ∨
      (bad = true ∧ 0 ≤ k ∧ k < 5 ∧ (∃ i, i < 6 ∧ t = strT i) ∧ o = 0 ∧ ∃ j, j < 16 ∧ c = .cons 1 (wordT j) .nil 0 .nil) ∨
      (bad = true ∧ k = 1 ∧ (∃ i, i < 6 ∧ t = strT i) ∧ c = .nil)) ∧ Gen bad r d

theorem Gen.app {bad : Bool} {d : Nat} {b : Fr} (hb : Gen bad b d) : ∀ {a : Fr}, Gen bad a d → Gen bad (a.app b) d
  | .nil, _ => hb
  | .cons _ _ _ _ _, h => ⟨h.1, Gen.app hb h.2⟩

/-- How many nodes a generated row has at most. -/
def most : Nat → Nat
  | 0 => 2
  | d + 1 => 1 + 4 * most d
theorem most_two (d : Nat) : 2 ≤ most d := by cases d with
  | zero => exact Nat.le_refl _
  | succ d => have := most_two d; simp only [most]; omega
theorem Gen.size {bad : Bool} : ∀ {l : Fr} {d : Nat}, Gen bad l d → l.size ≤ l.len * most d
  | .nil, _, _ => Nat.zero_le _
  | .cons k t c o r, d, h => by
    have hr := Gen.size h.2
    have h2 := most_two d
    have hc : c.size + 1 ≤ most d := by
      rcases h.1 with h1 | h1 | h1 | h1 | h1
      · rw [h1.2.2.1]; simp [Fr.size]; omega
      · rw [h1.2.2.1]; simp [Fr.size]; omega
      · obtain ⟨d', rfl⟩ : ∃ d', d = d' + 1 := ⟨d - 1, by omega⟩
        have := Gen.size h1.2.2.2.2.2
        have h4 : c.len * most d' ≤ 4 * most d' := Nat.mul_le_mul_right _ h1.2.2.2.2.1
        simp only [Nat.add_sub_cancel] at this
        simp only [most]; omega
      · obtain ⟨_, _, _, _, _, j, _, rfl⟩ := h1; simp [Fr.size]; omega
      · rw [h1.2.2.2]; simp [Fr.size]; omega
    simp only [Fr.size, Fr.len, Nat.add_mul, Nat.one_mul] at hr ⊢
    omega
end Go.Proofs.YtnaabplppfikcaaDoor
