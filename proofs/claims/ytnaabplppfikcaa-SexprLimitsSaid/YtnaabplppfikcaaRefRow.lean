/- The rows of nodes that the reference collects. -/
import Derived.Test.YtnaabplppfikcaaRefQuoted
namespace Go.Proofs.Ytnaabplppfikcaa
open Go.RowKit

theorem infoRefNode : (Try.prog.info? 52).map (fun i => (i.zero, i.size, i.bytes)) = some (some (.agg #[.int .i64 0, .string ⟨#[]⟩, .slice none 0 0, .int .i64 0]), 4, 56) := by kernel_rfl

/-- The row 'v' of the running call stands for the nodes l. -/
structure Row (w : World) (wr : World) (F : Fixed) (v : Value) (l : Fr) (n : Nat) (ys : List Value) : Prop where
  len : n = l.len
  enc : Enc wr F l.dat ys
  low : ∀ b j, F b j → w.heap.size ≤ b ∧ b < wr.heap.size
  exact : ∀ b, v.ownBlock = some b → ∀ j, F b j ↔ j < n * 4

theorem Row.turn {w wr X : World} {F : Fixed} {v : Value} {l : Fr} {n : Nat} {ys : List Value} (h : Row w wr F v l n ys) (hs : wr.heap.size ≤ X.heap.size) (hb : ∀ b, w.heap.size ≤ b → b < wr.heap.size → X.heap[b]? = wr.heap[b]?) : Row w X F v l n ys :=
  ⟨h.len, h.enc.mono (fun b j hf => World.cell?_of_block (hb b (h.low b j hf).1 (h.low b j hf).2)) (fun _ _ h => h), fun b j hf => ⟨(h.low b j hf).1, Nat.lt_of_lt_of_le (h.low b j hf).2 hs⟩, h.exact⟩

/-- One node more. -/
theorem Row.added {w Y w1 : World} {F F2 : Fixed} {v : Value} {l : Fr} {n : Nat} {ys : List Value} (h : Row w Y F v l n ys) {k o : Int} {t : List UInt8} {kids : Fr} {kv : Value} (hk : Rd Y F2 4 kids.dat kv) (hown : Y.ownsRow w.heap.size 52 4 v n ys)
    (hF2 : ∀ b j, F2 b j → w.heap.size ≤ b ∧ b < Y.heap.size ∧ v.ownBlock ≠ some b) {g c2 : Nat} (hbw : w.heap.size ≤ Y.heap.size)
    (hA : Appended Y w1 w.heap.size 52 4 v n ys 1 [.int .i64 k, .string ⟨t.toArray⟩, kv, .int .i64 o] g c2) :
    ∃ F', Row w w1 F' (.slice (some ⟨g, 0, none⟩) (n + 1) c2) (l.app (.cons k t kids o .nil)) (n + 1) (ys ++ [.int .i64 k, .string ⟨t.toArray⟩, kv, .int .i64 o]) := by
  have hx : Fix F Y w1 := fun b j hf => hA.fix b j (h.low b j hf).2 (fun e => (h.exact b e j).1 hf)
  have hx2 : Fix F2 Y w1 := fun b j hf => hA.fix b j (hF2 b j hf).2.1 (fun e => ((hF2 b j hf).2.2 e).elim)
  have hsz := hA.grown.size
  refine ⟨fun b j => F b j ∨ F2 b j ∨ (b = g ∧ j < (n + 1) * 4), by rw [Fr.len_app, h.len]; rfl, ?_, ?_, ?_⟩
  · rw [Fr.dat_app]
    refine Enc.app (e := Fr.dat (.cons k t kids o .nil)) ?_ (h.enc.mono hx fun _ _ hf => .inl hf)
    obtain ⟨zs, hz1, hz2⟩ := hk
    exact ⟨_, rfl, _, rfl, kv, zs, _, rfl, hz1.mono hx2 fun _ _ hf => .inr (.inl hf), hz2.mono hx2 fun _ _ hf => .inr (.inl hf), _, rfl, rfl⟩
  · rintro b j (hf | hf | ⟨rfl, _⟩)
    · exact ⟨(h.low b j hf).1, Nat.lt_of_lt_of_le (h.low b j hf).2 hsz⟩
    · exact ⟨(hF2 b j hf).1, Nat.lt_of_lt_of_le (hF2 b j hf).2.1 hsz⟩
    · refine ⟨?_, hA.lt⟩
      rcases hA.lies with e | ⟨e, _⟩
      · exact (hown.lt b e).1
      · omega
  · intro b e j
    have e' : g = b := by simpa [Value.ownBlock] using e
    subst e'
    refine ⟨fun hf => ?_, fun hj => .inr (.inr ⟨rfl, hj⟩)⟩
    rcases hf with hf | hf | hf
    · rcases hA.lies with e | ⟨e, _⟩
      · have := (h.exact g e j).1 hf; omega
      · have := (h.low g j hf).2; omega
    · rcases hA.lies with e | ⟨e, _⟩
      · exact ((hF2 g j hf).2.2 e).elim
      · have := (hF2 g j hf).2.1; omega
    · exact hf.2

/-- What 'nodes' hands back. -/
def NodesDone (s : ByteArray) (q0 depth pb : Nat) (w : World) (e : Ending) (w' : World) : Prop :=
  ∃ (v : Value) (n : Nat) (ys : List Value) (q : Nat) (fk : Int) (fo : Nat), e = .returned v ∧ RLow w w' pb s q fk fo ∧ w'.ownsRow w.heap.size 52 4 v n ys ∧ q ≤ 65577 - depth ∧ q0 ≤ q ∧
    ((¬ fk = 0 ∧ ∀ p (st0 : Stack), st0.length = depth → go ((bytes s).drop q0) q0 .plain ((p, .nil) :: st0) = .error (fk, fo)) ∨
     (fk = 0 ∧ fo = 0 ∧ q ≤ s.size ∧ ∃ l F, Row w w' F v l n ys ∧ (depth = 0 → ∀ p, go ((bytes s).drop q0) q0 .plain [(p, .nil)] = .ok l) ∧
      (0 < depth → ∃ h : q < s.size, (s[q].toNat : Int) = 41 ∧ ∀ p (st0 : Stack), st0.length = depth → go ((bytes s).drop q0) q0 .plain ((p, .nil) :: st0) = go ((bytes s).drop q) q .plain ((p, l) :: st0))))

/-- The loop of 'nodes'. -/
def NRel (s : ByteArray) (q0 depth pb : Nat) (w : World) (k : Nat) (v : Value) (wr : World) : Prop :=
  ∃ (n : Nat) (ys : List Value) (q : Nat) (fk : Int) (fo : Nat), (fk = 0 → k = s.size - q + 1) ∧ RLow w wr pb s q fk fo ∧ wr.ownsRow w.heap.size 52 4 v n ys ∧ n ≤ q ∧ q ≤ 65577 - depth ∧ q0 ≤ q ∧
    ((¬ fk = 0 ∧ ∀ p (st0 : Stack), st0.length = depth → go ((bytes s).drop q0) q0 .plain ((p, .nil) :: st0) = .error (fk, fo)) ∨
     (fk = 0 ∧ fo = 0 ∧ q ≤ s.size ∧ ∃ l F, Row w wr F v l n ys ∧ ∀ p (st0 : Stack), st0.length = depth → go ((bytes s).drop q0) q0 .plain ((p, .nil) :: st0) = go ((bytes s).drop q) q .plain ((p, l) :: st0)))

/-- A faulty end. -/
theorem nodes_fault {s : ByteArray} {q0 depth pb : Nat} {w w' : World} {v : Value} {n : Nat} {ys : List Value} {q : Nat} {fk : Int} {fo : Nat} (hl : RLow w w' pb s q fk fo) (hown : w'.ownsRow w.heap.size 52 4 v n ys) (h1 : q ≤ 65577 - depth) (h2 : q0 ≤ q) (hk : ¬ fk = 0)
    (h : ∀ p (st0 : Stack), st0.length = depth → go ((bytes s).drop q0) q0 .plain ((p, .nil) :: st0) = .error (fk, fo)) : NodesDone s q0 depth pb w (.returned v) w' :=
  ⟨v, n, ys, q, fk, fo, rfl, hl, hown, h1, h2, .inl ⟨hk, h⟩⟩

theorem own_low {w wr X : World} {pb : Nat} {s : ByteArray} {q : Nat} {fk fo : Int} {e : TypeId} {size n : Nat} {v : Value} {ys : List Value} (h : wr.ownsRow w.heap.size e size v n ys) (hl : RLow wr X pb s q fk fo) (hp : pb < w.heap.size) : X.ownsRow w.heap.size e size v n ys :=
  ownsRow_of_block h fun b e => hl.other b (h.lt b e).2 (by have := (h.lt b e).1; omega)
theorem Row.ofLow {w wr X : World} {pb : Nat} {s : ByteArray} {q : Nat} {fk fo : Int} {F : Fixed} {v : Value} {l : Fr} {n : Nat} {ys : List Value} (h : Row w wr F v l n ys) (hl : RLow wr X pb s q fk fo) (hp : pb < w.heap.size) : Row w X F v l n ys :=
  h.turn hl.size fun b h1 h2 => hl.other b h2 (by omega)
end Go.Proofs.Ytnaabplppfikcaa
