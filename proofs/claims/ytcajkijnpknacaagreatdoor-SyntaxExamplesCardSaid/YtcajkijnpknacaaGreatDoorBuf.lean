/- Bytes that a call collects in a slice of its own. No program in sight. -/
import Derived.Test.YtcajkijnpknacaaGreatDoorMem
import Derived.Laws.BytesArg
namespace Go.Proofs.YtcajkijnpknacaaGreatDoor
open Go.RowKit

/- Bytes that the call collects. -/
def byteV (c : UInt8) : Value := .int .u8 (c.toNat : Int)

theorem map_byte (l : List UInt8) : l.map ((fun n : Int => UInt8.ofNat n.toNat) ∘ fun c : UInt8 => (c.toNat : Int)) = l := by
  induction l with
  | nil => rfl
  | cons c l ih => rw [List.map_cons, ih]; simp

theorem convert_own {P : Program} {w W : World} {base : Nat} {e : TypeId} {v : Value} {acc : List UInt8} (h : w.ownsRow base e 1 v acc.length (acc.map byteV)) (hb : ∀ b, v.ownBlock = some b → W.heap[b]? = w.heap[b]?)
    (src dst : TypeId) (hs : P.underlying src = some (.slice e)) (he : P.underlying e = some (.int .u8)) (hd : P.underlying dst = some .string) :
    (convert src dst v).run P W = .ok (.string ⟨acc.toArray⟩) W := by
  have hW : W.ownsRow base e 1 v acc.length (acc.map byteV) := by
    refine ⟨h.1, ?_⟩
    rcases h.2 with hn | ⟨g, cap, cur, rfl, hb0, hgg, rest⟩
    · exact .inl hn
    · exact .inr ⟨g, cap, cur, rfl, hb0, (hb g rfl).trans hgg, rest⟩
  rcases hW.2 with ⟨rfl, hn⟩ | ⟨g, cap, cur, rfl, hb0, hgg, rest⟩
  · have : acc = [] := List.eq_nil_of_length_eq_zero hn
    subst this
    exact run_convert_bytes_nil W src e hs he 0 0 dst hd
  · have hc := hW.cells (g := g) rfl
    have hr := run_convert_bytes_arg (P := P) W src e hs he g 0 acc.length cap (acc.map fun c => (c.toNat : Int)) (by simp) (fun i hi => by
      have := hc i (byteV acc[i]) (by simp [hi])
      rw [Addr.add_lit] at this
      rw [this]
      simp [byteV, List.getD, hi]) dst hd
    rw [hr]
    congr 3
    simp only [strOfNums, List.map_map]
    rw [map_byte]

end Go.Proofs.YtcajkijnpknacaaGreatDoor
