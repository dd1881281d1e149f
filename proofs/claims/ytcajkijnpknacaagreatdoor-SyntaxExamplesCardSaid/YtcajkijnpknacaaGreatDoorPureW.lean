/- Functions of data in a whole world: what they answer, and that they turn nothing old. -/
import Derived.Test.YtcajkijnpknacaaGreatDoorCon
namespace Go.Proofs.YtcajkijnpknacaaGreatDoor
open Go Go.RowKit

/-- The tables that package variables hold. -/
def TabsAt (T : Nat → Option D) (W : World) : Prop := ∀ g d, T g = some d → ∃ arr ty fr u, fzAll W g = some (.cells arr ty fr) ∧ arr[0]? = some u ∧ DR (fzAll W) d u

theorem fzAll_below {B : Nat} {W W' : World} (h : Below B W W') (hB : W.heap.size ≤ B) : FExt (fzAll W) (fzAll W') := fun g o hg => by
  have hlt : g < W.heap.size := (Array.getElem?_eq_some_iff.1 hg).1
  exact (h.block g (by omega)).trans hg
theorem TabsAt.below {T : Nat → Option D} {B : Nat} {W W' : World} (ht : TabsAt T W) (h : Below B W W') (hB : W.heap.size ≤ B) : TabsAt T W' := fun g d hd => by
  obtain ⟨arr, ty, fr, u, h1, h2, h3⟩ := ht g d hd
  exact ⟨arr, ty, fr, u, fzAll_below h hB _ _ h1, h2, h3.mono (fzAll_below h hB)⟩

theorem PureC.at_ {T : Nat → Option D} {P : Program} {f : FuncId} {das : List DA} {da : DA} (h : PureC T P f das da) {W : World} {us : List Value} (ht : TabsAt T W) (hd : DARs (fzAll W) das us) :
    Calls P f (List.toArray us) W fun e W' => ∃ u, e = .returned u ∧ Below W.heap.size W W' ∧ DAR (fzAll W') da u := by
  refine Calls.mono (h ⟨fun _ => .bool false, T⟩ rfl W.heap.size (Mp.start P W) (sE P) W us (start_glob ht) (start_hr W) hd) ?_
  rintro e w' ⟨u, σ, rfl, h1, _, h3, h4⟩
  exact ⟨u, rfl, h4.below (start_hr (E := ⟨fun _ => .bool false, T⟩) W), h1.mono fun g o hg => h3.frz g o hg⟩

theorem PureC.of_below {T : Nat → Option D} {P : Program} {f : FuncId} {das : List DA} {da : DA}
    (h : ∀ W us, TabsAt T W → DARs (fzAll W) das us → Calls P f (List.toArray us) W fun e W' => ∃ u, e = .returned u ∧ Below W.heap.size W W' ∧ ∀ fz, DAR fz da u) : PureC T P f das da := by
  intro E hE base ρ s w us hg hr hd
  have hx : FExt ρ.fz (fzAll w) := fun g o hgo => hr.frz g o hgo
  refine Calls.mono (h w us (fun g d hgd => ?_) (hd.mono hx)) ?_
  · obtain ⟨arr, ty, fr, u, h1, h2, h3⟩ := hg.tab g d (by rw [hE]; exact hgd)
    exact ⟨arr, ty, fr, u, hx _ _ h1, h2, h3.mono hx⟩
  · rintro e w' ⟨u, rfl, hb, h3⟩
    exact ⟨u, ρ, rfl, h3 _, rfl, hr.off hb.size (fun b o l hb' hl => hb.block _ (hr.loc_lt hb' hl)) (fun g o hgo => hb.block _ (hr.fz_lt hgo)),
      (Turn.refl hr).off ⟨hb.os, hb.tape, hb.output⟩ hb.size fun g hgl => hb.block g hgl⟩
end Go.Proofs.YtcajkijnpknacaaGreatDoor
