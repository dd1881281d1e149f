/- sexpr.Format. -/
import Derived.Test.YtnaabplppfikcaaDoorForm
import Derived.Test.YtnaabplppfikcaaDoorShelfB
namespace Go.Proofs.YtnaabplppfikcaaDoor
open Go.RowKit

/-- What Format hands back. -/
def fmtOut (k : Int) (t : List UInt8) (c : Fr) : Value := if vnode k t c 40 = true then .tuple #[.string ⟨(ntxt k t c).toArray⟩, .int .i64 0] else .tuple #[.string ⟨#[]⟩, .int .i64 2]

set_option maxRecDepth 100000 in
set_option maxHeartbeats 3200000 in
theorem format_any (c : Fr) (hc : c.size ≤ 1000000) (w : World) (G : Fixed) (k o : Int) (t : List UInt8) (a : Option Addr) (n m : Nat) (ht : t.length ≤ 1000000) (hsh : c.short) (hlen : (ntxt k t c).length ≤ 1000000) (hrd : Rd w G 4 c.dat (.slice a n m)) :
    Calls Tryd.prog 24 #[.agg #[.int .i64 k, .string ⟨t.toArray⟩, .slice a n m, .int .i64 o]] w (Reads w (fmtOut k t c)) := by
  have HR := Lib.hid hrd
  have HSh := Lib.hid hsh
  have HLn := Lib.hid hlen
  clear hrd hsh hlen
  obtain ⟨r, hr⟩ : ∃ r, vnode k t c 40 = r := ⟨_, rfl⟩
  have HV := Lib.hid hr
  clear hr
  go_enter Tryd.func24, Tryd.ntmps24
  go_wp2_with fail
  refine (Valid_any c hc _ G k o t a n m ht HSh.out (HR.out.below ((Below.refl _ _).alloc (Nat.le_refl _) _))).mono ?_
  rintro e W ⟨rfl, hg⟩
  rw [HV.out]
  have hrow : W.heap[w.heap.size]? = some (.cells #[.int .i64 k, .string ⟨t.toArray⟩, .slice a n m, .int .i64 o] 39 (0, 0)) := (hg.block _ (by simp) (by simp)).trans (heap_alloc_new w _)
  have HG := Lib.hid ((World.grownBy_alloc w (.cells #[.int .i64 k, .string ⟨t.toArray⟩, .slice a n m, .int .i64 o] 39) none).trans hg)
  have y0 := row_c0 hrow
  have y1 := row_c1 hrow
  have y2 := row_c2 hrow
  have y3 := row_c3 hrow
  have hlt : w.heap.size < W.heap.size := (Array.getElem?_eq_some_iff.1 hrow).1
  clear hg hrow
  cases r
  · go_wp2_with fail
    go_ret2
    exact ⟨by rw [fmtOut, HV.out]; rfl, HG.out⟩
  · go_wp2_with fail
    refine (form_any 1000000 (by omega) c hc 40 _ (fun x j => G x j ∧ There w x j) k o t a n m W.heap.size W.heap.size [] HV.out (by simpa using HLn.out) (Lib.fresh_isBuilder _ _ W) (by simp) (fun x j hf => by have := hf.2; unfold There at this; omega) ((HR.out.there.grown HG.out).below ((Below.refl _ _).alloc (Nat.le_refl _) _))).mono ?_
    rintro e V ⟨rfl, hD⟩
    have HD := Lib.hid hD
    clear hD
    go_wp2_with fail
    refine (Tryd.Builder_String_any W.heap.size W.heap.size (ntxt k t c) V HD.out.is (by have := HD.out.size; simp at this; omega)).mono ?_
    rintro e V2 ⟨rfl, hb⟩
    have HB := Lib.hid ((((Below.refl W.heap.size W).alloc (Nat.le_refl _) _).trans HD.out.below).trans hb)
    clear hb
    go_wp2_with fail
    go_ret2
    refine ⟨by rw [fmtOut, HV.out]; rfl, HG.out.trans (grown_of_below HB.out)⟩
end Go.Proofs.YtnaabplppfikcaaDoor
