/- SexprPieces returns true for every slice of integers and leaves it alone: Parse agrees with ParseNodes on strings of characters with a meaning. No conditions. -/
import Derived.Test.YtnaabplppfikcaaLawParse
import Derived.Test.YtnaabplppfikcaaMod
import Derived.SizedLaws
namespace Go.Proofs.Ytnaabplppfikcaa
open Go.ChangeShapes Go.WideShapes Go.ChangeAt Go.RowKit

/-- A slice of integers that came in. -/
def IsInts (w : World) (a : Option Addr) (len cap : Nat) (zs : List Int) : Prop :=
  (a = none ∧ len = 0 ∧ cap = 0 ∧ zs = []) ∨
  ∃ x, a = some x ∧ len ≤ cap ∧ cap ≤ maxLen ∧ zs.length = cap ∧ (∀ i, i < zs.length → w.cell? (x.add i) = some (.int .i64 (zs.getD i 0))) ∧ ∀ n ∈ zs, (Lit.int .i64 n).wf = true

def piecesText : ByteArray := ⟨#[40, 41, 40, 41, 34, 92, 97, 98, 45, 55, 95, 59, 32, 10, 126, 128, 40]⟩

/-- The loop that collects the bytes. -/
def PieceRel (w : World) (n : Nat) (k : Nat) (bv iv : Value) (wr : World) : Prop :=
  ∃ (i : Nat) (acc : List UInt8), k = n - i ∧ i ≤ n ∧ iv = .int .i64 (i : Nat) ∧ acc.length = i ∧ wr.ownsRow w.heap.size 5 1 bv acc.length (acc.map byteV) ∧ Below w.heap.size w wr

set_option maxRecDepth 100000 in
set_option maxHeartbeats 1600000 in
theorem law_pieces (a0 : Option Addr) (len cap : Nat) (zs : List Int) (w : World) (h0 : IsInts w a0 len cap zs) (hreach : len ≤ 17592186044416) :
    Calls Try.prog 4 #[.slice a0 len cap] w fun e w' => e = .returned (.bool true) ∧ Below w.heap.size w w' := by
  have hcell : ∀ i, i < len → ∃ b off z, a0 = some ⟨b, off, none⟩ ∧ w.cell? ⟨b, off + i, none⟩ = some (.int .i64 z) := by
    intro i hi
    rcases h0 with ⟨_, h, _⟩ | ⟨x, rfl, hl, _, hz, hc, _⟩
    · omega
    · obtain ⟨b, off, spot⟩ := x
      have h00 := hc 0 (by omega)
      have hspot : spot = none := by simpa [Addr.add] using World.cell?_spot h00
      subst hspot
      refine ⟨b, off, zs.getD i 0, rfl, ?_⟩
      have := hc i (by omega)
      rw [Addr.add_lit] at this
      exact this
  have HC := Lib.hid hcell
  clear hcell h0
  obtain ⟨ti, hi0, hz0, hz1, hz2⟩ := info_parts infoByte
  have Hz0 := Lib.hid hz0
  have Hz1 := Lib.hid hz1
  have Hz2 := Lib.hid hz2
  have Hi0 := Lib.hid hi0
  clear hz0 hz1 hz2 hi0
  go_enter Try.func4, Try.ntmps4
  go_wp2_with fail
  go_loopg [3, 4] len (fun k bv iv wr => PieceRel w len k bv iv wr)
  case atStart => exact ⟨0, [], rfl, Nat.zero_le _, rfl, rfl, World.ownsRow_nil _ _ _ _, Below.refl _ _⟩
  case round =>
    obtain ⟨i, acc, hk, hi, rfl, hal, hown, hbel⟩ := hrel
    obtain ⟨ba, bc, hbv⟩ := ownsRow_slice hown
    subst hbv
    have A1 := Lib.hid hk
    have A2 := Lib.hid hbel
    have A3 := Lib.hid hal
    clear hk hbel hal
    by_cases hlt : i < len
    · obtain ⟨b, off, z, rfl, hc⟩ := HC.out i hlt
      have hc' : wr.cell? ⟨b, off + i, none⟩ = some (.int .i64 z) := by
        rw [A2.out.cell (World.block_lt_of_cell? w _ hc)]; exact hc
      have i0 : (0 : Int) ≤ (i : Int) := by omega
      have i1 : (i : Int) < (len : Int) := by omega
      obtain ⟨j, hj⟩ : ∃ j : Nat, z % 17 = (j : Int) := Int.eq_ofNat_of_zero_le (Int.emod_nonneg _ (by omega))
      have hj17 : j < 17 := by have := Int.emod_lt_of_pos z (b := 17) (by omega); omega
      have HJ := Lib.hid hj
      have i2 : (0 : Int) ≤ (j : Int) := by omega
      have i3 : (j : Int) < 17 := by omega
      clear hj hc
      go_wp2_with fail
      refine (mod_any _ 17 (by omega) (by omega) _).mono ?_
      rintro e w' ⟨rfl, rfl⟩
      rw [HJ.out]
      go_wp2_with (at_builtin; refine wpList_append_fix _ rfl _ _ 36 rfl w.heap.size 5 ti (.int .u8 0) 1 1 Try.underlying36 Hi0.out Hz0.out Hz1.out Hz2.out rfl (by omega) (.slice ba acc.length bc) acc.length (acc.map byteV) rfl (World.ownsRow.alloc hown _) ⟨wr.heap.size, 0, none⟩ 1 1 [.int .u8 (((⟨#[40, 41, 40, 41, 34, 92, 97, 98, 45, 55, 95, 59, 32, 10, 126, 128, 40]⟩ : ByteArray)[j]'hj17).toNat : Int)] rfl rfl ?c1 ?c2 ?c3 ?c4 ?c5 ?c6 ?_)
      case c1 => exact cell_one_new _ _ _
      case c2 => simp [Value.oneCell']
      case c3 => omega
      case c4 => have := A3.out; unfold maxLen; omega
      case c5 => have := A3.out; omega
      case c6 => have := A2.out.size; simp; omega
      intro g c2 w1 hA
      have hrel' : PieceRel w len (len - (i + 1)) (.slice (some ⟨g, 0, none⟩) (acc.length + 1) c2) (.int .i64 ((i + 1 : Nat) : Int)) w1 :=
        ⟨i + 1, acc ++ [(⟨#[40, 41, 40, 41, 34, 92, 97, 98, 45, 55, 95, 59, 32, 10, 126, 128, 40]⟩ : ByteArray)[j]'hj17], rfl, by omega, rfl, by have := A3.out; simp; omega, by simpa [byteV] using hA.own,
          A2.out.trans ((((Below.refl _ _).alloc (Nat.le_refl _) _).mono A2.out.size).grown hA.grown (by have := A2.out.size; simp; omega) (fun k e => (hown.lt k e).1))⟩
      have HR2 := Lib.hid hrel'
      clear hrel' hA hown
      go_wp2_with fail
      go_roundg (len - (i + 1))
      case measure => have := A1.out; omega
      case rel => exact HR2.out
    · have i1 : ¬ (i : Int) < (len : Int) := by omega
      obtain ⟨s, hsdef⟩ : ∃ s : ByteArray, (⟨acc.toArray⟩ : ByteArray) = s := ⟨_, rfl⟩
      have hss : s.size ≤ 9223372036854775807 := by
        have := A3.out
        rw [← hsdef]; show acc.toArray.size ≤ _; simp; omega
      have hconv : ∀ (X : World), (∀ b, (Value.slice ba acc.length bc).ownBlock = some b → X.heap[b]? = wr.heap[b]?) → (convert 36 9 (.slice ba acc.length bc)).run Try.prog X = .ok (.string s) X := fun X hX => by
        rw [← hsdef]
        exact convert_own hown hX _ _ Try.underlying36 Try.underlying5 Try.underlying9
      have hlt' : ∀ b, (Value.slice ba acc.length bc).ownBlock = some b → b < wr.heap.size := fun b e => (hown.lt b e).2
      have hc1 := hconv wr (fun _ _ => rfl)
      have HC := Lib.hid hconv
      have HL := Lib.hid hlt'
      clear hown hconv hlt' hsdef
      go_wp2_with fail
      refine (parse_any s wr hss).mono ?_
      intro e w1 hd1
      obtain ⟨a, n, c, k, o, l, F, rfl, hr1, hb1, hm1⟩ := hd1.form
      have hc2 : ∀ ob, (convert 36 9 (.slice ba acc.length bc)).run Try.prog (w1.alloc ob) = .ok (.string s) (w1.alloc ob) := fun ob => HC.out _ fun b e => by
        have := HL.out b e
        rw [Below.heap_alloc _ _ _ (Nat.lt_of_lt_of_le this hb1.size)]
        exact hb1.block b this
      have A1' := Lib.hid hr1
      have A2' : Hid (Below w.heap.size w w1) := A2.out.trans (hb1.mono A2.out.size)
      have A3' := Lib.hid hm1
      clear hd1 hr1 hb1 hm1 hc1
      go_wp2_with fail
      refine (rparseAny s _ hss).mono ?_
      intro e w2 hd2
      obtain ⟨a', n', c', k', o', l', F', rfl, hr2, hb2, hm2⟩ := hd2.form
      have hsame : l = l' ∧ k = k' ∧ o = o' := by
        have h1 := A3'.out
        revert h1 hm2
        cases parse (bytes s) with
        | ok x => rintro ⟨rfl, rfl, rfl⟩ ⟨rfl, rfl, rfl⟩; exact ⟨rfl, rfl, rfl⟩
        | error x => rintro ⟨rfl, rfl, rfl⟩ ⟨rfl, rfl, rfl⟩; exact ⟨rfl, rfl, rfl⟩
      obtain ⟨rfl, rfl, rfl⟩ := hsame
      have hW1 : Below w1.heap.size w1 (w1.alloc (.cells #[.int .i64 k, .int .i64 o] 25)) := (Below.refl _ _).alloc (Nat.le_refl _) _
      have x0 : w2.cell? ⟨w1.heap.size, 0, none⟩ = some (.int .i64 k) := by rw [hb2.cell (by simp)]; simp
      have x1 : w2.cell? ⟨w1.heap.size, 1, none⟩ = some (.int .i64 o) := by rw [hb2.cell (by simp)]; simp
      have hz : w1.heap.size < w2.heap.size := by have := hb2.size; simp at this; omega
      have R1 := Lib.hid ((A1'.out.below hW1).below hb2)
      have R2 := Lib.hid hr2
      have B2 : Hid (Below w.heap.size w w2) := A2'.out.trans ((hW1.trans (hb2.mono (by simp))).mono A2'.out.size)
      clear hd2 hr2 hb2 hm2 hW1 A1' A2' A3' hc2
      go_wp2_with fail
      refine (check_any _).mono ?_
      rintro e w3 ⟨rfl, hb3⟩
      have hW2 : Below w2.heap.size w2 (w2.alloc (.cells #[.int .i64 k, .int .i64 o] 25)) := (Below.refl _ _).alloc (Nat.le_refl _) _
      have y0 : w3.cell? ⟨w1.heap.size, 0, none⟩ = some (.int .i64 k) := by rw [hb3.cell (by simp; omega), hW2.cell hz]; exact x0
      have y1 : w3.cell? ⟨w1.heap.size, 1, none⟩ = some (.int .i64 o) := by rw [hb3.cell (by simp; omega), hW2.cell hz]; exact x1
      have z0 : w3.cell? ⟨w2.heap.size, 0, none⟩ = some (.int .i64 k) := by rw [hb3.cell (by simp)]; simp
      have z1 : w3.cell? ⟨w2.heap.size, 1, none⟩ = some (.int .i64 o) := by rw [hb3.cell (by simp)]; simp
      have R3 := Lib.hid ((R1.out.below hW2).below hb3)
      have R4 := Lib.hid ((R2.out.below hW2).below hb3)
      have B3 : Hid (Below w.heap.size w w3) := B2.out.trans ((hW2.trans (hb3.mono (by simp))).mono B2.out.size)
      clear hb3 hW2 R1 R2 B2 x0 x1
      go_wp2_with fail
      refine (fault_eq _ _ _).mono ?_
      rintro e w4 ⟨rfl, hb4⟩
      have R5 := Lib.hid (R3.out.below hb4)
      have R6 := Lib.hid (R4.out.below hb4)
      have B4 : Hid (Below w.heap.size w w4) := B3.out.trans (hb4.mono B3.out.size)
      clear hb4 R3 R4 B3 y0 y1 z0 z1
      go_wp2_with fail
      refine (same_eq _ l (Nat.le_refl _) w4 F F' _ _ R5.out R6.out).mono ?_
      rintro e w5 ⟨rfl, m, rfl⟩
      go_wp2_with fail
      go_ret
      exact ⟨rfl, B4.out.trans (Below.drewN' (m := m) rfl)⟩

theorem laidOut : laidOutB Try.prog = true := by kernel_rfl
theorem bytesInt : Try.prog.bytesOf 3 = 8 := by kernel_rfl

set_option maxRecDepth 100000 in
theorem lifted_pieces (os : Os) (started : os.Started) (H : Type) (enc : TypeId × Value → H) :
    ReturnsInHanded {} Try.checked os 4 .any (Rows.sexprPiecesSpec.pre6 enc Try.prog Try.f4 Rows.sexprPiecesRow.domain false) (Rows.sexprPiecesSpec.post enc Try.prog Try.f4 false true false false) := by
  refine returnsInHanded_of_change_sized (C := Try.checked) own started (by kernel_rfl) Try.func4
    (ChangeSpec.witness6 (enc := enc) (C := Try.checked) false ⟨#[], #[.slice none 0 0], []⟩ 8 (by kernel_rfl) (by kernel_rfl) (by kernel_rfl) (by kernel_rfl)) ?_
  intro W base args ds gs before hval0 hW hcnd hsz _
  have hval : ∀ (j : Nat) t v, Try.f4.params[j]? = some t → args[j]? = some v → Value.okWide Try.prog W .any base t v := hval0
  have hW' := hW
  obtain ⟨p, q, hA0, hV, rfl, hfz, hnd⟩ := hW
  have hA : DataW.TrodAll enc Try.prog W 0 (fun _ => true) true Try.f4.params.toList args.toList ds p := hA0
  have hsz' : (DataW.weightsEach Try.prog (Try.f4.params.toList ++ Rows.sexprPiecesSpec.plain.varTypes Try.prog) (ds ++ gs)).all (· ≤ reachBytes) = true := hsz
  rw [Try.params4] at hA hval hsz'
  obtain ⟨v0, vs0, d0, ds0, p0, q0, hargs, rfl, rfl, h0, r0⟩ := trodAll_cons hA
  obtain ⟨rfl, rfl, rfl⟩ := trodAll_nil r0
  obtain rfl : args = #[v0] := by cases args; simp_all
  obtain ⟨rfl, rfl⟩ := trodVars_none hV
  obtain ⟨a0, len0, cap0, rfl⟩ := okWide_slice Try.underlying35 (hval 0 35 v0 rfl rfl)
  have k0 := h0
  have lt0 : ∀ x ∈ p0, x.block < W.heap.size := by obtain ⟨m, hm⟩ := k0; exact DataW.trod_lt m _ _ _ hm
  obtain ⟨z0, w0, wr0⟩ : ∃ zs, IsInts W a0 len0 cap0 zs ∧ len0 ≤ 17592186044416 := by
    obtain ⟨fuel, hf⟩ := h0
    rcases open_ints Try.underlying35 Try.underlying3 (by kernel_rfl) hf with ⟨hcs, _⟩ | ⟨x, l, c, zs, hcs, _, hl, hm, hz, hx, hcell, hwz⟩
    · simp [Value.cells] at hcs
      obtain ⟨rfl, rfl, rfl⟩ := hcs
      exact ⟨[], .inl ⟨rfl, rfl, rfl, rfl⟩, by omega⟩
    · simp [Value.cells] at hcs
      obtain ⟨rfl, rfl, rfl⟩ := hcs
      simp only [Prod.mk.injEq] at hx
      obtain ⟨rfl, rfl⟩ := hx
      simp only [if_true] at hz
      refine ⟨zs, .inr ⟨_, rfl, hl, hm, by simpa using hz, hcell, hwz⟩, ?_⟩
      have := sized_slice hsz' (j := 0) (t := 35) (e := 3) rfl rfl Try.underlying35
      rw [bytesInt] at this
      simp only [lits, List.length_map, List.length_take, List.length_drop, reachBytes] at this
      omega
  clear hA0 hval0
  refine (law_pieces a0 len0 cap0 z0 W w0 wr0).mono fun e W' ⟨he, bel⟩ => ?_
  subst he
  exact ⟨_, rfl, _, _, _, [], _, [], hW', trodAll_mk1 (shut_bool Try.underlying4 _), (trodAll_cons_mk (Below.trod laidOut (by kernel_rfl) (of_decide_eq_true (by kernel_rfl)) k0 bel lt0) trodAll_mk0), rfl, bel.frame _, fun h => by cases h⟩

theorem over_pieces : Rows.sexprPiecesRow.holds Try.pinned (OpenSpec.ofChange Rows.sexprPiecesSpec) :=
  OpenClaim.holds_of_wide 4 Try.f4 rfl rfl rfl rfl rfl rfl rfl ⟨rfl, rfl, rfl, rfl, rfl⟩ rfl rfl rfl rfl rfl (by kernel_rfl) Try.func4 (by kernel_rfl)
    (of_decide_eq_true (by kernel_rfl)) (by unfold Func.isWrapper; first | (rw [if_pos (by decide +kernel)]; kernel_rfl) | (rw [if_neg (by decide +kernel)]; exact ⟨rfl, rfl⟩))
    (fun os started H enc _ => lifted_pieces os started H enc)

/-- The statement. -/
theorem sexprPieces_holds : Rows.SexprPiecesSaid := over_pieces
end Go.Proofs.Ytnaabplppfikcaa
