/- Tables of words in package variables, as frozen data: what a statement of the card's condition begins in. -/
import Derived.Test.YtjaaajmiojigbaaGreatDoorCon
import Derived.WalkKit
import Derived.KernelRfl
import Derived.Test.YtjaaajmiojigbaaGreatDoorRows
import Derived.ProofKit
import Derived.LaidMore
import Derived.OpenShut
import Derived.SizedLaws
import Derived.Stop.Joined
namespace Go.Proofs.YtjaaajmiojigbaaGreatDoor
open Go Go.RowKit Go.ChangeShapes Go.WideShapes Go.ChangeAt

noncomputable def wordsTyp : List (List Nat) := [[65, 110, 121], [78, 101, 118, 101, 114], [116, 117, 112, 108, 101], [117, 110, 105, 111, 110], [101, 120, 105, 115, 116, 115]]
noncomputable def tabD (L : List (List Nat)) : D := .sl (L.map fun l => [.str l])
/-- What is told of a table. -/
noncomputable def cellFacts (v : Nat) : List (List Nat) → Nat → List (SX × SX)
  | [], _ => []
  | l :: r, i => (.cell (.var v) (.int .i64 i) 0, .str l) :: cellFacts v r (i + 1)
noncomputable def tabFacts (v : Nat) (L : List (List Nat)) : List (SX × SX) := (.len (.var v), .int .i64 L.length) :: cellFacts v L 0

theorem cellFacts_ok {F : Nat → D} {v : Nat} {L0 : List (List Nat)} (h : F v = tabD L0) : ∀ {L : List (List Nat)} {i : Nat}, L0.drop i = L → ∀ e x, (e, x) ∈ cellFacts v L i → den F e = den F x
  | [], i, _, e, x, hm => by cases hm
  | l :: r, i, hd, e, x, hm => by
    simp only [cellFacts] at hm
    rcases List.mem_cons.1 hm with hm | hm
    · simp only [Prod.mk.injEq] at hm
      obtain ⟨rfl, rfl⟩ := hm
      have hi : L0[i]? = some l := by
        have : (L0.drop i)[0]? = some l := by rw [hd]; rfl
        simpa using this
      simp only [den, h, Option.bind_some]
      show (match (L0.map fun l => [D.str l])[i]? with | some row => row[0]? | none => none) = _
      rw [List.getElem?_map, hi]
      rfl
    · refine cellFacts_ok h (L := r) (i := i + 1) ?_ e x hm
      have : (L0.drop i).tail = r := by rw [hd]; rfl
      rw [← this, List.tail_drop]
theorem tabFacts_ok {F : Nat → D} {v : Nat} {L : List (List Nat)} (h : F v = tabD L) : ∀ e x, (e, x) ∈ tabFacts v L → den F e = den F x := by
  intro e x hm
  rcases List.mem_cons.1 hm with hm | hm
  · simp only [Prod.mk.injEq] at hm
    obtain ⟨rfl, rfl⟩ := hm
    simp only [den, h, Option.bind_some, tabD, lenD, List.length_map]
  · exact cellFacts_ok h (L := L) (i := 0) rfl e x hm
theorem tab_kind {kt : List (List Kd)} {T : Nat} (hT : kt.getD T [] = [.str]) (L : List (List Nat)) (hl : L.length ≤ maxRow) (hw : ∀ l ∈ L, l.length ≤ maxRow) : HasK kt (tabD L) (.sl T) :=
  ⟨T, rfl, by rw [List.length_map]; exact hl, HasKr.of fun row hr => by
    obtain ⟨l, hm, rfl⟩ := List.mem_map.1 hr
    rw [hT]
    exact ⟨.str, [], rfl, ⟨rfl, hw l hm⟩, rfl⟩⟩

theorem cell_row_of {W : World} {b o : Nat} {v : Value} (h : W.cell? ⟨b, o, none⟩ = some v) : ∃ arr e fr, W.heap[b]? = some (.cells arr e fr) ∧ arr[o]? = some v := by
  unfold World.cell? at h
  split at h
  · rename_i arr e fr hb
    exact ⟨arr, e, fr, hb, by simpa using h⟩
  · cases h

/-- A table of words in a package variable. -/
structure TabAt (W : World) (g : Nat) (L : List (List Nat)) : Prop where
  ne : L ≠ []
  byte : ∀ l ∈ L, ∀ x ∈ l, x < 256
  at_ : ∃ b off cap arr e fr, W.cell? ⟨g, 0, none⟩ = some (.slice (some ⟨b, off, none⟩) L.length cap) ∧ L.length ≤ cap ∧ cap ≤ maxLen ∧ W.heap[b]? = some (.cells arr e fr) ∧ ∀ i l, L[i]? = some l → W.cell? ⟨b, off + i, none⟩ = some (.string (bsOf l))

theorem rows_words {fz : Nat → Option Obj} {arr : Array Value} : ∀ {L : List (List Nat)} {d : Nat}, (∀ l ∈ L, ∀ x ∈ l, x < 256) → (∀ i l, L[i]? = some l → arr[d + i]? = some (.string (bsOf l))) → DRr fz 1 (L.map fun l => [.str l]) arr d
  | [], _, _, _ => True.intro
  | l :: r, d, hb, h => ⟨rfl, ⟨⟨_, by simpa using h 0 l rfl, rfl, hb l List.mem_cons_self⟩, True.intro⟩, rows_words (fun l' hl' => hb l' (List.mem_cons_of_mem _ hl')) fun i l' hi => by
      have := h (i + 1) l' (by simpa using hi)
      rw [← this]; congr 1; omega⟩
theorem tab_frozen {W : World} {g : Nat} {L : List (List Nat)} (h : TabAt W g L) : ∃ arr T fr u, fzAll W g = some (.cells arr T fr) ∧ arr[0]? = some u ∧ DR (fzAll W) (tabD L) u := by
  obtain ⟨b, off, cap, ra, re, rf, hc, hn1, hn2, hr1, hel⟩ := h.at_
  obtain ⟨ga, ge, gf, hg1, hg2⟩ := cell_row_of hc
  refine ⟨ga, ge, gf, _, hg1, hg2, some ⟨b, off, none⟩, cap, by simp, by simpa using hn1, hn2, .inr ⟨b, off, ra, re, rf, 1, rfl, hr1, rows_words h.byte fun i l hi => ?_⟩⟩
  obtain ⟨ra', re', rf', h1, h2⟩ := cell_row_of (hel i l hi)
  rw [hr1] at h1
  simp only [Option.some.injEq, Obj.cells.injEq] at h1
  obtain ⟨rfl, _, _⟩ := h1
  exact h2

theorem mixed : Tryz.prog.follows .mixedOrders = true := by kernel_rfl

/-- A table that the statement lays. -/
theorem open_table {held : Bool} {H : Type} {enc : TypeId × Value → H} {W : World} {g fuel : Nat} {cs : Array Value} {L : List (List Nat)} {p : List MemPlace} (hne : L ≠ []) (hbyte : ∀ l ∈ L, ∀ x ∈ l, x < 256) (hg : ∀ v, cs = #[v] → W.cell? ⟨g, 0, none⟩ = some v)
    (hd : DataW.trod enc Tryz.prog W 0 (fun _ => true) held fuel 80 cs.toList = some (.slice (L.map fun t => .lit (.string (t.map UInt8.ofNat))) [], p)) : TabAt W g L := by
  have hcs1 : Tryz.prog.cellsOf 9 = 1 := by kernel_rfl
  rcases DataW.trod_slice Tryz.underlying80 hd with ⟨_, hx⟩ | ⟨a, len, cap, elems, rest, n, _, hcs, hx, _, hl, hm, hlen, hel, hrest, _⟩
  · simp at hx
  · simp only [Prod.mk.injEq, DataW.slice.injEq] at hx
    obtain ⟨⟨hx1, hx2⟩, _⟩ := hx
    have hLlen : L.length = len := by
      have := congrArg List.length hx1
      simp at this
      omega
    have hr0 : rest.length = 0 := by
      have := congrArg List.length hx2
      simpa using this.symm
    have hcap : cap = len := by
      have := (hrest rfl).1
      omega
    have hat : ∀ i l, L[i]? = some l → W.cell? (a.add i) = some (.string (bsOf l)) := fun i l hi => by
      have hilt : i < len := by have := (List.getElem?_eq_some_iff.1 hi).1; omega
      have h1 := hel i hilt
      rw [hcs1, Nat.mul_one] at h1
      have h2 : elems[i]? = some (elems[i]'(by omega)) := List.getElem?_eq_getElem _
      rw [h2] at h1
      obtain ⟨vs, h3, h4⟩ := Option.bind_eq_some_iff.1 h1
      have h5 : (elems[i]'(by omega)).1 = .lit (.string (l.map UInt8.ofNat)) := by
        have := congrArg (fun x => x[i]?) hx1
        simp only [List.getElem?_map, hi, h2, Option.map_some, Option.some.injEq] at this
        exact this.symm
      generalize elems[i]'(by omega) = x at h4 h5
      obtain ⟨d, q⟩ := x
      obtain rfl : d = _ := h5
      obtain ⟨s, e1, e2, _⟩ := DataW.trod_string Tryz.underlying9 h4
      subst e1
      simp only [Prod.mk.injEq, DataW.lit.injEq, Lit.string.injEq] at e2
      rw [cell_of_cells?_one h3]
      have hs : s = bsOf l := by
        obtain ⟨⟨sl⟩⟩ := s
        have e3 : l.map UInt8.ofNat = sl := e2.1
        rw [← e3]
        rfl
      rw [hs]
    obtain ⟨l0, hl0⟩ : ∃ l0, L[0]? = some l0 := by
      cases hL : L with
      | nil => exact absurd hL hne
      | cons a r => exact ⟨a, rfl⟩
    obtain ⟨b, off, spot⟩ := a
    have hspot : spot = none := by
      have h0 := hat 0 l0 hl0
      simpa [Addr.add] using World.cell?_spot h0
    subst hspot
    have hel' : ∀ i l, L[i]? = some l → W.cell? ⟨b, off + i, none⟩ = some (.string (bsOf l)) := fun i l hi => by
      have := hat i l hi
      rwa [Addr.add_lit] at this
    obtain ⟨ra, re, rf, hr1, hr2⟩ := cell_row_of (hel' 0 l0 hl0)
    refine ⟨hne, hbyte, b, off, L.length, ra, re, rf, ?_, Nat.le_refl _, by omega, hr1, hel'⟩
    have := hg _ (Array.eq_one_of_toList hcs)
    rw [hLlen]
    rw [hcap] at this
    exact this
end Go.Proofs.YtjaaajmiojigbaaGreatDoor
