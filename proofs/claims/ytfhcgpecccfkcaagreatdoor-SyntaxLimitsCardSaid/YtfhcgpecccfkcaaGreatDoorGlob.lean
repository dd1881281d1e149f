/- The memory that a statement's call begins in: the tables of words that the package variables hold. -/
import Derived.Test.YtfhcgpecccfkcaaGreatDoorMod
import Derived.Test.YtfhcgpecccfkcaaGreatDoorSound
import Derived.WalkKit
import Derived.KernelRfl
import Derived.Test.YtfhcgpecccfkcaaGreatDoorRows
import Derived.ProofKit
import Derived.LaidMore
import Derived.OpenShut
import Derived.SizedLaws
import Derived.Stop.Joined
namespace Go.Proofs.YtfhcgpecccfkcaaGreatDoor
open Go Go.RowKit Go.ChangeShapes Go.WideShapes Go.ChangeAt
variable {E : Nat → Int}

noncomputable def addTab (s : St) (g : Nat) (L : List (List Nat)) : St :=
  ⟨(s.H.set s.nx (.cells true (writeN .leaf 0 (L.map AV.str)) L.length)).set g (.cells true (writeN .leaf 0 [.slice s.nx 0 L.length L.length 1]) 1), s.nx + 1, s.nx + 1⟩

noncomputable def wordsSyn : List (List Nat) := [[97, 98, 115, 116, 114, 97, 99, 116], [115, 116, 114, 117, 99, 116], [109, 101, 116, 104, 111, 100], [100, 101, 108, 101, 116, 101], [108, 111, 97, 100], [117, 110, 108, 111, 97, 100], [101, 118, 97, 108], [112, 97, 99, 107, 97, 103, 101], [116, 97, 115, 107], [108, 101, 116], [97, 115, 115, 105, 103, 110], [100, 111], [105, 102], [119, 104, 105, 108, 101], [110, 101, 119], [103, 101, 116], [115, 101, 116], [116, 117, 112, 108, 101], [101, 108, 101, 109, 101, 110, 116], [105, 115], [115, 97, 109, 101], [97, 100, 100], [115, 117, 98], [109, 117, 108], [108, 101, 115, 115], [110, 111, 116], [99, 111, 110, 99, 97, 116], [111, 117, 116, 112, 117, 116], [102, 97, 105, 108], [108, 97, 116, 101, 115, 116], [101, 100, 105, 116], [112, 97, 117, 115, 101], [116, 114, 117, 101], [102, 97, 108, 115, 101], [110, 105, 108], [117, 110, 105, 111, 110], [101, 120, 105, 115, 116, 115], [65, 110, 121], [78, 101, 118, 101, 114]]
noncomputable def wordsTyp : List (List Nat) := [[65, 110, 121], [78, 101, 118, 101, 114], [116, 117, 112, 108, 101], [117, 110, 105, 111, 110], [101, 120, 105, 115, 116, 115]]

noncomputable def nG : Nat := 9
noncomputable def sG : St := addTab (addTab (addTab ⟨.leaf, nG, nG⟩ 0 wordsSyn) 3 wordsTyp) 2 wordsTyp
noncomputable def isTrueR : Option Resp → Bool
  | some (.call (.bool true) _) => true
  | _ => false


section
variable {base : Nat} {ρ : Mp} {s : St} {w : World}
theorem load_obj {b o n : Nat} {cs : List AV} (h : s.load b o n = some cs) : ∃ ro vs k, s.H.get b = some (.cells ro vs k) := by
  unfold St.load at h
  split at h
  · exact ⟨_, _, _, ‹_›⟩
  · cases h
end

theorem mixed : Tryz.prog.follows .mixedOrders = true := by kernel_rfl
theorem globals9 : Tryz.prog.globals.size = nG := by kernel_rfl

def rowSize (W : World) (b : Nat) : Nat := match W.heap[b]? with
  | some (.cells arr _ _) => arr.size
  | _ => 0
theorem cell_row_of {W : World} {b o : Nat} {v : Value} (h : W.cell? ⟨b, o, none⟩ = some v) : ∃ arr e fr, W.heap[b]? = some (.cells arr e fr) ∧ arr[o]? = some v := by
  unfold World.cell? at h
  split at h
  · rename_i arr e fr hb
    exact ⟨arr, e, fr, hb, by simpa using h⟩
  · cases h

/-- A memory of tables that are read alone. -/
structure Ini (E : Nat → Int) (W : World) (ρ : Mp) (s : St) : Prop where
  glob : ∀ g, g < nG → ρ g = some ⟨g, 0, rowSize W g⟩
  objs : ∀ b o, s.H.get b = some o → ¬ o.wr ∧ ∃ l, ρ b = some l ∧ OR E W.heap.size ρ W l o
  fresh : s.nx = s.hi ∧ nG ≤ s.nx ∧ ∀ b, s.nx ≤ b → ρ b = none

theorem Ini.hr {W : World} {ρ : Mp} {s : St} (h : Ini E W ρ s) : HR E W.heap.size ρ s W :=
  ⟨fun b o hb => (h.objs b o hb).2, fun b b' o o' l l' hb _ _ hw _ _ => absurd hw (h.objs b o hb).1, ⟨h.fresh.2.2 _ (Nat.le_refl _), fun b hb => h.fresh.2.2 b (by have := h.fresh.1; omega)⟩, Nat.le_refl _⟩
theorem Ini.globs {W : World} {ρ : Mp} {s : St} (h : Ini E W ρ s) : Glob Tryz.prog ρ := fun g hg => ⟨_, h.glob g (by rw [globals9] at hg; exact hg)⟩

theorem ini_start (W : World) : Ini E W (fun b => if b < nG then some ⟨b, 0, rowSize W b⟩ else none) ⟨.leaf, nG, nG⟩ :=
  ⟨fun g hg => if_pos hg, fun b o hb => (by rw [Tr.get_leaf] at hb; cases hb), rfl, Nat.le_refl _, fun b hb => if_neg (by simp at hb; omega)⟩

/-- A table of words in a package variable. -/
structure TabAt (W : World) (g : Nat) (L : List (List Nat)) : Prop where
  lt : g < nG
  ne : L ≠ []
  byte : ∀ l ∈ L, ∀ x ∈ l, x < 256
  at_ : ∃ b off cap arr e fr, W.cell? ⟨g, 0, none⟩ = some (.slice (some ⟨b, off, none⟩) L.length cap) ∧ L.length ≤ cap ∧ cap ≤ maxLen ∧ W.heap[b]? = some (.cells arr e fr) ∧ ∀ i l, L[i]? = some l → W.cell? ⟨b, off + i, none⟩ = some (.string (bsOf l))

theorem or_mono {base : Nat} {ρ σ : Mp} {W : World} {l : Loc} {o : AO} (h : OR E base ρ W l o) (hx : Ext ρ σ) : OR E base σ W l o := h.mono hx rfl

theorem ini_tab {W : World} {ρ : Mp} {s : St} {g : Nat} {L : List (List Nat)} (h : Ini E W ρ s) (ht : TabAt W g L) : ∃ σ, Ini E W σ (addTab s g L) := by
  obtain ⟨b, off, cap, ra, re, rf, hc, hn1, hn2, hr1, hel⟩ := ht.at_
  obtain ⟨ga, ge, gf, hg1, hg2⟩ := cell_row_of hc
  have hx : Ext ρ (ρ.on s.nx ⟨b, off, cap⟩) := Mp.on_ext (h.fresh.2.2 _ (Nat.le_refl _))
  have hgne : g ≠ s.nx := by have := h.fresh.2.1; have := ht.lt; omega
  refine ⟨ρ.on s.nx ⟨b, off, cap⟩, fun g' hg' => hx _ _ (h.glob g' hg'), fun b' o hb' => ?_, rfl, by show nG ≤ s.nx + 1; have := h.fresh.2.1; omega, fun b' hb' => ?_⟩
  · rcases Tr.get_set hb' with ⟨rfl, rfl⟩ | ⟨hne, hb'⟩
    · refine ⟨by simp [AO.wr], _, hx _ _ (h.glob _ ht.lt), ga, ge, gf, hg1, fun hh => (by cases hh), ?_, fun j x hj => ?_, fun hh => by cases hh⟩
      · have := (Array.getElem?_eq_some_iff.1 hg2).1
        show 1 ≤ rowSize W b'
        simp only [rowSize, hg1]
        omega
      · rcases writeN_get hj with ⟨_, h2⟩ | ⟨_, h2⟩
        · rw [Nat.sub_zero] at h2
          have hj0 : j = 0 := by
            have := (List.getElem?_eq_some_iff.1 h2).1
            simpa using this
          subst hj0
          simp only [List.getElem?_cons_zero, Option.some.injEq] at h2
          subst h2
          exact ⟨by omega, _, by simpa using hg2, _, cap, Mp.on_same _ _ _, rfl, Nat.le_refl _, hn1, hn2, by simp only; omega⟩
        · rw [Tr.get_leaf] at h2; cases h2
    · rcases Tr.get_set hb' with ⟨rfl, rfl⟩ | ⟨hne', hb'⟩
      · refine ⟨by simp [AO.wr], _, Mp.on_same _ _ _, ra, re, rf, hr1, fun hh => (by cases hh), hn1, fun j x hj => ?_, fun hh => by cases hh⟩
        rcases writeN_get hj with ⟨_, h2⟩ | ⟨_, h2⟩
        · rw [Nat.sub_zero, List.getElem?_map] at h2
          cases hLj : L[j]? with
          | none => rw [hLj] at h2; cases h2
          | some l =>
            rw [hLj] at h2
            simp only [Option.map_some, Option.some.injEq] at h2
            subst h2
            obtain ⟨ra', re', rf', hr1', hr2'⟩ := cell_row_of (hel j l hLj)
            rw [hr1] at hr1'
            simp only [Option.some.injEq, Obj.cells.injEq] at hr1'
            obtain ⟨rfl, _, _⟩ := hr1'
            exact ⟨(List.getElem?_eq_some_iff.1 hLj).1, _, hr2', rfl, ht.byte l (List.mem_of_getElem? hLj)⟩
        · rw [Tr.get_leaf] at h2; cases h2
      · obtain ⟨h1, l, h2, h3⟩ := h.objs b' o hb'
        exact ⟨h1, l, hx _ _ h2, or_mono h3 hx⟩
  · have hb'' : s.nx + 1 ≤ b' := hb'
    rw [Mp.on_other (by omega)]
    exact h.fresh.2.2 b' (by omega)

/-- A table that the statement lays. -/
theorem open_table {held : Bool} {H : Type} {enc : TypeId × Value → H} {W : World} {g fuel : Nat} {cs : Array Value} {L : List (List Nat)} {p : List MemPlace} (hlt : g < nG) (hne : L ≠ []) (hbyte : ∀ l ∈ L, ∀ x ∈ l, x < 256) (hg : ∀ v, cs = #[v] → W.cell? ⟨g, 0, none⟩ = some v)
    (hd : DataW.trod enc Tryz.prog W 0 (fun _ => true) held fuel 42 cs.toList = some (.slice (L.map fun t => .lit (.string (t.map UInt8.ofNat))) [], p)) : TabAt W g L := by
  have hcs1 : Tryz.prog.cellsOf 9 = 1 := by kernel_rfl
  rcases DataW.trod_slice Tryz.underlying42 hd with ⟨_, hx⟩ | ⟨a, len, cap, elems, rest, n, _, hcs, hx, _, hl, hm, hlen, hel, hrest, _⟩
  · simp at hx
  · simp only [Prod.mk.injEq, DataW.slice.injEq] at hx
    obtain ⟨⟨hx1, hx2⟩, _⟩ := hx
    have hLlen : L.length = len := by
      have := congrArg List.length hx1
      simp at this
      omega
    have hr0 : rest.length = 0 := by
      have := congrArg List.length hx2
      simpa using this.symm
    have hcap : cap = len := by
      have := (hrest rfl).1
      omega
    have hat : ∀ i l, L[i]? = some l → W.cell? (a.add i) = some (.string (bsOf l)) := fun i l hi => by
      have hilt : i < len := by have := (List.getElem?_eq_some_iff.1 hi).1; omega
      have h1 := hel i hilt
      rw [hcs1, Nat.mul_one] at h1
      have h2 : elems[i]? = some (elems[i]'(by omega)) := List.getElem?_eq_getElem _
      rw [h2] at h1
      obtain ⟨vs, h3, h4⟩ := Option.bind_eq_some_iff.1 h1
      have h5 : (elems[i]'(by omega)).1 = .lit (.string (l.map UInt8.ofNat)) := by
        have := congrArg (fun x => x[i]?) hx1
        simp only [List.getElem?_map, hi, h2, Option.map_some, Option.some.injEq] at this
        exact this.symm
      generalize elems[i]'(by omega) = x at h4 h5
      obtain ⟨d, q⟩ := x
      obtain rfl : d = _ := h5
      obtain ⟨s, e1, e2, _⟩ := DataW.trod_string Tryz.underlying9 h4
      subst e1
      simp only [Prod.mk.injEq, DataW.lit.injEq, Lit.string.injEq] at e2
      rw [cell_of_cells?_one h3]
      have hs : s = bsOf l := by
        obtain ⟨⟨sl⟩⟩ := s
        have e3 : l.map UInt8.ofNat = sl := e2.1
        rw [← e3]
        rfl
      rw [hs]
    obtain ⟨l0, hl0⟩ : ∃ l0, L[0]? = some l0 := by
      cases hL : L with
      | nil => exact absurd hL hne
      | cons a r => exact ⟨a, rfl⟩
    obtain ⟨b, off, spot⟩ := a
    have hspot : spot = none := by
      have h0 := hat 0 l0 hl0
      simpa [Addr.add] using World.cell?_spot h0
    subst hspot
    have hel' : ∀ i l, L[i]? = some l → W.cell? ⟨b, off + i, none⟩ = some (.string (bsOf l)) := fun i l hi => by
      have := hat i l hi
      rwa [Addr.add_lit] at this
    obtain ⟨ra, re, rf, hr1, hr2⟩ := cell_row_of (hel' 0 l0 hl0)
    refine ⟨hlt, hne, hbyte, b, off, L.length, ra, re, rf, ?_, Nat.le_refl _, by omega, hr1, hel'⟩
    have := hg _ (Array.eq_one_of_toList hcs)
    rw [hLlen]
    rw [hcap] at this
    exact this

/-- A memory that holds a table. -/
noncomputable def hasTab (s : St) (g r : Nat) (L : List (List Nat)) : Bool := match s.load g 0 1, s.load r 0 L.length with
  | some [v], some cs => AV.same v (.slice r 0 L.length L.length 1) && AV.sames cs (L.map AV.str)
  | _, _ => false
noncomputable def hasTabs (s : St) : Bool := hasTab s 0 9 wordsSyn && hasTab s 3 10 wordsTyp && hasTab s 2 11 wordsTyp

theorem tab_of {base : Nat} {ρ : Mp} {s : St} {w : World} {g r : Nat} {L : List (List Nat)} (hg : Glob Tryz.prog ρ) (h : HR E base ρ s w) (hlt : g < nG) (hne : L ≠ []) (hbyte : ∀ l ∈ L, ∀ x ∈ l, x < 256) (ht : hasTab s g r L = true) : TabAt w g L := by
  obtain ⟨m, hm⟩ := hg g (by rw [globals9]; exact hlt)
  unfold hasTab at ht
  split at ht
  · rename_i v cs h1 h2
    simp only [Bool.and_eq_true] at ht
    obtain rfl := AV.same_eq ht.1
    obtain rfl := AV.sames_eq ht.2
    obtain ⟨xs, ⟨x, ys, rfl, ⟨l, cap, e1, e2, _, e4, e5, e6⟩, _⟩, _, r1⟩ := h.load hm h1
    obtain ⟨vs, hvs, hlen, r2⟩ := h.load e1 h2
    have hc := r1 0 x rfl
    subst e2
    have hlen1 : 0 < L.length := List.length_pos_iff.2 hne
    have hel : ∀ i t, L[i]? = some t → w.cell? ⟨l.g, l.d + 0 + i, none⟩ = some (.string (bsOf t)) := fun i t hi => by
      obtain ⟨u, h3, h4⟩ := hvs.get (i := i) (a := .str t) (by rw [List.getElem?_map, hi]; rfl)
      rw [r2 i u h3, h4.1]
    obtain ⟨ro, vs', k, hobj⟩ := load_obj h2
    obtain ⟨arr, e, fr, h5, h6, _⟩ := h.at hobj e1
    exact ⟨hlt, hne, hbyte, l.g, l.d + 0, cap, arr, e, fr, hc, e4, by omega, h5, hel⟩
  · cases ht

/-- A call without arguments that reads the tables alone and returns true leaves the memory as it was. -/
theorem closed_true {n : Nat} {lib : Lib} {f : FuncId} {s s' : St} (hl : LibOk E Tryz.prog lib) (h : evA Tryz.prog lib n (.call f [] sG) = some (.call (.bool true) s')) (ht : hasTabs s = true) : CallS E Tryz.prog f [] s (.bool true) s := by
  intro base ρ w us hg hr hv
  obtain rfl : us = [] := hv
  unfold hasTabs at ht
  simp only [Bool.and_eq_true] at ht
  obtain ⟨ρ1, i1⟩ := ini_tab (ini_start (E := E) w) (tab_of hg hr (by decide) (by decide) (by decide) ht.1.1)
  obtain ⟨ρ2, i2⟩ := ini_tab i1 (tab_of hg hr (by decide) (by decide) (by decide) ht.1.2)
  obtain ⟨ρ3, hi⟩ := ini_tab i2 (tab_of hg hr (by decide) (by decide) (by decide) ht.2)
  refine Calls.mono (evA_call (E := E) mixed hl h w.heap.size ρ3 w [] hi.globs hi.hr rfl) ?_
  rintro e w' ⟨u, σ, rfl, hu, _, ht⟩
  have bel := ht.below hi.hr
  exact ⟨u, ρ, rfl, hu, hr.off bel.size fun b o l hb hl => bel.block _ (hr.loc_lt hb hl), (Turn.refl hr).off ⟨bel.os, bel.tape, bel.output⟩ bel.size fun g hg => bel.block g hg⟩
end Go.Proofs.YtfhcgpecccfkcaaGreatDoor
