/- What the reader hands back, as the evaluator's memory: rows of nodes that are read alone. -/
import Derived.Test.YtcajkijnpknacaaGreatDoorParse
import Derived.Test.YtcajkijnpknacaaGreatDoorTabs
import Derived.KernelRfl
namespace Go.Proofs.YtcajkijnpknacaaGreatDoor
open Go Go.RowKit
variable {E : Env}

/-- Blocks that may be written lie below a bound. -/
def Old (B : Nat) (ρ : Mp) (s : St) : Prop := ∀ b o l, s.H.get b = some o → o.wr → ρ b = some l → l.g < B

theorem HR.ro {base : Nat} {ρ0 ρ : Mp} {s0 s : St} {W0 w : World} (h : HR E base ρ s w) (t : Turn ρ0 s0 W0 ρ s w) (hold : Old W0.heap.size ρ s) {o : AO} (hro : ¬ o.wr) {l : Loc} (hl : W0.heap.size ≤ l.g) (ho : OR E base ρ w l o) :
    HR E base (ρ.on s.nx l) (s.new o) w ∧ Turn ρ0 s0 W0 (ρ.on s.nx l) (s.new o) w ∧ Old W0.heap.size (ρ.on s.nx l) (s.new o) := by
  have hx : Ext ρ (ρ.on s.nx l) := Mp.on_ext (h.fresh.1)
  have hne : ∀ b o', s.H.get b = some o' → b ≠ s.nx := fun b o' hb e => by
    obtain ⟨l', h1, _⟩ := h.objs b o' hb
    rw [e, h.fresh.1] at h1
    cases h1
  have hcase : ∀ b o', (s.new o).H.get b = some o' → (b = s.nx ∧ o' = o) ∨ (b ≠ s.nx ∧ s.H.get b = some o') := fun b o' hb => Tr.get_set (show (Tr.set s.nx o s.H).get b = some o' from hb)
  refine ⟨⟨fun b o' hb => ?_, fun b b' o1 o2 l1 l2 hb hb' hn hw hl1 hl2 => ?_, Mp.fresh_new h.fresh s rfl rfl o, h.base, h.frz, fun b o' l' hb hw hl' => ?_⟩, ⟨t.ext.trans hx, ?_, t.os, t.tape, t.output, t.size, t.block, fun b o' l' hb hl' => ?_, fun b hb hbn => ?_, t.fzs⟩, fun b o' l' hb hw hl' => ?_⟩
  · rcases hcase b o' hb with ⟨rfl, rfl⟩ | ⟨h1, h2⟩
    · exact ⟨_, Mp.on_same _ _ _, ho.mono hx rfl⟩
    · obtain ⟨l', h3, h4⟩ := h.objs b o' h2
      exact ⟨l', hx _ _ h3, h4.mono hx rfl⟩
  · rcases hcase b o1 hb with ⟨rfl, rfl⟩ | ⟨h1, h2⟩
    · exact absurd hw hro
    · rw [Mp.on_other h1] at hl1
      have hlt := hold b o1 l1 h2 hw hl1
      rcases hcase b' o2 hb' with ⟨rfl, rfl⟩ | ⟨h3, h4⟩
      · rw [Mp.on_same] at hl2
        obtain rfl := Option.some.inj hl2
        omega
      · rw [Mp.on_other h3] at hl2
        exact h.apart b b' o1 o2 l1 l2 h2 h4 hn hw hl1 hl2
  · rcases hcase b o' hb with ⟨rfl, rfl⟩ | ⟨h1, h2⟩
    · exact absurd hw hro
    · rw [Mp.on_other h1] at hl'
      exact h.fzap b o' l' h2 hw hl'
  · have h1 := t.nx
    show s0.hi ≤ max s.hi (s.nx + 1) ∧ (max s.hi (s.nx + 1) = s0.nx ∨ s0.hi ≤ max s.hi (s.nx + 1))
    omega
  · rcases hcase b o' hb with ⟨rfl, rfl⟩ | ⟨h1, h2⟩
    · rw [Mp.on_same] at hl'
      obtain rfl := Option.some.inj hl'
      exact .inl hl
    · rw [Mp.on_other h1] at hl'
      exact t.from_ b o' l' h2 hl'
  · have h1 := t.nx
    rw [Mp.on_other (by omega)]
    exact t.old b hb hbn
  · rcases hcase b o' hb with ⟨rfl, rfl⟩ | ⟨h1, h2⟩
    · exact absurd hw hro
    · rw [Mp.on_other h1] at hl'
      exact hold b o' l' h2 hw hl'

/-- A row of nodes out of its cells. -/
noncomputable def rowA (l : Fr) (p : List AV × St) : AV × St := match l with
  | .nil => (.emptyS, p.2)
  | .cons .. => (.slice p.2.nx 0 l.len l.len 4, p.2.new (.cells true (writeN .leaf 0 p.1) p.1.length))
/-- The cells of a row of nodes; the rows of the children come into the memory. -/
noncomputable def mkCells : Fr → St → List AV × St
  | .nil, s => ([], s)
  | .cons k t kids o rest, s => (.int .i64 k :: .str (t.map UInt8.toNat) :: (rowA kids (mkCells kids s)).1 :: .int .i64 o :: (mkCells rest (rowA kids (mkCells kids s)).2).1, (mkCells rest (rowA kids (mkCells kids s)).2).2)

theorem dat_len : ∀ (l : Fr), l.dat.len = l.len * 4
  | .nil => rfl
  | .cons _ _ _ _ r => by simp only [Fr.dat, Dat.len, Fr.len, dat_len r]; omega

theorem bsOf_map (t : List UInt8) : bsOf (t.map UInt8.toNat) = ⟨t.toArray⟩ := by
  unfold bsOf
  rw [List.map_map]
  congr 2
  exact (List.map_congr_left fun a _ => by simp [Function.comp]).trans (List.map_id _)

/-- What holds while rows are taken into the memory. -/
structure Rows' (E : Env) (base : Nat) (ρ0 : Mp) (s0 : St) (W0 : World) (ρ : Mp) (s : St) (w : World) : Prop where
  hr : HR E base ρ s w
  turn : Turn ρ0 s0 W0 ρ s w
  old : Old W0.heap.size ρ s

theorem row_ok {base : Nat} {ρ0 ρ : Mp} {s0 s : St} {W0 w : World} {F : Fixed} (hF : ∀ b o, F b o → W0.heap.size ≤ b) {l : Fr} {cs : List AV} {ys : List Value} {v : Value} (hr : RowAt w F 4 v ys) (hlen : ys.length = l.len * 4) (h : Rows' E base ρ0 s0 W0 ρ s w) (hv : VRs E ρ cs ys) :
    ∃ σ, VR E σ (rowA l (cs, s)).1 v ∧ Rows' E base ρ0 s0 W0 σ (rowA l (cs, s)).2 w ∧ Ext ρ σ := by
  cases l with
  | nil =>
    refine ⟨ρ, ?_, h, Ext.refl _⟩
    rcases hr with ⟨rfl, _⟩ | ⟨b, off, n, cap, rfl, _, _, h4, _⟩
    · exact ⟨_, _, rfl⟩
    · have : n = 0 := by
        have h5 : ys.length = 0 := by rw [hlen]; rfl
        omega
      subst this
      exact ⟨_, _, rfl⟩
  | cons k t kids o rest =>
    rcases hr with ⟨_, rfl⟩ | ⟨b, off, n, cap, rfl, h2, h3, h4, h5⟩
    · simp [Fr.len] at hlen
    · have hn : n = (Fr.cons k t kids o rest).len := by omega
      have hpos : 0 < ys.length := by rw [hlen]; simp only [Fr.len]; omega
      obtain ⟨hFb, hc0⟩ := h5 0 (ys[0]'hpos) (List.getElem?_eq_getElem _)
      obtain ⟨arr, e, fr, ha, _⟩ := cell_row_of hc0
      have hcl : cs.length = ys.length := hv.length.symm
      have hel : ∀ (j : Nat) (x : AV), (writeN Tr.leaf 0 cs).get j = some x → j < cs.length ∧ ∃ v, arr[off + j]? = some v ∧ VR E ρ x v := fun j x hj => by
        rcases writeN_get hj with ⟨_, h6⟩ | ⟨_, h6⟩
        · rw [Nat.sub_zero] at h6
          obtain ⟨u, h7, h8⟩ := hv.get h6
          obtain ⟨_, hcj⟩ := h5 j u h7
          obtain ⟨arr', e', fr', ha', hg⟩ := cell_row_of hcj
          rw [ha] at ha'
          simp only [Option.some.injEq, Obj.cells.injEq] at ha'
          obtain ⟨rfl, _, _⟩ := ha'
          exact ⟨(List.getElem?_eq_some_iff.1 h6).1, u, hg, h8⟩
        · rw [Tr.get_leaf] at h6; cases h6
      have hor : OR E base ρ w ⟨b, off, cap * 4⟩ (.cells true (writeN .leaf 0 cs) cs.length) := ⟨arr, e, fr, ha, fun hh => (by cases hh), by show cs.length ≤ cap * 4; rw [hcl, h4]; exact Nat.mul_le_mul_right _ h2, hel, fun hh => (by cases hh)⟩
      obtain ⟨g1, g2, g3⟩ := h.hr.ro h.turn h.old (o := .cells true (writeN .leaf 0 cs) cs.length) (by simp [AO.wr]) (l := ⟨b, off, cap * 4⟩) (hF b _ hFb) hor
      subst hn
      exact ⟨_, ⟨_, cap, Mp.on_same _ _ _, rfl, Nat.le_refl _, h2, h3, by simp⟩, ⟨g1, g2, g3⟩, Mp.on_ext h.hr.fresh.1⟩

theorem mkCells_ok {base : Nat} {ρ0 : Mp} {s0 : St} {W0 w : World} {F : Fixed} (hF : ∀ b o, F b o → W0.heap.size ≤ b) : ∀ (l : Fr) (ρ : Mp) (s : St) (xs : List Value), Enc w F l.dat xs → Rows' E base ρ0 s0 W0 ρ s w →
    ∃ σ, VRs E σ (mkCells l s).1 xs ∧ Rows' E base ρ0 s0 W0 σ (mkCells l s).2 w ∧ Ext ρ σ
  | .nil, ρ, s, xs, he, h => ⟨ρ, he, h, Ext.refl _⟩
  | .cons k t kids o rest, ρ, s, xs, he, h => by
    obtain ⟨_, rfl, _, rfl, cv, ys, zs, rfl, hrow, hk, _, rfl, hrest⟩ := he
    obtain ⟨σ1, h1, h2, x1⟩ := mkCells_ok hF kids ρ s ys hk h
    have hlen : ys.length = kids.len * 4 := by rw [hk.len, dat_len]
    obtain ⟨σ2, h3, h4, x2⟩ := row_ok (l := kids) (cs := (mkCells kids s).1) (s := (mkCells kids s).2) hF hrow hlen h2 h1
    obtain ⟨σ3, h5, h6, x3⟩ := mkCells_ok hF rest σ2 (rowA kids (mkCells kids s)).2 _ hrest h4
    refine ⟨σ3, ⟨_, _, rfl, rfl, _, _, rfl, ⟨by rw [bsOf_map], fun x hx => ?_⟩, _, _, rfl, h3.mono x3, _, _, rfl, rfl, h5⟩, h6, (x1.trans x2).trans x3⟩
    obtain ⟨c, _, rfl⟩ := List.mem_map.1 hx
    exact c.toNat_lt

theorem rd_ok' {base : Nat} {ρ : Mp} {s : St} {W0 w : World} {F : Fixed} (hF : ∀ b o, F b o → W0.heap.size ≤ b) {l : Fr} {v : Value} (h : HR E base ρ s W0) (hb : Below W0.heap.size W0 w) (hrd : Rd w F 4 l.dat v) :
    ∃ σ, VR E σ (rowA l (mkCells l s)).1 v ∧ HR E base σ (rowA l (mkCells l s)).2 w ∧ Turn ρ s W0 σ (rowA l (mkCells l s)).2 w := by
  obtain ⟨ys, hrow, he⟩ := hrd
  have h0 : Rows' E base ρ s W0 ρ s w := ⟨h.off hb.size (fun b o l hb' hl => hb.block _ (h.loc_lt hb' hl)) (fun g o hg => hb.block _ (h.fz_lt hg)), (Turn.refl h).off ⟨hb.os, hb.tape, hb.output⟩ hb.size fun g hg => hb.block g hg, fun b o l hb' _ hl => h.loc_lt hb' hl⟩
  obtain ⟨σ1, h1, h2, _⟩ := mkCells_ok hF l ρ s ys he h0
  obtain ⟨σ2, h3, h4, _⟩ := row_ok (l := l) (cs := (mkCells l s).1) (s := (mkCells l s).2) hF hrow (by rw [he.len, dat_len]) h2 h1
  exact ⟨σ2, h3, h4.hr, h4.turn⟩

/-- sexpr.Parse by the plain reader. -/
noncomputable def readA (s : St) (l : List Nat) : AV × St := match parse (l.map UInt8.ofNat) with
  | .ok f => (.tuple [(rowA f (mkCells f s)).1, .agg [.int .i64 0, .int .i64 0]], (rowA f (mkCells f s)).2)
  | .error (k, o) => (.tuple [.nilSlice, .agg [.int .i64 k, .int .i64 o]], s)

theorem read_callS {s : St} {l : List Nat} (hsz : l.length ≤ 1000000) : CallS E Tryz.prog 13 [.str l] s (readA s l).1 (readA s l).2 := by
  intro base ρ w us hg hr hv
  obtain ⟨_, _, rfl, ⟨rfl, hl⟩, rfl⟩ := hv
  have hbytes : bytes (bsOf l) = l.map UInt8.ofNat := by unfold bytes bsOf; simp
  have hsize : (bsOf l).size = l.length := by unfold bsOf; simp [ByteArray.size]
  refine Calls.mono (parse_any (bsOf l) w (by rw [hsize]; omega)) ?_
  rintro e w' ⟨hb, hm⟩
  rw [hbytes] at hm
  unfold readA
  split at hm
  · rename_i f hp
    obtain ⟨v, F, rfl, hrd, hF⟩ := hm
    obtain ⟨σ, h1, h2, h3⟩ := rd_ok' hF hr hb hrd
    rw [hp]
    exact ⟨_, σ, rfl, ⟨_, rfl, ⟨_, _, rfl, h1, _, [], rfl, ⟨_, rfl, ⟨_, _, rfl, rfl, _, [], rfl, rfl, rfl⟩⟩, rfl⟩⟩, h2, h3⟩
  · rename_i k o hp
    rw [hp, hm]
    exact ⟨_, ρ, rfl, ⟨_, rfl, ⟨_, _, rfl, rfl, _, [], rfl, ⟨_, rfl, ⟨_, _, rfl, rfl, _, [], rfl, rfl, rfl⟩⟩, rfl⟩⟩, hr.off hb.size (fun b o l hb' hl => hb.block _ (hr.loc_lt hb' hl)) (fun g o hg => hb.block _ (hr.fz_lt hg)), (Turn.refl hr).off ⟨hb.os, hb.tape, hb.output⟩ hb.size fun g hg => hb.block g hg⟩
end Go.Proofs.YtcajkijnpknacaaGreatDoor
