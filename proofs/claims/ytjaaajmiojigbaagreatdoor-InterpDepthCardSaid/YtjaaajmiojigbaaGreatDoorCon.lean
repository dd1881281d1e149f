/- Contracts in data: what a function answers to data, whatever else the memory holds; and how a run of the evaluator proves one. -/
import Derived.Test.YtjaaajmiojigbaaGreatDoorSound
namespace Go.Proofs.YtjaaajmiojigbaaGreatDoor
open Go Go.RowKit
variable {E : Env} {X : Ctx}

/-- Data as arguments and results: one datum, the cells of a struct, several of these. -/
inductive DA where
  | one (d : D)
  | agg (ds : List D)
  | tup (ds : List DA)

def DRl (fz : Nat → Option Obj) : List D → List Value → Prop
  | [], vs => vs = []
  | d :: ds, vs => ∃ u us, vs = u :: us ∧ DR fz d u ∧ DRl fz ds us
mutual
def DAR (fz : Nat → Option Obj) : DA → Value → Prop
  | .one d, v => DR fz d v
  | .agg ds, v => ∃ xs, v = .agg (List.toArray xs) ∧ DRl fz ds xs
  | .tup ds, v => ∃ xs, v = .tuple (List.toArray xs) ∧ DARs fz ds xs
def DARs (fz : Nat → Option Obj) : List DA → List Value → Prop
  | [], vs => vs = []
  | d :: ds, vs => ∃ u us, vs = u :: us ∧ DAR fz d u ∧ DARs fz ds us
end
theorem DRl.mono {a b : Nat → Option Obj} (hx : FExt a b) : ∀ {ds : List D} {vs : List Value}, DRl a ds vs → DRl b ds vs
  | [], _, h => h
  | _ :: _, _, ⟨u, us, h1, h2, h3⟩ => ⟨u, us, h1, h2.mono hx, DRl.mono hx h3⟩
mutual
theorem DAR.mono {a b : Nat → Option Obj} (hx : FExt a b) : ∀ {d : DA} {v : Value}, DAR a d v → DAR b d v
  | .one _, _, h => DR.mono hx h
  | .agg _, _, ⟨xs, h1, h2⟩ => ⟨xs, h1, h2.mono hx⟩
  | .tup _, _, ⟨xs, h1, h2⟩ => ⟨xs, h1, DARs.mono hx h2⟩
theorem DARs.mono {a b : Nat → Option Obj} (hx : FExt a b) : ∀ {ds : List DA} {vs : List Value}, DARs a ds vs → DARs b ds vs
  | [], _, h => h
  | _ :: _, _, ⟨u, us, h1, h2, h3⟩ => ⟨u, us, h1, DAR.mono hx h2, DARs.mono hx h3⟩
end
theorem DRl.length {fz : Nat → Option Obj} : ∀ {ds : List D} {vs : List Value}, DRl fz ds vs → vs.length = ds.length
  | [], _, h => by rw [show _ = [] from h]; rfl
  | _ :: _, _, ⟨u, us, h1, _, h3⟩ => by rw [h1, List.length_cons, h3.length, List.length_cons]

/-- The term of a value that is data; a row of no elements is one alone where it is told. -/
noncomputable def sxOf : AV → Option SX
  | .int k n => some (.int k n)
  | .bool b => some (.bool b)
  | .str l => some (.str l)
  | .sx e => some e
  | _ => none
noncomputable def sxsOf : List AV → Option (List SX)
  | [] => some []
  | v :: r => match sxOf v, sxsOf r with
    | some e, some es => some (e :: es)
    | _, _ => none
mutual
noncomputable def dav (F : Nat → D) : AV → Option DA
  | .agg cs => match sxsOf cs with
    | some es => (dens F es).map .agg
    | none => none
  | .tuple vs => (davs F vs).map .tup
  | v => match sxOf v with
    | some e => (den F e).map .one
    | none => none
noncomputable def davs (F : Nat → D) : List AV → Option (List DA)
  | [] => some []
  | v :: r => match dav F v, davs F r with
    | some d, some ds => some (d :: ds)
    | _, _ => none
end

section
variable {P : Program} {base : Nat} {ρ σ : Mp} {s s' : St} {w w' : World}

theorem sxOf_iff {v : AV} {e : SX} {d : D} {u : Value} (h : sxOf v = some e) (hd : den E.val e = some d) : VR E ρ v u ↔ DR ρ.fz d u := by
  unfold sxOf at h
  split at h <;> first | (cases h; done) | (simp only [Option.some.injEq] at h; subst h)
  · simp only [den, Option.some.injEq] at hd; subst hd; exact Iff.rfl
  · simp only [den, Option.some.injEq] at hd; subst hd; exact Iff.rfl
  · simp only [den, Option.some.injEq] at hd; subst hd; exact Iff.rfl
  · exact ⟨fun ⟨d', h1, h2⟩ => (by rw [hd] at h1; obtain rfl := Option.some.inj h1; exact h2), fun h => ⟨d, hd, h⟩⟩
theorem sxsOf_iff : ∀ {vs : List AV} {es : List SX} {ds : List D} {us : List Value}, sxsOf vs = some es → dens E.val es = some ds → (VRs E ρ vs us ↔ DRl ρ.fz ds us)
  | [], es, ds, us, h, hd => by
    simp only [sxsOf, Option.some.injEq] at h
    subst h
    simp only [dens, Option.some.injEq] at hd
    subst hd
    exact Iff.rfl
  | v :: vs, es, ds, us, h, hd => by
    simp only [sxsOf] at h
    split at h
    · rename_i e es' h1 h2
      simp only [Option.some.injEq] at h
      subst h
      simp only [dens] at hd
      obtain ⟨d, h3, h4⟩ := Option.bind_eq_some_iff.1 hd
      obtain ⟨ds', h5, h6⟩ := Option.bind_eq_some_iff.1 h4
      simp only [Option.some.injEq] at h6
      subst h6
      exact ⟨fun ⟨u, us', k1, k2, k3⟩ => ⟨u, us', k1, (sxOf_iff h1 h3).1 k2, (sxsOf_iff h2 h5).1 k3⟩, fun ⟨u, us', k1, k2, k3⟩ => ⟨u, us', k1, (sxOf_iff h1 h3).2 k2, (sxsOf_iff h2 h5).2 k3⟩⟩
    · cases h

theorem dav_one {v : AV} {da : DA} {u : Value} (h : (match sxOf v with | some e => (den E.val e).map DA.one | none => none) = some da) : VR E ρ v u ↔ DAR ρ.fz da u := by
  split at h
  · rename_i e he
    obtain ⟨d, h1, rfl⟩ := Option.map_eq_some_iff.1 h
    exact sxOf_iff he h1
  · cases h
mutual
theorem dav_iff : ∀ {v : AV} {da : DA} {u : Value}, dav E.val v = some da → (VR E ρ v u ↔ DAR ρ.fz da u)
  | .agg cs, da, u, h => by
    simp only [dav] at h
    split at h
    · rename_i es h1
      obtain ⟨ds, h2, rfl⟩ := Option.map_eq_some_iff.1 h
      exact ⟨fun ⟨xs, k1, k2⟩ => ⟨xs, k1, (sxsOf_iff h1 h2).1 k2⟩, fun ⟨xs, k1, k2⟩ => ⟨xs, k1, (sxsOf_iff h1 h2).2 k2⟩⟩
    · cases h
  | .tuple vs, da, u, h => by
    simp only [dav] at h
    obtain ⟨ds, h2, rfl⟩ := Option.map_eq_some_iff.1 h
    exact ⟨fun ⟨xs, k1, k2⟩ => ⟨xs, k1, (davs_iff h2).1 k2⟩, fun ⟨xs, k1, k2⟩ => ⟨xs, k1, (davs_iff h2).2 k2⟩⟩
  | .bool _, da, u, h => dav_one (by simpa [dav] using h)
  | .int _ _, da, u, h => dav_one (by simpa [dav] using h)
  | .str _, da, u, h => dav_one (by simpa [dav] using h)
  | .nilPtr, da, u, h => dav_one (by simpa [dav] using h)
  | .ptr _ _, da, u, h => dav_one (by simpa [dav] using h)
  | .nilSlice, da, u, h => dav_one (by simpa [dav] using h)
  | .emptyS, da, u, h => dav_one (by simpa [dav] using h)
  | .zeroS, da, u, h => dav_one (by simpa [dav] using h)
  | .slice .., da, u, h => dav_one (by simpa [dav] using h)
  | .nilMap, da, u, h => dav_one (by simpa [dav] using h)
  | .map _, da, u, h => dav_one (by simpa [dav] using h)
  | .fn .., da, u, h => dav_one (by simpa [dav] using h)
  | .nilFn, da, u, h => dav_one (by simpa [dav] using h)
  | .iface _ _, da, u, h => dav_one (by simpa [dav] using h)
  | .nilIface, da, u, h => dav_one (by simpa [dav] using h)
  | .yieldF, da, u, h => dav_one (by simpa [dav] using h)
  | .sx _, da, u, h => dav_one (by simpa [dav] using h)
  | .gsl .., da, u, h => dav_one (by simpa [dav] using h)
  | .fp .., da, u, h => dav_one (by simpa [dav] using h)
theorem davs_iff : ∀ {vs : List AV} {ds : List DA} {us : List Value}, davs E.val vs = some ds → (VRs E ρ vs us ↔ DARs ρ.fz ds us)
  | [], ds, us, h => by
    simp only [davs, Option.some.injEq] at h
    subst h
    exact Iff.rfl
  | v :: vs, ds, us, h => by
    simp only [davs] at h
    split at h
    · rename_i d ds' h1 h2
      simp only [Option.some.injEq] at h
      subst h
      exact ⟨fun ⟨u, us', k1, k2, k3⟩ => ⟨u, us', k1, (dav_iff h1).1 k2, (davs_iff h2).1 k3⟩, fun ⟨u, us', k1, k2, k3⟩ => ⟨u, us', k1, (dav_iff h1).2 k2, (davs_iff h2).2 k3⟩⟩
    · cases h
end

/-- A value, and what it owns, become data. -/
noncomputable def frzA (s : St) : AV → Option (AV × St)
  | .agg cs => match frzL s cs with
    | some (es, s1) => some (.agg (es.map AV.sx), s1)
    | none => none
  | v => match frz1 s v with
    | some (e, s1) => some (.sx e, s1)
    | none => none
noncomputable def frzAs (s : St) : List AV → Option (List AV × St)
  | [] => some ([], s)
  | v :: r => match frzA s v with
    | some (x, s1) => match frzAs s1 r with
      | some (xs, s2) => some (x :: xs, s2)
      | none => none
    | none => none
noncomputable def frzV (s : St) : AV → Option (AV × St)
  | .tuple vs => match frzAs s vs with
    | some (xs, s1) => some (.tuple xs, s1)
    | none => none
  | v => frzA s v

theorem sxs_vrs : ∀ {es : List SX} {ds : List D} {us : List Value}, dens E.val es = some ds → ds.length = us.length → (∀ (j : Nat) (c : D), ds[j]? = some c → ∃ u, us[j]? = some u ∧ DR σ.fz c u) → VRs E σ (es.map AV.sx) us
  | [], ds, us, h, hl, _ => by
    simp only [dens, Option.some.injEq] at h
    subst h
    cases us with
    | nil => rfl
    | cons u us => simp at hl
  | e :: es, ds, us, h, hl, hd => by
    simp only [dens] at h
    obtain ⟨d, h3, h4⟩ := Option.bind_eq_some_iff.1 h
    obtain ⟨ds', h5, h6⟩ := Option.bind_eq_some_iff.1 h4
    simp only [Option.some.injEq] at h6
    subst h6
    cases us with
    | nil => simp at hl
    | cons u us =>
      obtain ⟨u', k1, k2⟩ := hd 0 d rfl
      simp at k1
      subst k1
      exact ⟨u, _, rfl, ⟨d, h3, k2⟩, sxs_vrs h5 (by simpa using hl) fun j c hj => by simpa using hd (j + 1) c (by simpa using hj)⟩

theorem frzA_ok (h : HR E base ρ s w) {v x : AV} {u : Value} (hv : VR E ρ v u) (hf : frzA s v = some (x, s')) : ∃ σ, Ext ρ σ ∧ σ.at_ = ρ.at_ ∧ HR E base σ s' w ∧ Turn ρ s w σ s' w ∧ VR E σ x u := by
  unfold frzA at hf
  split at hf
  · rename_i cs
    split at hf
    · rename_i es s1 h1
      simp only [Option.some.injEq, Prod.mk.injEq] at hf
      obtain ⟨rfl, rfl⟩ := hf
      obtain ⟨xs, rfl, h2⟩ := hv
      obtain ⟨σ, k1, k2, k3, k4, ds, k5, k6, k7⟩ := frzL_ok h h2 h1
      exact ⟨σ, k1, k2, k3, k4, xs, rfl, sxs_vrs k5 k6 k7⟩
    · cases hf
  · split at hf
    · rename_i e s1 h1
      simp only [Option.some.injEq, Prod.mk.injEq] at hf
      obtain ⟨rfl, rfl⟩ := hf
      obtain ⟨σ, k1, k2, k3, k4, d, k5, k6⟩ := frz1_ok h hv h1
      exact ⟨σ, k1, k2, k3, k4, d, k5, k6⟩
    · cases hf
theorem frzAs_ok : ∀ {vs xs : List AV} {ρ : Mp} {s s' : St} {us : List Value}, HR E base ρ s w → VRs E ρ vs us → frzAs s vs = some (xs, s') → ∃ σ, Ext ρ σ ∧ σ.at_ = ρ.at_ ∧ HR E base σ s' w ∧ Turn ρ s w σ s' w ∧ VRs E σ xs us
  | [], xs, ρ, s, s', us, h, hv, hf => by
    simp only [frzAs, Option.some.injEq, Prod.mk.injEq] at hf
    obtain ⟨rfl, rfl⟩ := hf
    exact ⟨ρ, .refl _, rfl, h, Turn.refl h, hv⟩
  | v :: vs, xs, ρ, s, s', us, h, hv, hf => by
    obtain ⟨u, us', rfl, h1, h2⟩ := hv
    simp only [frzAs] at hf
    split at hf
    · rename_i x s1 h3
      split at hf
      · rename_i xs' s2 h4
        simp only [Option.some.injEq, Prod.mk.injEq] at hf
        obtain ⟨rfl, rfl⟩ := hf
        obtain ⟨σ, k1, k2, k3, k4, k5⟩ := frzA_ok h h1 h3
        obtain ⟨τ, m1, m2, m3, m4, m5⟩ := frzAs_ok k3 (h2.mono k1) h4
        exact ⟨τ, k1.trans m1, m2.trans k2, m3, k4.trans m4, u, us', rfl, k5.mono m1, m5⟩
      · cases hf
    · cases hf
theorem frzV_ok (h : HR E base ρ s w) {v x : AV} {u : Value} (hv : VR E ρ v u) (hf : frzV s v = some (x, s')) : ∃ σ, Ext ρ σ ∧ σ.at_ = ρ.at_ ∧ HR E base σ s' w ∧ Turn ρ s w σ s' w ∧ VR E σ x u := by
  unfold frzV at hf
  split at hf
  · split at hf
    · rename_i xs s1 h1
      simp only [Option.some.injEq, Prod.mk.injEq] at hf
      obtain ⟨rfl, rfl⟩ := hf
      obtain ⟨us, rfl, h2⟩ := hv
      obtain ⟨σ, k1, k2, k3, k4, k5⟩ := frzAs_ok h h2 h1
      exact ⟨σ, k1, k2, k3, k4, us, rfl, k5⟩
    · cases hf
  · exact frzA_ok h hv hf

/-- A function of data: it makes new memory alone. -/
def PureC (T : Nat → Option D) (P : Program) (f : FuncId) (das : List DA) (da : DA) : Prop :=
  ∀ E : Env, E.tab = T → ∀ base ρ s w us, Glob0 E P ρ → HR E base ρ s w → DARs ρ.fz das us → Calls P f (List.toArray us) w (fun e w' => ∃ u σ, e = .returned u ∧ DAR σ.fz da u ∧ σ.at_ = ρ.at_ ∧ HR E base σ s w' ∧ Turn ρ s w σ s w')

/-- The memory that a function of data begins in: no block but the package variables. -/
noncomputable def sE (P : Program) : St := ⟨.leaf, P.globals.size, P.globals.size⟩
def Mp.bare (P : Program) (ρ : Mp) : Mp := ⟨fun b => if b < P.globals.size then ρ b else none, ρ.fz⟩
theorem bare_glob {E0 : Env} (h : Glob0 E P ρ) (ht : E0.tab = E.tab) : Glob0 E0 P (ρ.bare P) :=
  ⟨fun g hg => let ⟨m, hm⟩ := h.lies g hg; ⟨m, by show (if g < P.globals.size then ρ g else none) = _; rw [if_pos hg]; exact hm⟩, fun g d hd => h.tab g d (by rw [← ht]; exact hd)⟩
theorem bare_hr {E0 : Env} (h : HR E base ρ s w) : HR E0 base (ρ.bare P) (sE P) w :=
  ⟨fun b o hb => by (have : (Tr.leaf : Tr AO).get b = some o := hb; rw [Tr.get_leaf] at this; cases this), fun b b' o o' l l' hb => by (have : (Tr.leaf : Tr AO).get b = some o := hb; rw [Tr.get_leaf] at this; cases this),
   ⟨if_neg (Nat.lt_irrefl _), fun b hb => if_neg (by have : P.globals.size ≤ b := hb; omega)⟩, h.base, h.frz, fun b o l hb => by (have : (Tr.leaf : Tr AO).get b = some o := hb; rw [Tr.get_leaf] at this; cases this)⟩

/-- Behind a call that turned nothing old: the memory as it was, more of it frozen. -/
theorem HR.after (h : HR E base ρ s w) {τ : Mp} {E0 : Env} {s1 : St} (ht : Turn (ρ.bare P) (sE P) w τ s1 w') (hr : HR E0 base τ s1 w') : HR E base ⟨ρ.at_, τ.fz⟩ s w' ∧ Turn ρ s w ⟨ρ.at_, τ.fz⟩ s w' := by
  have hleaf : ∀ b o, (sE P).H.get b = some o → False := fun b o hb => by have : (Tr.leaf : Tr AO).get b = some o := hb; rw [Tr.get_leaf] at this; cases this
  have hold : ∀ g, g < w.heap.size → w'.heap[g]? = w.heap[g]? := fun g hg => ht.block g hg fun b o l hb => (hleaf b o hb).elim
  have hx : Ext ρ ⟨ρ.at_, τ.fz⟩ := ⟨fun _ _ h => h, ht.ext.fz⟩
  have hfz : ∀ g o, τ.fz g = some o → ρ.fz g = some o ∨ w.heap.size ≤ g := fun g o hg => by
    rcases ht.fzs g o hg with h1 | h1 | ⟨b, o', l, h1, _⟩
    · exact .inl h1
    · exact .inr h1
    · exact (hleaf b o' h1).elim
  refine ⟨⟨fun b o hb => ?_, h.apart, h.fresh, Nat.le_trans h.base ht.size, hr.frz, fun b o l hb hw hl => ?_⟩, ⟨hx, ⟨Nat.le_refl _, .inl rfl⟩, ht.os, ht.tape, ht.output, ht.size, fun g hg _ => hold g hg, fun b o l hb hl => .inr ⟨b, o, l, hb, hl, rfl, id⟩, fun _ _ _ => rfl, fun g o hg => (hfz g o hg).imp id .inl⟩⟩
  · obtain ⟨l, h1, h2⟩ := h.objs b o hb
    exact ⟨l, h1, h2.mono hx (hold _ h2.lt)⟩
  · show τ.fz l.g = none
    cases hf : τ.fz l.g with
    | none => rfl
    | some ob =>
      rcases hfz _ _ hf with h1 | h1
      · have := h.fzap b o l hb hw hl; rw [h1] at this; cases this
      · have := h.loc_lt hb hl; omega

/-- Frozen: all that there is. -/
def fzAll (W : World) : Nat → Option Obj := fun g => W.heap[g]?
/-- The start of a call without blocks of its own: whatever there is, is frozen. -/
noncomputable def Mp.start (P : Program) (W : World) : Mp := ⟨fun b => if b < P.globals.size then some ⟨b, 0, 0⟩ else none, fzAll W⟩
theorem start_glob {W : World} (h : ∀ g d, E.tab g = some d → ∃ arr T fr u, fzAll W g = some (.cells arr T fr) ∧ arr[0]? = some u ∧ GR (fzAll W) d u) : Glob0 E P (Mp.start P W) :=
  ⟨fun _ hg => ⟨0, if_pos hg⟩, h⟩
theorem start_hr (W : World) : HR E W.heap.size (Mp.start P W) (sE P) W :=
  ⟨fun b o hb => by (have : (Tr.leaf : Tr AO).get b = some o := hb; rw [Tr.get_leaf] at this; cases this), fun b b' o o' l l' hb => by (have : (Tr.leaf : Tr AO).get b = some o := hb; rw [Tr.get_leaf] at this; cases this),
   ⟨if_neg (Nat.lt_irrefl _), fun b hb => if_neg (by have : P.globals.size ≤ b := hb; omega)⟩, Nat.le_refl _, fun _ _ h => h, fun b o l hb => by (have : (Tr.leaf : Tr AO).get b = some o := hb; rw [Tr.get_leaf] at this; cases this)⟩

variable {lib : Lib} {C : Code → Prop} {n : Nat}

noncomputable def frzR : Option Resp → Option AV
  | some (.call v s) => match frzV s v with
    | some (x, _) => some x
    | none => none
  | _ => none

/-- A run of the evaluator on unknown data proves a contract. -/
theorem pureC_run (hm : P.follows .mixedOrders = true) (hx : XOk E X) (hC : Closed C) (hl : LibOk E X P C lib) {f : FuncId} {args : List AV} {v : AV} {das : List DA} {da : DA} (h : frzR (evA X P lib n (.call f args (sE P))) = some v) (ha : davs E.val args = some das) (hv : dav E.val v = some da) : PureC E.tab P f das da := by
  intro E0 hE base ρ s w us hg hr hd
  unfold frzR at h
  split at h
  · rename_i v0 s0 h0
    split at h
    · rename_i x s1 h1
      simp only [Option.some.injEq] at h
      subst h
      have hr0 := bare_hr (P := P) (E0 := E) hr
      refine Calls.mono (evA_call hm hx hC hl h0 base (ρ.bare P) w us (bare_glob hg hE.symm) hr0 ((davs_iff (ρ := ρ.bare P) ha).2 hd)) ?_
      rintro e w' ⟨u, σ, rfl, h2, h3, h4⟩
      obtain ⟨τ, k1, k2, k3, k4, k5⟩ := frzV_ok h3 h2 h1
      obtain ⟨m1, m2⟩ := hr.after (h4.trans k4) k3
      exact ⟨u, ⟨ρ.at_, τ.fz⟩, rfl, (dav_iff (ρ := τ) hv).1 k5, rfl, m1, m2⟩
    · cases h
  · cases h

/-- The same, of a function's code, with what is told of its blocks. -/
theorem pureC_body (hm : P.follows .mixedOrders = true) (hx : XOk E X) (hC : Closed C) (hl : LibOk E X P C lib) {f : FuncId} (hcc : ∀ fn c, P.funcs[f]? = some fn → fn.body = some c → C c) {args : List AV} {v : AV} {das : List DA} {da : DA} (h : frzR (bodyK X P (evA X P lib n) f args (sE P)) = some v) (ha : davs E.val args = some das) (hv : dav E.val v = some da) : PureC E.tab P f das da := by
  intro E0 hE base ρ s w us hg hr hd
  unfold frzR at h
  split at h
  · rename_i v0 s0 h0
    split at h
    · rename_i x s1 h1
      simp only [Option.some.injEq] at h
      subst h
      have hr0 := bare_hr (P := P) (E0 := E) hr
      refine Calls.mono (evA_body hm hx hC hl hcc h0 base (ρ.bare P) w us (bare_glob hg hE.symm) hr0 ((davs_iff (ρ := ρ.bare P) ha).2 hd)) ?_
      rintro e w' ⟨u, σ, rfl, h2, h3, h4⟩
      obtain ⟨τ, k1, k2, k3, k4, k5⟩ := frzV_ok h3 h2 h1
      obtain ⟨m1, m2⟩ := hr.after (h4.trans k4) k3
      exact ⟨u, ⟨ρ.at_, τ.fz⟩, rfl, (dav_iff (ρ := τ) hv).1 k5, rfl, m1, m2⟩
    · cases h
  · cases h

/-- A contract may lean on what its data are known to be. -/
theorem PureC.when {T : Nat → Option D} {f : FuncId} {das : List DA} {da : DA} {R : Prop} (h : ∀ fz us, DARs fz das us → R) (k : R → PureC T P f das da) : PureC T P f das da :=
  fun E hE base ρ s w us hg hr hd => k (h _ _ hd) E hE base ρ s w us hg hr hd

/-- Calls of functions of data. -/
structure CE where
  f : FuncId
  args : List AV
  res : AV
noncomputable def findC (T : List CE) (f : FuncId) (args : List AV) : Option AV := match T with
  | [] => none
  | c :: r => if c.f = f ∧ AV.sames c.args args = true then some c.res else findC r f args
noncomputable def tabCall (T : List CE) (f : FuncId) (args : List AV) (s : St) : Option (AV × St) := match frzAs s args with
  | some (xs, s1) => match findC T f xs with
    | some v => some (v, s1)
    | none => none
  | none => none
def CE.Ok (E : Env) (P : Program) (c : CE) : Prop := ∃ das da, davs E.val c.args = some das ∧ dav E.val c.res = some da ∧ PureC E.tab P c.f das da
theorem findC_ok : ∀ {T : List CE} {f : FuncId} {args : List AV} {v : AV}, findC T f args = some v → ∃ c ∈ T, c.f = f ∧ c.args = args ∧ c.res = v
  | [], _, _, _, h => by simp [findC] at h
  | c :: r, f, args, v, h => by
    simp only [findC] at h
    split at h
    · rename_i hc
      simp only [Option.some.injEq] at h
      exact ⟨c, List.mem_cons_self, hc.1, AV.sames_eq hc.2, h⟩
    · obtain ⟨c', h1, h2⟩ := findC_ok h
      exact ⟨c', List.mem_cons_of_mem _ h1, h2⟩
theorem tabCall_ok {T : List CE} (hT : ∀ c ∈ T, c.Ok E P) {f : FuncId} {args : List AV} {v : AV} (h : tabCall T f args s = some (v, s')) : CallS E P f args s v s' := by
  unfold tabCall at h
  split at h
  · rename_i xs s1 h1
    split at h
    · rename_i v0 h2
      simp only [Option.some.injEq, Prod.mk.injEq] at h
      obtain ⟨rfl, rfl⟩ := h
      obtain ⟨c, h3, rfl, rfl, rfl⟩ := findC_ok h2
      obtain ⟨das, da, h4, h5, h6⟩ := hT c h3
      intro base ρ w us hg hr hv
      obtain ⟨σ, k1, k2, k3, k4, k5⟩ := frzAs_ok hr hv h1
      refine Calls.mono (h6 E rfl base σ s1 w us (hg.mono k1) k3 ((davs_iff h4).1 k5)) ?_
      rintro e w' ⟨u, τ, rfl, m1, m2, m3, m4⟩
      exact ⟨u, τ, rfl, (dav_iff h5).2 m1, m3, k4.trans m4⟩
    · cases h
  · cases h
end
end Go.Proofs.YtjaaajmiojigbaaGreatDoor
