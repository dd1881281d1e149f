/- Regions whose order is drawn: each operation keeps the invariant, in whatever order they come. -/
import Derived.Test.YtjaaajmiojigbaaGreatDoorDraw2
namespace Go.Proofs.YtjaaajmiojigbaaGreatDoor
open Go Go.RowKit
variable {E : Env} {X : Ctx}

/-- The memory when the operations of L have been carried out. -/
def SL (ms : List Nat) (recs : List Rec) (N0 : Nat) (L : Nat → Prop) (c : Option Nat) (B : St) : MP := Lst recs N0 (fun j => L j ∧ (cmOf ms c).testBit j = false) B
def TL (ops : List Oper) (recs : List Rec) (tm0 : Tr AV) (L : Nat → Prop) (t : Nat) (x : AV) : Prop :=
  (∀ (j : Nat) (p : Oper) (r : Rec), ops[j]? = some p → p.dst = some t → L j → recs[j]? = some r → x = r.v) ∧ ((∀ (j : Nat) (p : Oper), ops[j]? = some p → p.dst = some t → ¬ L j) → tm0.get t = some x)
def LastL (B0 : St) (recs : List Rec) (L : Nat → Prop) (c : Option Nat) (B : St) : Prop := Pt B0 recs c B ∧ (∀ c0, c = some c0 → L c0) ∧ ∀ (i : Nat) (r : Rec) (B' : St), recs[i]? = some r → r.k = .chain B' → L i → ∃ c0, c = some c0 ∧ i ≤ c0

structure DI (E : Env) (X : Ctx) (P : Program) (base : Nat) (ρ : Mp) (s : St) (w0 : World) (ops : List Oper) (ms : List Nat) (recs : List Rec) (tm0 : Tr AV) (B0 : St) (nt : Nat) (ds : List Deferred) (L : Nat → Prop) (c : Option Nat) (B : St) (σ : Mp) (a : Act) (w : World) : Prop where
  down : Down ops L
  last : LastL B0 recs L c B
  hp : HP E base σ (SL ms recs s.hi L c B) B.hi w
  tp : TP ρ s w0 σ (SL ms recs s.hi L c B) B.hi w
  un : ∀ (i : Nat) (r : Rec) (ob : AO), recs[i]? = some r → r.k = .alloc ob → ¬ L i → σ (s.hi + i) = none
  fr : ∀ t x, TL ops recs tm0 L t x → ∃ v, a.tmps[t]? = some v ∧ VR E σ x v
  size : a.tmps.size = nt
  defers : a.defers = ds
  hi : s.hi + ops.length ≤ B.hi

def Add (L : Nat → Prop) (i : Nat) : Nat → Prop := fun j => L j ∨ j = i

section
variable {P : Program} {self : Req → Option Resp} {base : Nat} {ρ σ : Mp} {s B B0 : St} {w0 w : World} {ops : List Oper} {ms : List Nat} {recs : List Rec} {tm0 : Tr AV} {nt : Nat} {ds : List Deferred} {L : Nat → Prop} {c : Option Nat} {a : Act} {i : Nat} {o : Oper} {r : Rec}

/-- The temporaries that an operation reads. -/
theorem DI.frame (h : DI E X P base ρ s w0 ops ms recs tm0 B0 nt ds L c B σ a w) (hst : Static ops ms) (hlen : recs.length = ops.length) (ho : ops[i]? = some o) (hi : ¬ L i) (hr : ∀ e ∈ o.after, Region.binds .any e = true → L e.on)
    {tr : Tr AV} (ht : ∀ t x, tr.get t = some x → t ∈ namesO ops o ∧ TmVal ops (recs.take i) tm0 t x) : FR E σ tr a.tmps := by
  refine ⟨fun t x hx => h.fr t x ?_⟩
  obtain ⟨h1, h2, h3⟩ := ht t x hx
  refine ⟨fun j p r' hj hd hL hr' => ?_, fun hno => h3 fun j p r' hj hd hr' => ?_⟩
  · rcases hst.names i j o p t ho hj h1 hd with rfl | h4 | h4
    · exact absurd hL hi
    · exact h2 j p r' hj hd (by rw [List.getElem?_take_of_lt (hst.lt i o j ho h4)]; exact hr')
    · exact absurd (hst.below h.down j p i hj hL h4) hi
  · have hjlt : j < i := by
      have := (List.getElem?_eq_some_iff.1 hr').1
      rw [List.length_take] at this
      omega
    rcases hst.names i j o p t ho hj h1 hd with rfl | h4 | h4
    · omega
    · exact hno j p hj hd (hst.ready h.down ho hr h4)
    · have := hst.lt j p i hj h4; omega

theorem DI.down_add (h : DI E X P base ρ s w0 ops ms recs tm0 B0 nt ds L c B σ a w) (ho : ops[i]? = some o) (hr : ∀ e ∈ o.after, Region.binds .any e = true → L e.on) : Down ops (Add L i) := by
  intro j p e hj hL he hb
  rcases hL with hL | rfl
  · exact .inl (h.down j p e hj hL he hb)
  · rw [ho] at hj
    obtain rfl := Option.some.inj hj
    exact .inl (hr e he hb)

/-- The temporaries behind an operation. -/
theorem fr_add {σ' : Mp} {u : Value} (hdist : DistinctD ops) (hlen : recs.length = ops.length) (ho : ops[i]? = some o) (hrec : recs[i]? = some r) (hd : ∀ d, o.dst = some d → d < nt) (hsz : a.tmps.size = nt)
    (hf : ∀ t x, TL ops recs tm0 L t x → ∃ v, a.tmps[t]? = some v ∧ VR E σ x v) (hx : Ext σ σ') (hu : VR E σ' r.v u) : ∀ t x, TL ops recs tm0 (Add L i) t x → ∃ v, (a.put o.dst u).tmps[t]? = some v ∧ VR E σ' x v := by
  intro t x ⟨h1, h2⟩
  by_cases hdt : o.dst = some t
  · obtain rfl := h1 i o r ho hdt (.inr rfl) hrec
    refine ⟨u, ?_, hu⟩
    rw [hdt]
    have := hd t hdt
    simp [Act.put, hsz, this]
  · have hTL : TL ops recs tm0 L t x := ⟨fun j p r' hj hpd hL hr' => h1 j p r' hj hpd (.inl hL) hr', fun hno => h2 fun j p hj hpd hL => by
      rcases hL with hL | rfl
      · exact hno j p hj hpd hL
      · rw [ho] at hj
        obtain rfl := Option.some.inj hj
        exact hdt hpd⟩
    obtain ⟨v, h3, h4⟩ := hf t x hTL
    refine ⟨v, ?_, h4.mono hx⟩
    cases hod : o.dst with
    | none => exact h3
    | some d =>
      have hne : d ≠ t := fun e => hdt (by rw [hod, e])
      show (a.tmps.setIfInBounds d u)[t]? = some v
      rw [Array.getElem?_setIfInBounds_ne hne]
      exact h3

theorem size_put (a : Act) (d : Option Nat) (u : Value) : (a.put d u).tmps.size = a.tmps.size := by cases d <;> simp [Act.put]

theorem LastL.add (h : LastL B0 recs L c B) (hrec : recs[i]? = some r) (hk : ∀ B', r.k ≠ .chain B') : LastL B0 recs (Add L i) c B :=
  ⟨h.1, fun c0 hc => .inl (h.2.1 c0 hc), fun j r' B' hj hk' hL => by
    rcases hL with hL | rfl
    · exact h.2.2 j r' B' hj hk' hL
    · rw [hrec] at hj
      obtain rfl := Option.some.inj hj
      exact absurd hk' (hk B')⟩

/-- The chain's operations come in the order of the text. -/
theorem chain_prefix (hst : Static ops ms) (hfa : Facts X P self ops ms s.hi B0 tm0 nt recs) (hlen : recs.length = ops.length) (hd : Down ops L) : ∀ (c0 : Nat) (r0 : Rec) (B' : St), recs[c0]? = some r0 → r0.k = .chain B' → L c0 → ∀ (i : Nat) (r : Rec) (B'' : St), recs[i]? = some r → r.k = .chain B'' → i < c0 → L i := by
  intro c0
  induction c0 using Nat.strongRecOn with
  | _ c0 ih =>
    intro r0 B' h0 hk0 hL i r B'' hi hk hlt
    have hc0 := (List.getElem?_eq_some_iff.1 h0).1
    have ho : ops[c0]? = some ops[c0] := List.getElem?_eq_getElem (by omega)
    obtain ⟨⟨_, h2⟩, _⟩ := hfa c0 r0 _ h0 ho
    rw [hk0] at h2
    obtain ⟨_, q, Bq, H, h3, h4, _⟩ := h2
    have hlen' : (recs.take c0).length = c0 := by rw [List.length_take]; omega
    have hti : (recs.take c0)[i]? = some r := by rw [List.getElem?_take_of_lt hlt]; exact hi
    cases q with
    | none => exact absurd hk (h3.2 i r B'' hti)
    | some q =>
      obtain ⟨⟨rq, h5, h6⟩, h7⟩ := h3
      have h8 := h7 i r B'' hti hk
      have hq : q < c0 := by
        have := (List.getElem?_eq_some_iff.1 h5).1
        omega
      have h9 : L q := hst.below hd c0 _ q ho hL (by have := h4 q rfl; rw [hlen'] at this; exact this)
      by_cases he : i = q
      · rw [he]; exact h9
      · exact ih q hq rq Bq (by rw [← h5, List.getElem?_take_of_lt hq]) h6 h9 i r B'' hi hk (by omega)

/-- The last of the chain so far is the one that comes just before in the text. -/
theorem DI.lastC (h : DI E X P base ρ s w0 ops ms recs tm0 B0 nt ds L c B σ a w) (hst : Static ops ms) (hfa : Facts X P self ops ms s.hi B0 tm0 nt recs) (hlen : recs.length = ops.length) (ho : ops[i]? = some o) (hi : ¬ L i)
    (hr : ∀ e ∈ o.after, Region.binds .any e = true → L e.on) {B' : St} (hrec : recs[i]? = some r) (hk : r.k = .chain B') {p : Option Nat} {B1 : St} (hl : LastC B0 (recs.take i) p B1) (hp : ∀ c0, p = some c0 → (ms.getD i 0).testBit c0 = true) : c = p ∧ B = B1 := by
  have hilt := (List.getElem?_eq_some_iff.1 hrec).1
  have after : ∀ c0, c = some c0 → c0 < i := fun c0 hc => by
    have hL := h.last.2.1 c0 hc
    rcases h.last.1 with ⟨h1, _⟩ | ⟨c1, r1, h1, h2, h3⟩
    · rw [h1] at hc; cases hc
    · rw [h1] at hc
      obtain rfl := Option.some.inj hc
      rcases Nat.lt_trichotomy c1 i with h4 | rfl | h4
      · exact h4
      · exact absurd hL hi
      · exact absurd (chain_prefix hst hfa hlen h.down c1 r1 B h2 h3 hL i r B' hrec hk h4) hi
  cases p with
  | none =>
    obtain ⟨rfl, h2⟩ := hl
    rcases h.last.1 with ⟨h1, h3⟩ | ⟨c1, r1, h1, h3, h4⟩
    · exact ⟨h1, h3⟩
    · have h5 := after c1 h1
      exact absurd h4 (h2 c1 r1 B (by rw [List.getElem?_take_of_lt h5]; exact h3))
  | some p =>
    obtain ⟨⟨rp, h2, h3⟩, h4⟩ := hl
    have hplt : p < i := by
      have := (List.getElem?_eq_some_iff.1 h2).1
      rw [List.length_take] at this
      omega
    have h2' : recs[p]? = some rp := by rw [← h2, List.getElem?_take_of_lt hplt]
    have h5 : L p := hst.ready h.down ho hr (hp p rfl)
    obtain ⟨c0, h6, h7⟩ := h.last.2.2 p rp B1 h2' h3 h5
    have h8 := after c0 h6
    rcases h.last.1 with ⟨h1, _⟩ | ⟨c1, r1, h1, h9, h10⟩
    · rw [h1] at h6; cases h6
    · rw [h1] at h6
      obtain rfl := Option.some.inj h6
      have h11 := h4 c1 r1 B (by rw [List.getElem?_take_of_lt h8]; exact h9) h10
      obtain rfl : c1 = p := by omega
      rw [h9] at h2'
      obtain rfl := Option.some.inj h2'
      rw [h10] at h3
      exact ⟨h1, by injection h3⟩

/-- The same for a store beside the chain. -/
theorem DI.lastP (h : DI E X P base ρ s w0 ops ms recs tm0 B0 nt ds L c B σ a w) (hst : Static ops ms) (hfa : Facts X P self ops ms s.hi B0 tm0 nt recs) (hlen : recs.length = ops.length) (hpo : PassOk X P ops ms s.hi B0 recs) (ho : ops[i]? = some o) (hi : ¬ L i)
    (hr : ∀ e ∈ o.after, Region.binds .any e = true → L e.on) {b : Nat} {o0 o1 : AO} (hrec : recs[i]? = some r) (hk : r.k = .put b o0 o1) {p : Option Nat} {B1 : St} (hl : LastC B0 (recs.take i) p B1) : c = p ∧ B = B1 := by
  have hilt := (List.getElem?_eq_some_iff.1 hrec).1
  have after : ∀ c0, c = some c0 → c0 < i := fun c0 hc => by
    have hL := h.last.2.1 c0 hc
    rcases h.last.1 with ⟨h1, _⟩ | ⟨c1, r1, h1, h2, h3⟩
    · rw [h1] at hc; cases hc
    · rw [h1] at hc
      obtain rfl := Option.some.inj hc
      have hclt : c1 < ops.length := by have := (List.getElem?_eq_some_iff.1 h2).1; omega
      rcases hpo.putC i c1 r r1 b o0 o1 B hrec h2 hk h3 with h4 | h4
      · exact hst.lt i o c1 ho h4
      · exact absurd (hst.below h.down c1 _ i (List.getElem?_eq_getElem hclt) hL h4) hi
  cases p with
  | none =>
    obtain ⟨rfl, h2⟩ := hl
    rcases h.last.1 with ⟨h1, h3⟩ | ⟨c1, r1, h1, h3, h4⟩
    · exact ⟨h1, h3⟩
    · have h5 := after c1 h1
      exact absurd h4 (h2 c1 r1 B (by rw [List.getElem?_take_of_lt h5]; exact h3))
  | some p =>
    obtain ⟨⟨rp, h2, h3⟩, h4⟩ := hl
    have hplt : p < i := by
      have := (List.getElem?_eq_some_iff.1 h2).1
      rw [List.length_take] at this
      omega
    have h2' : recs[p]? = some rp := by rw [← h2, List.getElem?_take_of_lt hplt]
    have h5 : L p := by
      rcases hpo.putC i p r rp b o0 o1 B1 hrec h2' hk h3 with h6 | h6
      · exact hst.ready h.down ho hr h6
      · have := hst.lt p _ i (List.getElem?_eq_getElem (by omega)) h6; omega
    obtain ⟨c0, h6, h7⟩ := h.last.2.2 p rp B1 h2' h3 h5
    have h8 := after c0 h6
    rcases h.last.1 with ⟨h1, _⟩ | ⟨c1, r1, h1, h9, h10⟩
    · rw [h1] at h6; cases h6
    · rw [h1] at h6
      obtain rfl := Option.some.inj h6
      have h11 := h4 c1 r1 B (by rw [List.getElem?_take_of_lt h8]; exact h9) h10
      obtain rfl : c1 = p := by omega
      rw [h9] at h2'
      obtain rfl := Option.some.inj h2'
      rw [h10] at h3
      exact ⟨h1, by injection h3⟩

/-- One number, one block. -/
theorem SL.one {b : Nat} {o1 o2 : AO} (h1 : SL ms recs s.hi L c B b o1) (h2 : SL ms recs s.hi L c B b o2) : o1 = o2 := by
  rcases h1 with ⟨j, r, h3, h4, h5, h6⟩ | ⟨h3, h4⟩ <;> rcases h2 with ⟨j', r', h7, h8, h9, h10⟩ | ⟨h7, h8⟩
  · have e1 := h6 j' r' o2 h7 h8 h9
    have e2 := h10 j r o1 h3 h4 h5
    obtain rfl : j = j' := by omega
    rw [h3] at h7
    obtain rfl := Option.some.inj h7
    rw [h4] at h8
    simp only [Option.some.injEq, Prod.mk.injEq] at h8
    exact h8.2
  · exact absurd h5 (h8 j r o1 h3 h4)
  · exact absurd h9 (h4 j' r' o2 h7 h8)
  · rw [h3] at h7; exact Option.some.inj h7

theorem blk_cases {N0 j : Nat} {r : Rec} {b : Nat} {o : AO} (h : blk N0 j r = some (b, o)) : (r.k = .alloc o ∧ b = N0 + j) ∨ ∃ o0, r.k = .put b o0 o := by
  unfold blk at h
  split at h
  · rename_i ob hk
    simp only [Option.some.injEq, Prod.mk.injEq] at h
    obtain ⟨rfl, rfl⟩ := h
    exact .inl ⟨hk, rfl⟩
  · rename_i b' o0 ob hk
    simp only [Option.some.injEq, Prod.mk.injEq] at h
    obtain ⟨rfl, rfl⟩ := h
    exact .inr ⟨o0, hk⟩
  · cases h

/-- A part of the memory that an operation may be carried out on. -/
theorem SL.part (hst : Static ops ms) (hpo : PassOk X P ops ms s.hi B0 recs) (hlen : recs.length = ops.length) (hpt : Pt B0 recs c B) (hd : Down ops L) (ho : ops[i]? = some o) (hr : ∀ e ∈ o.after, Region.binds .any e = true → L e.on) {pre : List Rec} (hpre : ∀ (j : Nat) (r' : Rec), pre[j]? = some r' → recs[j]? = some r')
    (hall : ∀ (j : Nat) (r' : Rec), (ms.getD i 0).testBit j = true → recs[j]? = some r' → pre[j]? = some r') {b : Nat} {o' : AO}
    (hput : ∀ (f : Nat) (r' : Rec) (o0 o1 : AO), recs[f]? = some r' → r'.k = .put b o0 o1 → L f → (cmOf ms c).testBit f = false → (ms.getD i 0).testBit f = true)
    (h : Lst pre s.hi (Sel ms i c) B b o') : SL ms recs s.hi L c B b o' := by
  -- whatever turns the block lies below the operation
  have cov : ∀ (j : Nat) (r' : Rec) (o1 : AO), recs[j]? = some r' → blk s.hi j r' = some (b, o1) → L j → (cmOf ms c).testBit j = false → (ms.getD i 0).testBit j = true := fun j r' o1 hj hb hL hcm => by
    rcases blk_cases hb with ⟨hk, hbj⟩ | ⟨o0, hk⟩
    · rcases h with ⟨k, rk, h1, h2, h3, _⟩ | ⟨h1, _⟩
      · have h1 := hpre k rk h1
        rcases blk_cases h2 with ⟨_, h4⟩ | ⟨o2, h4⟩
        · obtain rfl : k = j := by omega
          exact h3.1
        · have h5 := hpo.putA k j rk r' o2 o' o1 h1 hj (by rw [h4, hbj]) hk
          exact hst.trans i o k j ho h3.1 h5
      · rcases hpo.clean j r' o1 c B hj hk hpt with h4 | h4
        · rw [hcm] at h4; cases h4
        · rw [← hbj, h1] at h4; cases h4
    · exact hput j r' o0 o1 hj hk hL hcm
  rcases h with ⟨j, r', h1, h2, h3, h4⟩ | ⟨h1, h2⟩
  · exact .inl ⟨j, r', hpre j r' h1, h2, ⟨hst.ready hd ho hr h3.1, h3.2⟩, fun j' r'' o1 h5 h6 h7 => h4 j' r'' o1 (hall j' r'' (cov j' r'' o1 h5 h6 h7.1 h7.2) h5) h6 ⟨cov j' r'' o1 h5 h6 h7.1 h7.2, h7.2⟩⟩
  · exact .inr ⟨h1, fun j' r'' o1 h5 h6 h7 => h2 j' r'' o1 (hall j' r'' (cov j' r'' o1 h5 h6 h7.1 h7.2) h5) h6 ⟨cov j' r'' o1 h5 h6 h7.1 h7.2, h7.2⟩⟩
end
end Go.Proofs.YtjaaajmiojigbaaGreatDoor
