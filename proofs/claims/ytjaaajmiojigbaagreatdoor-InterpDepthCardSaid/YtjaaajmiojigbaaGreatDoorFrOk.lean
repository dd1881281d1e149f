/- Calls told once: why the answer holds. No program in sight. -/
import Derived.Test.YtjaaajmiojigbaaGreatDoorFr
import Derived.Test.YtjaaajmiojigbaaGreatDoorSound
namespace Go.Proofs.YtjaaajmiojigbaaGreatDoor
open Go
variable {E : Env}

mutual
theorem VR.ren {ρ σ : Mp} {q : Nat → Option Nat} (hq : ∀ a b, q a = some b → ρ a = σ b) (hz : ρ.fz = σ.fz) : ∀ {x y : AV} {v : Value}, AV.ren q x = some y → (VR E ρ x v ↔ VR E σ y v)
  | .ptr b o, y, v, h => by
    simp only [AV.ren] at h
    split at h
    · rename_i c hc
      obtain rfl := Option.some.inj h
      simp only [VR, hq _ _ hc]
    · cases h
  | .slice b o n c z, y, v, h => by
    simp only [AV.ren] at h
    split at h
    · rename_i d hc
      obtain rfl := Option.some.inj h
      simp only [VR, hq _ _ hc]
    · cases h
  | .map b, y, v, h => by
    simp only [AV.ren] at h
    split at h
    · rename_i d hc
      obtain rfl := Option.some.inj h
      simp only [VR, hq _ _ hc]
    · cases h
  | .fn f a b, y, v, h => by
    simp only [AV.ren] at h
    split at h
    · rename_i a' b' h1 h2
      obtain rfl := Option.some.inj h
      simp only [VR, VRs.ren hq hz h1, VRs.ren hq hz h2]
    · cases h
  | .iface t x, y, v, h => by
    simp only [AV.ren] at h
    split at h
    · rename_i x' h1
      obtain rfl := Option.some.inj h
      simp only [VR, VR.ren hq hz h1]
    · cases h
  | .agg l, y, v, h => by
    simp only [AV.ren] at h
    split at h
    · rename_i x' h1
      obtain rfl := Option.some.inj h
      simp only [VR, VRs.ren hq hz h1]
    · cases h
  | .tuple l, y, v, h => by
    simp only [AV.ren] at h
    split at h
    · rename_i x' h1
      obtain rfl := Option.some.inj h
      simp only [VR, VRs.ren hq hz h1]
    · cases h
  | .bool _, y, v, h | .int _ _, y, v, h | .str _, y, v, h | .nilPtr, y, v, h | .nilSlice, y, v, h | .emptyS, y, v, h | .zeroS, y, v, h | .nilMap, y, v, h | .nilFn, y, v, h | .nilIface, y, v, h => by
    simp only [AV.ren, Option.some.injEq] at h
    subst h
    simp only [VR]
  | .sx e, y, v, h => by
    simp only [AV.ren, Option.some.injEq] at h
    subst h
    simp only [VR, hz]
  | .yieldF, y, v, h | .gsl .., y, v, h | .fp .., y, v, h => by simp [AV.ren] at h
theorem VRs.ren {ρ σ : Mp} {q : Nat → Option Nat} (hq : ∀ a b, q a = some b → ρ a = σ b) (hz : ρ.fz = σ.fz) : ∀ {x y : List AV} {v : List Value}, AV.rens q x = some y → (VRs E ρ x v ↔ VRs E σ y v)
  | [], y, v, h => by
    simp only [AV.rens, Option.some.injEq] at h
    subst h
    simp only [VRs]
  | a :: r, y, v, h => by
    simp only [AV.rens] at h
    split at h
    · rename_i a' b' h1 h2
      obtain rfl := Option.some.inj h
      simp only [VRs, VR.ren hq hz h1, VRs.ren hq hz h2]
    · cases h
end
theorem EsR.ren {ρ σ : Mp} {q : Nat → Option Nat} (hq : ∀ a b, q a = some b → ρ a = σ b) (hz : ρ.fz = σ.fz) : ∀ {x y : List (AV × AV)} {v : List MapEntry}, esRen q x = some y → (EsR E ρ x v ↔ EsR E σ y v)
  | [], y, v, h => by
    simp only [esRen, Option.some.injEq] at h
    subst h
    simp only [EsR]
  | (a, b) :: r, y, v, h => by
    simp only [esRen] at h
    split at h
    · rename_i a' b' r' h1 h2 h3
      obtain rfl := Option.some.inj h
      simp only [EsR, VR.ren hq hz h1, VR.ren hq hz h2, EsR.ren hq hz h3]
    · cases h
theorem esSame_eq : ∀ {a b : List (AV × AV)}, esSame a b = true → a = b
  | [], b, h => by cases b <;> simp_all [esSame]
  | (a, b) :: r, c, h => by
    cases c with
    | nil => simp [esSame] at h
    | cons p t =>
      obtain ⟨c, d⟩ := p
      simp only [esSame, Bool.and_eq_true] at h
      rw [AV.same_eq h.1.1, AV.same_eq h.1.2, esSame_eq h.2]

theorem rens_get {q : Nat → Option Nat} : ∀ {x y : List AV} {j : Nat}, AV.rens q x = some y → x.length = y.length ∧ ∀ b, y[j]? = some b → ∃ a, x[j]? = some a ∧ AV.ren q a = some b
  | [], y, j, h => by
    simp only [AV.rens, Option.some.injEq] at h
    subst h
    simp
  | a :: r, y, j, h => by
    simp only [AV.rens] at h
    split at h
    · rename_i a' b' h1 h2
      obtain rfl := Option.some.inj h
      refine ⟨by simp [(rens_get (j := 0) h2).1], fun b hb => ?_⟩
      cases j with
      | zero =>
        simp only [List.getElem?_cons_zero, Option.some.injEq] at hb
        subst hb
        exact ⟨a, rfl, h1⟩
      | succ j => simpa using (rens_get (j := j) h2).2 b (by simpa using hb)
    · cases h
theorem rens_get' {q : Nat → Option Nat} : ∀ {x y : List AV} {j : Nat} {a : AV}, AV.rens q x = some y → x[j]? = some a → ∃ b, y[j]? = some b ∧ AV.ren q a = some b
  | [], y, j, a, h, hj => by simp at hj
  | c :: r, y, j, a, h, hj => by
    simp only [AV.rens] at h
    split at h
    · rename_i a' b' h1 h2
      obtain rfl := Option.some.inj h
      cases j with
      | zero =>
        simp only [List.getElem?_cons_zero, Option.some.injEq] at hj
        subst hj
        exact ⟨a', rfl, h1⟩
      | succ j => simpa using rens_get' (j := j) h2 (by simpa using hj)
    · cases h

/-- A block, its cells by their places. -/
def OLR (E : Env) (base : Nat) (ρ : Mp) (w : World) (l : Loc) : OL → Prop
  | .cells ro cs => ∃ arr e fr, w.heap[l.g]? = some (.cells arr e fr) ∧ (ro = false → arr.size = l.d + l.m) ∧ cs.length ≤ l.m ∧
      (∀ j x, cs[j]? = some x → ∃ v, arr[l.d + j]? = some v ∧ VR E ρ x v) ∧ (ro = false → base ≤ l.g ∧ fr = (0, 0))
  | .map es => base ≤ l.g ∧ ∃ arr cl, w.heap[l.g]? = some (.map arr cl) ∧ EsR E ρ es arr.toList

section
variable {base : Nat} {ρ σ : Mp} {w : World} {l : Loc} {s : St}
theorem OLR.or {o : OL} (h : OLR E base ρ w l o) : OR E base ρ w l o.ao := by
  cases o with
  | map es => exact h
  | cells ro cs =>
    obtain ⟨arr, e, fr, h1, h2, h3, h4, h5⟩ := h
    refine ⟨arr, e, fr, h1, h2, h3, fun j x hj => ?_, h5⟩
    rcases writeN_get hj with ⟨_, h7⟩ | ⟨_, h7⟩
    · exact ⟨(List.getElem?_eq_some_iff.1 (by simpa using h7)).1, h4 j x (by simpa using h7)⟩
    · rw [Tr.get_leaf] at h7; cases h7
theorem held_ok {b : Nat} {o : OL} (h : held s b o = true) : ∃ ob, s.H.get b = some ob ∧ (o.wr = true → ob.wr) ∧ ∀ {E base ρ w l}, OR E base ρ w l ob → OLR E base ρ w l o := by
  unfold held at h
  split at h
  · rename_i r vs n ro cs hb
    simp only [Bool.and_eq_true] at h
    obtain ⟨h1, h2⟩ := h
    split at h2
    · rename_i k hk
      obtain rfl := AV.sames_eq h2
      obtain ⟨_, hg⟩ := readN_get hk
      refine ⟨_, hb, fun hw => ?_, fun {E base ρ w l} ho => ?_⟩
      · cases ro <;> simp_all [OL.wr, AO.wr]
      · obtain ⟨arr, e, fr, h3, h4, h5, h6, h7⟩ := ho
        have hr : ro = false → r = false := fun e => by subst e; simpa using h1
        refine ⟨arr, e, fr, h3, fun e => h4 (hr e), ?_, fun j x hj => ?_, fun e => h7 (hr e)⟩
        · cases hl : k.length with
          | zero => omega
          | succ q =>
            have hq := hg q (k[q]'(by omega)) (List.getElem?_eq_getElem (by omega))
            have := (h6 _ _ hq).1
            omega
        · have := hg j x hj
          rw [Nat.zero_add] at this
          exact (h6 j x this).2
    · cases h2
  · rename_i es fs hb
    obtain rfl := esSame_eq h
    exact ⟨_, hb, fun _ => trivial, fun {E base ρ w l} ho => ho⟩
  · cases h
theorem OLR.ren {q : Nat → Option Nat} (hq : ∀ a b, q a = some b → ρ a = σ b) (hz : ρ.fz = σ.fz) {o o' : OL} (h : OL.ren q o = some o') : OLR E base ρ w l o ↔ OLR E base σ w l o' := by
  cases o with
  | cells ro cs =>
    simp only [OL.ren] at h
    split at h
    · rename_i cs' hc
      obtain rfl := Option.some.inj h
      have hl := (rens_get (j := 0) hc).1
      constructor
      · rintro ⟨arr, e, fr, h1, h2, h3, h4, h5⟩
        refine ⟨arr, e, fr, h1, h2, by omega, fun j x hj => ?_, h5⟩
        obtain ⟨a, h6, h7⟩ := (rens_get hc).2 x hj
        obtain ⟨v, h8, h9⟩ := h4 j a h6
        exact ⟨v, h8, (VR.ren hq hz h7).1 h9⟩
      · rintro ⟨arr, e, fr, h1, h2, h3, h4, h5⟩
        refine ⟨arr, e, fr, h1, h2, by omega, fun j x hj => ?_, h5⟩
        obtain ⟨b, h6, h7⟩ := rens_get' hc hj
        obtain ⟨v, h8, h9⟩ := h4 j b h6
        exact ⟨v, h8, (VR.ren hq hz h7).2 h9⟩
    · cases h
  | map es =>
    simp only [OL.ren] at h
    split at h
    · rename_i cs' hc
      obtain rfl := Option.some.inj h
      simp only [OLR, EsR.ren hq hz hc]
    · cases h
theorem OL.ren_wr {q : Nat → Option Nat} {o o' : OL} (h : OL.ren q o = some o') : o'.wr = o.wr := by
  cases o <;> simp only [OL.ren] at h <;> split at h <;> first | cases h; done | (obtain rfl := Option.some.inj h; rfl)
theorem OL.wr_ao {o : OL} : o.ao.wr ↔ o.wr = true := by cases o <;> simp [OL.ao, OL.wr, AO.wr]
theorem mkH_get : ∀ {r : List (Nat × OL)} {H : Tr AO} {b : Nat} {ob : AO}, (mkH r H).get b = some ob → (∃ o, (b, o) ∈ r ∧ ob = o.ao) ∨ H.get b = some ob
  | [], H, b, ob, h => .inr h
  | (a, o) :: r, H, b, ob, h => by
    rcases Tr.get_set h with ⟨rfl, rfl⟩ | ⟨_, h2⟩
    · exact .inl ⟨o, List.mem_cons_self, rfl⟩
    · rcases mkH_get h2 with ⟨o', h3, h4⟩ | h3
      · exact .inl ⟨o', List.mem_cons_of_mem _ h3, h4⟩
      · exact .inr h3
theorem mkT_get : ∀ {r : List (Nat × Nat)} {a b : Nat}, (mkT r).get a = some b → (a, b) ∈ r
  | [], a, b, h => by rw [show mkT [] = .leaf from rfl, Tr.get_leaf] at h; cases h
  | (c, d) :: r, a, b, h => by
    rcases Tr.get_set h with ⟨rfl, rfl⟩ | ⟨_, h2⟩
    · exact List.mem_cons_self
    · exact List.mem_cons_of_mem _ (mkT_get h2)
theorem preT_mem {al : List (Nat × Nat)} : ∀ {r : List (Nat × OL)} {a b : Nat}, (a, b) ∈ preT al r → ∃ o, (a, o) ∈ r
  | [], a, b, h => by cases h
  | (c, o) :: r, a, b, h => by
    rcases List.mem_cons.1 h with h1 | h1
    · obtain ⟨rfl, _⟩ := Prod.mk.inj h1
      exact ⟨o, List.mem_cons_self⟩
    · obtain ⟨o', h2⟩ := preT_mem h1
      exact ⟨o', List.mem_cons_of_mem _ h2⟩
theorem countUp_mem : ∀ {r : List Nat} {k a b : Nat}, (a, b) ∈ countUp k r → k ≤ b ∧ b < k + r.length ∧ r[b - k]? = some a
  | [], k, a, b, h => by cases h
  | c :: r, k, a, b, h => by
    rcases List.mem_cons.1 h with h1 | h1
    · obtain ⟨rfl, rfl⟩ := Prod.mk.inj h1
      simp
    · obtain ⟨h2, h3, h4⟩ := countUp_mem h1
      refine ⟨by omega, by simp; omega, ?_⟩
      rw [show b - k = b - (k + 1) + 1 by omega]
      simpa using h4
theorem dropAll_get {q : Nat → Option Nat} {H : Tr AO} : ∀ {r : List (Nat × OL)} {b : Nat} {ob : AO}, (dropAll q r H).get b = some ob → H.get b = some ob ∧ ∀ a o, (a, o) ∈ r → o.wr = true → q a ≠ some b
  | [], b, ob, h => ⟨h, fun _ _ hm => by cases hm⟩
  | (c, o) :: r, b, ob, h => by
    simp only [dropAll] at h
    split at h
    · rename_i d h1 h2
      obtain ⟨h3, h4⟩ := Tr.get_del h
      obtain ⟨h5, h6⟩ := dropAll_get h4
      refine ⟨h5, fun a o' hm hw => ?_⟩
      rcases List.mem_cons.1 hm with h7 | h7
      · obtain ⟨rfl, rfl⟩ := Prod.mk.inj h7
        rw [h2]
        exact fun e => h3 (Option.some.inj e).symm
      · exact h6 a o' h7 hw
    · rename_i h1
      obtain ⟨h5, h6⟩ := dropAll_get h
      refine ⟨h5, fun a o' hm hw => ?_⟩
      rcases List.mem_cons.1 hm with h7 | h7
      · obtain ⟨rfl, rfl⟩ := Prod.mk.inj h7
        exact fun e => h1 _ hw e
      · exact h6 a o' h7 hw
theorem renPost_mem {q : Nat → Option Nat} : ∀ {r ps : List (Nat × OL)} {b : Nat} {o' : OL}, renPost q r = some ps → (b, o') ∈ ps → ∃ a o, (a, o) ∈ r ∧ q a = some b ∧ OL.ren q o = some o'
  | [], ps, b, o', h, hm => by
    simp only [renPost, Option.some.injEq] at h
    subst h
    cases hm
  | (c, d) :: r, ps, b, o', h, hm => by
    simp only [renPost] at h
    split at h
    · rename_i b1 o1 r1 h1 h2 h3
      obtain rfl := Option.some.inj h
      rcases List.mem_cons.1 hm with h7 | h7
      · obtain ⟨rfl, rfl⟩ := Prod.mk.inj h7
        exact ⟨c, d, List.mem_cons_self, h1, h2⟩
      · obtain ⟨a, o, h8, h9⟩ := renPost_mem h3 h7
        exact ⟨a, o, List.mem_cons_of_mem _ h8, h9⟩
    · cases h
end

/-- What a closed run has shown. -/
def ToldOk (E : Env) (P : Program) (R : Told) : Prop := ∃ s', CallS E P R.f R.args R.st R.val s' ∧ ∀ a o, (a, o) ∈ R.post → held s' a o = true ∧ o.wr = true
theorem told_run {P : Program} {X : Ctx} {lib : Lib} {C : Code → Prop} {n : Nat} (hm : P.follows .mixedOrders = true) (hx : XOk E X) (hC : Closed C) (hl : LibOk E X P C lib) {R : Told} (h : toldRun R (evA X P lib n (.call R.f R.args R.st)) = true) : ToldOk E P R := by
  unfold toldRun at h
  split at h
  · rename_i v s' he
    simp only [Bool.and_eq_true] at h
    have hv := AV.same_eq h.1
    subst hv
    exact ⟨s', evA_call hm hx hC hl he, fun a o hm => by simpa using List.all_eq_true.1 h.2 _ hm⟩
  · cases h

theorem toldQ_ok {P : Program} {R : Told} {s s' : St} {args : List AV} {v : AV} {q : Nat → Option Nat} {frs : List Nat} (hR : ToldOk E P R) (hqc : ∀ a b, q a = some b → (a < P.globals.size ∧ b = a) ∨ ∃ o, (a, o) ∈ R.pre) (hqg : ∀ a, a < P.globals.size → q a = some a)
    (h : toldQ P.globals.size R s args q frs = some (v, s')) : CallS E P R.f args s v s' := by
  unfold toldQ at h
  split at h
  · cases h
  rename_i l hl
  split at h
  rotate_left
  · cases h
  rename_i hc
  simp only [Bool.and_eq_true] at hc
  obtain ⟨⟨h1, h2⟩, h3⟩ := hc
  have h3 := Nat.le_of_ble_eq_true h3
  obtain rfl := AV.sames_eq h1
  split at h
  rotate_left
  · cases h
  rename_i v' ps h4 h5
  obtain ⟨rfl, rfl⟩ := Prod.mk.inj (Option.some.inj h)
  obtain ⟨s0, hcall, hpost⟩ := hR
  have hpre : ∀ a o, (a, o) ∈ R.pre → ∃ b o', q a = some b ∧ OL.ren q o = some o' ∧ a < R.nx ∧ held s b o' = true ∧ (invT q R.pre).get b = some a := by
    intro a o hm
    have := List.all_eq_true.1 h2 _ hm
    unfold preOk at this
    split at this
    · rename_i b o' h6 h7
      simp only [Bool.and_eq_true] at this
      obtain ⟨⟨h8, h9⟩, h10⟩ := this
      refine ⟨b, o', h6, h7, Nat.lt_of_succ_le (by simpa [Nat.blt] using h8), h9, ?_⟩
      split at h10
      · rename_i c hc
        rw [hc, Nat.eq_of_beq_eq_true h10]
      · cases h10
    · cases this
  intro base ρ w us hg hr hv
  let ρ0 : Mp := ⟨fun a => (q a).bind ρ.at_, ρ.fz⟩
  have hq0 : ∀ a b, q a = some b → ρ0 a = ρ b := fun a b e => by
    show (q a).bind _ = _
    rw [e]; rfl
  have hin : ∀ a o, (a, o) ∈ R.pre → ∃ b ob l, q a = some b ∧ s.H.get b = some ob ∧ ρ b = some l ∧ OLR E base ρ0 w l o ∧ (o.wr = true → ob.wr) ∧ (invT q R.pre).get b = some a ∧ a < R.nx := by
    intro a o hm
    obtain ⟨b, o', h6, h7, h8, h9, h10⟩ := hpre a o hm
    obtain ⟨ob, h11, h12, h13⟩ := held_ok h9
    obtain ⟨l, h14, h15⟩ := hr.objs b ob h11
    exact ⟨b, ob, l, h6, h11, h14, (OLR.ren hq0 rfl h7).2 (h13 h15), fun e => h12 ((OL.ren_wr h7).trans e), h10, h8⟩
  have hsome : ∀ a b, q a = some b → ∃ l, ρ b = some l := by
    intro a b e
    rcases hqc a b e with ⟨h6, rfl⟩ | ⟨o, h6⟩
    · obtain ⟨m, hm⟩ := hg.lies _ h6
      exact ⟨_, hm⟩
    · obtain ⟨b', _, l, h7, _, h8, _⟩ := hin a o h6
      rw [e] at h7
      obtain rfl := Option.some.inj h7
      exact ⟨l, h8⟩
  have hback : ∀ a o0 l0, R.st.H.get a = some o0 → ρ0 a = some l0 → ∃ t ob o, (a, o) ∈ R.pre ∧ o0 = o.ao ∧ q a = some t ∧ s.H.get t = some ob ∧ ρ t = some l0 ∧ (o0.wr → ob.wr) ∧ (invT q R.pre).get t = some a ∧ OLR E base ρ0 w l0 o := by
    intro a o0 l0 ha hl0
    rcases mkH_get ha with ⟨o, hm, rfl⟩ | h6
    · obtain ⟨b, ob, l1, h7, h8, h9, h10, h11, h12, _⟩ := hin a o hm
      rw [hq0 a b h7, h9] at hl0
      obtain rfl := Option.some.inj hl0
      exact ⟨b, ob, o, hm, rfl, h7, h8, h9, fun e => h11 (OL.wr_ao.1 e), h12, h10⟩
    · rw [Tr.get_leaf] at h6; cases h6
  have hr0 : HR E base ρ0 R.st w := by
    refine ⟨fun a o0 ha => ?_, fun a a' o o' l l' ha ha' hne hw hl hl' => ?_, ?_, hr.base, hr.frz, fun a o l ha hw hl => ?_⟩
    · rcases mkH_get ha with ⟨o, hm, rfl⟩ | h6
      · obtain ⟨b, ob, l1, h7, h8, h9, h10, _⟩ := hin a o hm
        exact ⟨l1, (hq0 a b h7).trans h9, h10.or⟩
      · rw [Tr.get_leaf] at h6; cases h6
    · obtain ⟨t, ob, _, _, _, h6, h7, h8, h9, h10, _⟩ := hback a o l ha hl
      obtain ⟨t', ob', _, _, _, h6', h7', h8', h9', h10', _⟩ := hback a' o' l' ha' hl'
      refine hr.apart t t' ob ob' l l' h7 h7' (fun e => hne ?_) (h9 hw) h8 h8'
      subst e
      rw [h10] at h10'
      exact Option.some.inj h10'
    · have key : ∀ b, R.nx ≤ b → ρ0 b = none := by
        intro b hb
        show (q b).bind _ = none
        cases hqb : q b with
        | none => rfl
        | some c =>
          rcases hqc b c hqb with ⟨h6, _⟩ | ⟨o, h6⟩
          · omega
          · obtain ⟨_, _, _, _, _, _, _, _, _, h7⟩ := hin b o h6
            omega
      exact ⟨key _ (Nat.le_refl _), key⟩
    · obtain ⟨t, ob, _, _, _, h6, h7, h8, h9, _⟩ := hback a o l ha hl
      exact hr.fzap t ob l h7 (h9 hw) h8
  have hg0 : Glob0 E P ρ0 := ⟨fun g hgs => by
    obtain ⟨m, hm⟩ := hg.lies g hgs
    exact ⟨m, (hq0 g g (hqg g hgs)).trans hm⟩, hg.tab⟩
  refine (hcall base ρ0 w us hg0 hr0 ((VRs.ren hq0 rfl hl).2 hv)).mono ?_
  rintro e w' ⟨u, σ0, rfl, hu, hr1, ht⟩
  let σ : Mp := ⟨fun b => if s.hi ≤ b then (frs[b - s.hi]?).bind σ0.at_ else ρ b, σ0.fz⟩
  have hlt : ∀ b l, ρ b = some l → b < s.hi := fun b l hb => Nat.lt_of_not_le fun hle => by
    rw [hr.fresh.2 b hle] at hb
    cases hb
  have hx : Ext ρ σ := ⟨fun b l hb => by
    show (if _ then _ else _) = _
    rw [if_neg (by have := hlt b l hb; omega)]
    exact hb, ht.ext.fz⟩
  have hq2 : ∀ a b, look2 q (mkT (countUp s.hi frs)) a = some b → σ0 a = σ b := by
    intro a b e
    unfold look2 at e
    split at e
    · rename_i b' hb'
      obtain rfl := Option.some.inj e
      obtain ⟨l, hl⟩ := hsome a b' hb'
      rw [ht.ext _ _ ((hq0 a b' hb').trans hl), hx _ _ hl]
    · obtain ⟨h6, _, h7⟩ := countUp_mem (mkT_get e)
      show _ = if _ then _ else _
      rw [if_pos h6, h7]
      rfl
  have hblk : ∀ b ob, (mkH ps (dropAll q R.pre s.H)).get b = some ob → (∃ a o o', (a, o) ∈ R.post ∧ look2 q (mkT (countUp s.hi frs)) a = some b ∧ OL.ren (look2 q (mkT (countUp s.hi frs))) o = some o' ∧ ob = o'.ao) ∨ (s.H.get b = some ob ∧ ∀ a o, (a, o) ∈ R.pre → o.wr = true → q a ≠ some b) := by
    intro b ob hb
    rcases mkH_get hb with ⟨o', hm, rfl⟩ | h6
    · obtain ⟨a, o, h7, h8, h9⟩ := renPost_mem h5 hm
      exact .inl ⟨a, o, o', h7, h8, h9, rfl⟩
    · exact .inr (dropAll_get h6)
  have hout : ∀ b ob l, s.H.get b = some ob → (∀ a o, (a, o) ∈ R.pre → o.wr = true → q a ≠ some b) → ρ b = some l → ∀ a o0 l0, R.st.H.get a = some o0 → o0.wr → ρ0 a = some l0 → l0.g ≠ l.g := by
    intro b ob l hb hn hl a o0 l0 ha hw hl0
    obtain ⟨t, obt, o, hm, rfl, h6, h7, h8, h9, _⟩ := hback a o0 l0 ha hl0
    exact hr.apart t b obt ob l0 l h7 hb (fun e => hn a o hm (OL.wr_ao.1 hw) (e ▸ h6)) (h9 hw) h8 hl
  have hp : ∀ a o, (a, o) ∈ R.post → ∃ l ob, s0.H.get a = some ob ∧ ob.wr ∧ σ0 a = some l ∧ OLR E base σ0 w' l o := by
    intro a o hm
    obtain ⟨h6, h7⟩ := hpost a o hm
    obtain ⟨ob, h8, h9, h10⟩ := held_ok h6
    obtain ⟨l, h11, h12⟩ := hr1.objs a ob h8
    exact ⟨l, ob, h8, h9 h7, h11, h10 h12⟩
  have hap : ∀ a ob' l b ob l', s0.H.get a = some ob' → ob'.wr → σ0 a = some l → s.H.get b = some ob → (∀ a o, (a, o) ∈ R.pre → o.wr = true → q a ≠ some b) → ρ b = some l' → l.g ≠ l'.g := by
    intro a ob' l b ob l' ha hw hl hb hn hl'
    rcases ht.from_ a ob' l ha hl with h6 | ⟨b0, o0, l0, h6, h7, h8, h9⟩
    · have := hr.loc_lt hb hl'
      omega
    · rw [← h8]
      exact hout b ob l' hb hn hl' b0 o0 l0 h6 (h9 hw) h7
  have hold : ∀ b ob l, s.H.get b = some ob → σ b = some l → ρ b = some l := by
    intro b ob l hb hl
    obtain ⟨l1, h6, _⟩ := hr.objs b ob hb
    rw [hx _ _ h6] at hl
    rw [h6, hl]
  refine ⟨u, σ, rfl, (VR.ren hq2 rfl h4).1 hu, ⟨fun b ob hb => ?_, fun b b' o o' l l' hb hb' hne hw hl hl' => ?_, ?_, hr1.base, hr1.frz, fun b o l hb hw hl => ?_⟩,
    ⟨hx, ⟨by simp, ?_⟩, ht.os, ht.tape, ht.output, ht.size, fun g hgs hn => ht.block g hgs fun a o l ha hw hl e => ?_, fun b o l hb hl => ?_, fun b hb _ => if_neg (by omega), fun g o hgo => ?_⟩⟩
  · rcases hblk b ob hb with ⟨a, o, o', h6, h7, h8, rfl⟩ | ⟨h6, h7⟩
    · obtain ⟨l, _, _, _, h9, h10⟩ := hp a o h6
      exact ⟨l, (hq2 a b h7).symm.trans h9, ((OLR.ren hq2 rfl h8).1 h10).or⟩
    · obtain ⟨l, h8, h9⟩ := hr.objs b ob h6
      exact ⟨l, hx _ _ h8, h9.mono hx (ht.block l.g (hr.loc_lt h6 h8) fun a o0 l0 ha hw hl0 => hout b ob l h6 h7 h8 a o0 l0 ha hw hl0)⟩
  · rcases hblk b o hb with ⟨a, x, x', h6, h7, h8, rfl⟩ | ⟨h6, h7⟩
    · obtain ⟨k, ob, h9, h10, h11, _⟩ := hp a x h6
      rw [hq2 a b h7, hl] at h11
      obtain rfl := Option.some.inj h11
      rcases hblk b' o' hb' with ⟨a', y, y', k6, k7, k8, rfl⟩ | ⟨k6, k7⟩
      · obtain ⟨k, ob', k9, k10, k11, _⟩ := hp a' y k6
        refine hr1.apart a a' ob ob' l l' h9 k9 (fun e => hne ?_) h10 ((hq2 a b h7).trans hl) ((hq2 a' b' k7).trans hl')
        subst e
        rw [h7] at k7
        exact Option.some.inj k7
      · exact hap a ob l b' o' l' h9 h10 ((hq2 a b h7).trans hl) k6 k7 (hold _ _ _ k6 hl')
    · rcases hblk b' o' hb' with ⟨a', y, y', k6, k7, k8, rfl⟩ | ⟨k6, k7⟩
      · obtain ⟨k, ob', k9, k10, k11, _⟩ := hp a' y k6
        exact (hap a' ob' l' b o l k9 k10 ((hq2 a' b' k7).trans hl') h6 h7 (hold _ _ _ h6 hl)).symm
      · exact hr.apart b b' o o' l l' h6 k6 hne hw (hold _ _ _ h6 hl) (hold _ _ _ k6 hl')
  · have key : ∀ b, s.hi + frs.length ≤ b → σ b = none := by
      intro b hb
      show (if _ then _ else _) = _
      rw [if_pos (by omega), List.getElem?_eq_none (by omega)]
      rfl
    refine ⟨?_, key⟩
    show σ (if s.nx < s.hi then s.nx else s.hi + frs.length) = none
    split
    · show (if _ then _ else _) = _
      rw [if_neg (by omega)]
      exact hr.fresh.1
    · exact key _ (Nat.le_refl _)
  · rcases hblk b o hb with ⟨a, x, x', h6, h7, h8, rfl⟩ | ⟨h6, h7⟩
    · obtain ⟨k, ob, h9, h10, h11, _⟩ := hp a x h6
      exact hr1.fzap a ob l h9 h10 ((hq2 a b h7).trans hl)
    · have h8 := hold _ _ _ h6 hl
      show σ0.fz l.g = none
      cases hf : σ0.fz l.g with
      | none => rfl
      | some ob =>
        rcases ht.fzs _ _ hf with h9 | h9 | ⟨a, o0, l0, h9, h10, h11, h12⟩
        · have : ρ.fz l.g = none := hr.fzap b o l h6 hw h8
          rw [show ρ0.fz l.g = ρ.fz l.g from rfl, this] at h9
          cases h9
        · have := hr.loc_lt h6 h8
          omega
        · exact absurd h12 (hout b o l h6 h7 h8 a o0 l0 h9 h10 h11)
  · show (if s.nx < s.hi then s.nx else s.hi + frs.length) = s.nx ∨ s.hi ≤ (if s.nx < s.hi then s.nx else s.hi + frs.length)
    split
    · exact .inl rfl
    · exact .inr (by omega)
  · obtain ⟨t, obt, o', hm, rfl, h6, h7, h8, h9, _⟩ := hback a o l ha hl
    exact hn t obt l h7 (h9 hw) h8 e
  · rcases hblk b o hb with ⟨a, x, x', h6, h7, h8, rfl⟩ | ⟨h6, h7⟩
    · obtain ⟨k, ob, h9, h10, h11, _⟩ := hp a x h6
      rcases ht.from_ a ob l h9 ((hq2 a b h7).trans hl) with h12 | ⟨b0, o0, l0, h12, h13, h14, h15⟩
      · exact .inl h12
      · obtain ⟨t, obt, o', hm, rfl, k6, k7, k8, k9, _⟩ := hback b0 o0 l0 h12 h13
        exact .inr ⟨t, obt, l0, k7, k8, h14, fun _ => k9 (h15 h10)⟩
    · exact .inr ⟨b, o, l, h6, hold _ _ _ h6 hl, rfl, id⟩
  · rcases ht.fzs g o hgo with h6 | h6 | ⟨a, o0, l0, h6, h7, h8, h9⟩
    · exact .inl h6
    · exact .inr (.inl h6)
    · obtain ⟨t, obt, o', hm, rfl, k6, k7, k8, k9, _⟩ := hback a o0 l0 h6 h8
      exact .inr (.inr ⟨t, obt, l0, k7, k9 h7, k8, h9⟩)

theorem told_ok {P : Program} {R : Told} {s s' : St} {args : List AV} {v : AV} (hR : ToldOk E P R) (h : toldA P.globals.size R args s = some (v, s')) : CallS E P R.f args s v s' := by
  refine toldQ_ok hR (fun a b e => ?_) (fun a ha => if_pos ha) h
  unfold look at e
  split at e
  · rename_i hlt
    exact .inl ⟨hlt, (Option.some.inj e).symm⟩
  · exact .inr (preT_mem (mkT_get e))
#print axioms told_ok
end Go.Proofs.YtjaaajmiojigbaaGreatDoor
