/- Regions whose order is drawn: the whole region. -/
import Derived.Test.YtjaaajmiojigbaaGreatDoorDraw3
namespace Go.Proofs.YtjaaajmiojigbaaGreatDoor
open Go Go.RowKit
variable {E : Env} {X : Ctx}

section
variable {P : Program} {self : Req → Option Resp} {base : Nat} {ρ σ : Mp} {s B B0 : St} {w0 w : World} {ops : Array Oper} {ms : List Nat} {recs : List Rec} {tm0 : Tr AV} {nt : Nat} {ds : List Deferred} {L : Nat → Prop} {c : Option Nat} {a : Act} {i : Nat} {o : Oper} {r : Rec}

theorem DI.go (h : DI E X P base ρ s w0 ops.toList ms recs tm0 B0 nt ds L c B σ a w) (hs : SelfOk E P self) (hst : Static ops.toList ms) (hlen : recs.length = ops.toList.length) (hg : Glob E X P ρ) (ho : ops[i]? = some o) (hi : ¬ L i) (hr : ∀ e ∈ o.after, Region.binds .any e = true → L e.on)
    (hrec : recs[i]? = some r) (ht : ∀ t x, r.tm.get t = some x → t ∈ namesO ops.toList o ∧ TmVal ops.toList (recs.take i) tm0 t x) (hdn : ∀ d, o.dst = some d → d < nt) (hw : wantedA X ops.toList r.tm o = some true)
    {A A' B' : St} {c' : Option Nat} (hA : ∀ b o, A.H.get b = some o → SL ms recs s.hi L c B b o) (hn : σ A.nx = none) (hAhi : A.hi = B.hi) (hnx : s.hi ≤ A.nx) (hne : ∀ j, j < ops.toList.length → j ≠ i → s.hi + j ≠ A.nx) (he : opA X P self r.tm A o = some (r.v, A'))
    (hl : LastL B0 recs (Add L i) c' B') (hsub : ∀ b o', SL ms recs s.hi (Add L i) c' B' b o' → MP.step (SL ms recs s.hi L c B) A A' b o') (hB' : A'.hi = B'.hi)
    {K : Act → World → Prop} {Q : Exit → Act → World → Prop} (hK : ∀ σ' a' w', DI E X P base ρ s w0 ops.toList ms recs tm0 B0 nt ds (Add L i) c' B' σ' a' w' → K a' w') : wpOp P ops Q i K a w := by
  have hol : ops.toList[i]? = some o := by rw [Array.getElem?_toList]; exact ho
  have hf := h.frame hst hlen hol hi hr ht
  have hHR := h.hp.sub hA hn (by omega)
  unfold wpOp
  rw [ho]
  simp only []
  rw [wantedA_ok hf hg.ok hw, if_pos rfl]
  refine .inl (opA_ok hs hf (hg.mono h.tp.ext) hHR he fun u σ' w' hv hr' htn => hK σ' _ w' ?_)
  have hhi := h.hi
  have htn1 := htn.nx.1
  refine ⟨h.down_add hol hr, hl, ?_, ?_, fun j r' ob hj hk hL => ?_, fr_add hst.dist hlen hol hrec hdn h.size h.fr htn.ext hv, ?_, ?_, by omega⟩
  · have := (h.hp.step hA hr' htn).mono hsub
    rw [hB'] at this
    exact this
  · have := (h.tp.step h.hp hA htn (by omega) (.inr hnx)).mono hsub
    rw [hB'] at this
    exact this
  · have hjl : j < ops.toList.length := by have := (List.getElem?_eq_some_iff.1 hj).1; omega
    have hji : j ≠ i := fun e => hL (.inr e)
    rw [htn.old (s.hi + j) (by omega) (hne j hjl hji)]
    exact h.un j r' ob hj hk fun hL' => hL (.inl hL')
  · rw [size_put]; exact h.size
  · rw [Act.put_def]; exact h.defers

theorem DI.step (h : DI E X P base ρ s w0 ops.toList ms recs tm0 B0 nt ds L c B σ a w) (hs : SelfOk E P self) (hst : Static ops.toList ms) (hfa : Facts X P self ops.toList ms s.hi B0 tm0 nt recs) (hpo : PassOk X P ops.toList ms s.hi B0 recs) (hlen : recs.length = ops.toList.length) (hg : Glob E X P ρ)
    (ho : ops[i]? = some o) (hi : ¬ L i) (hr : ∀ e ∈ o.after, Region.binds .any e = true → L e.on) {K : Act → World → Prop} {Q : Exit → Act → World → Prop} (hK : ∀ c' B' σ' a' w', DI E X P base ρ s w0 ops.toList ms recs tm0 B0 nt ds (Add L i) c' B' σ' a' w' → K a' w') : wpOp P ops Q i K a w := by
  have hol : ops.toList[i]? = some o := by rw [Array.getElem?_toList]; exact ho
  have hilt := (List.getElem?_eq_some_iff.1 hol).1
  have hrec : recs[i]? = some recs[i] := List.getElem?_eq_getElem (by omega)
  obtain ⟨⟨ht, hk⟩, hdn⟩ := hfa i _ o hrec hol
  have htl : (recs.take i).length = i := by rw [List.length_take]; omega
  have hhi := h.hi
  have hfresh := h.hp.fresh B.hi (Nat.le_refl _)
  have hpre : ∀ (j : Nat) (r' : Rec), (recs.take i)[j]? = some r' → recs[j]? = some r' := fun j r' hj => by
    have : j < i := by have := (List.getElem?_eq_some_iff.1 hj).1; omega
    rw [← hj, List.getElem?_take_of_lt this]
  generalize hgr : recs[i] = r at *
  have hall : ∀ (j : Nat) (r' : Rec), (ms.getD i 0).testBit j = true → recs[j]? = some r' → (recs.take i)[j]? = some r' := fun j r' hb hj => by
    rw [List.getElem?_take_of_lt (hst.lt i o j hol hb)]; exact hj
  -- operations that add nothing to the memory
  have hsame : blk s.hi i r = none → ∀ b o', SL ms recs s.hi (Add L i) c B b o' → SL ms recs s.hi L c B b o' := fun hna b o' hb => by
    rcases hb with ⟨j, r', h1, h2, h3, h4⟩ | ⟨h1, h2⟩
    · rcases h3.1 with h5 | rfl
      · exact .inl ⟨j, r', h1, h2, ⟨h5, h3.2⟩, fun j' r'' o1 h6 h7 h8 => h4 j' r'' o1 h6 h7 ⟨.inl h8.1, h8.2⟩⟩
      · rw [hrec] at h1
        obtain rfl := Option.some.inj h1
        rw [hna] at h2
        cases h2
    · exact .inr ⟨h1, fun j' r'' o1 h6 h7 h8 => h2 j' r'' o1 h6 h7 ⟨.inl h8.1, h8.2⟩⟩
  -- the point of the chain does not hold the operation
  have hcmi : (cmOf ms c).testBit i = false := by
    cases hc : c with
    | none => simp [cmOf]
    | some c0 =>
      have hL := h.last.2.1 c0 hc
      have hclt : c0 < ops.toList.length := by
        rcases h.last.1 with ⟨h1, _⟩ | ⟨c1, r1, h1, h2, _⟩
        · rw [h1] at hc; cases hc
        · rw [h1] at hc
          obtain rfl := Option.some.inj hc
          have := (List.getElem?_eq_some_iff.1 h2).1
          omega
      simp only [cmOf, Nat.testBit_or, Bool.or_eq_false_iff]
      refine ⟨?_, ?_⟩
      · cases hb : (ms.getD c0 0).testBit i with
        | false => rfl
        | true => exact absurd (hst.below h.down c0 _ i (List.getElem?_eq_getElem hclt) hL hb) hi
      · rw [Nat.testBit_two_pow]
        exact decide_eq_false fun e => hi (e ▸ hL)
  -- what has been carried out does not lie above the operation
  have hnab : ∀ j, j < ops.toList.length → L j → (ms.getD j 0).testBit i = true → False := fun j hj hL hb => hi (hst.below h.down j _ i (List.getElem?_eq_getElem hj) hL hb)
  cases hrk : r.k with
  | skip =>
    rw [hrk] at hk
    obtain ⟨hw, hv⟩ := hk
    have hf := h.frame hst hlen hol hi hr ht
    unfold wpOp
    rw [ho]
    simp only []
    rw [wantedA_ok hf hg.ok hw, if_neg (by simp)]
    refine hK c B σ _ w ⟨h.down_add hol hr, h.last.add hrec (by rw [hrk]; simp), h.hp.mono (hsame (by simp [blk, hrk])), h.tp.mono (hsame (by simp [blk, hrk])), fun j r' ob hj hk' hL => h.un j r' ob hj hk' fun hL' => hL (.inl hL'), fr_add hst.dist hlen hol hrec hdn h.size h.fr (Ext.refl _) (by rw [hv]; exact vr_undef), ?_, ?_, hhi⟩
    · rw [size_put]; exact h.size
    · rw [Act.put_def]; exact h.defers
  | pure =>
    rw [hrk] at hk
    obtain ⟨hw, hv⟩ := hk
    have he : opA X P self r.tm ⟨.leaf, B.hi, B.hi⟩ o = some (r.v, ⟨.leaf, B.hi, B.hi⟩) := by unfold opA; rw [hv]
    refine h.go hs hst hlen hg ho hi hr hrec ht hdn hw (A := ⟨.leaf, B.hi, B.hi⟩) (B' := B) (c' := c) (fun b o' hb => (by simp [Tr.get_leaf] at hb)) hfresh rfl (by show s.hi ≤ B.hi; omega) (fun j hj _ => (by show s.hi + j ≠ B.hi; omega)) he (h.last.add hrec (by rw [hrk]; simp)) (fun b o' hb => .inr ⟨hsame (by simp [blk, hrk]) b o' hb, rfl⟩) rfl fun σ' a' w' => hK c B σ' a' w'
  | read =>
    rw [hrk] at hk
    obtain ⟨hw, hro⟩ := hk
    have hwin : InWin ms recs i c := by
      refine ⟨fun c0 hc => ?_, fun c' r' B' hc' hk' => ?_⟩
      · have hL := h.last.2.1 c0 hc
        rcases h.last.1 with ⟨h1, _⟩ | ⟨c1, r1, h1, h2, _⟩
        · rw [h1] at hc; cases hc
        · rw [h1] at hc
          obtain rfl := Option.some.inj hc
          have hclt : c1 < ops.toList.length := by have := (List.getElem?_eq_some_iff.1 h2).1; omega
          cases hb : (ms.getD c1 0).testBit i with
          | false => rfl
          | true => exact absurd (hst.below h.down c1 _ i (List.getElem?_eq_getElem hclt) hL hb) hi
      · by_cases hL : L c'
        · exact .inl (h.last.2.2 c' r' B' hc' hk' hL)
        · refine .inr ?_
          cases hb : (ms.getD i 0).testBit c' with
          | false => rfl
          | true => exact absurd (hst.ready h.down hol hr hb) hL
    obtain ⟨A, hA, hev⟩ := hpo.read i o r c B hol hrec hrk hro h.last.1 hwin
    have hA' : ∀ b o', A.get b = some o' → SL ms recs s.hi L c B b o' := fun b o' hb => SL.part hst hpo hlen h.last.1 h.down hol hr (pre := recs) (fun _ _ h => h) (fun _ _ _ h => h) (fun f r' o0 o1 hf hk hL hcm => by
      rcases (hA b o' hb).2 f r' o0 o1 hf hk with h1 | h1 | h1
      · exact h1
      · rw [hcm] at h1; cases h1
      · exact (hnab f (by have := (List.getElem?_eq_some_iff.1 hf).1; omega) hL h1).elim) (hA b o' hb).1
    have he : opA X P self r.tm ⟨A, B.hi, B.hi⟩ o = some (r.v, ⟨A, B.hi, B.hi⟩) := by unfold opA; rw [hev]
    refine h.go hs hst hlen hg ho hi hr hrec ht hdn hw (A := ⟨A, B.hi, B.hi⟩) (B' := B) (c' := c) hA' hfresh rfl (by show s.hi ≤ B.hi; omega) (fun j hj _ => (by show s.hi + j ≠ B.hi; omega)) he (h.last.add hrec (by rw [hrk]; simp)) (fun b o' hb => ?_) rfl fun σ' a' w' => hK c B σ' a' w'
    have hb' := hsame (by simp [blk, hrk]) b o' hb
    cases hg : A.get b with
    | none => exact .inr ⟨hb', hg⟩
    | some o2 =>
      have := SL.one hb' (hA' b o2 hg)
      subst this
      exact .inl hg
  | alloc ob =>
    rw [hrk] at hk
    obtain ⟨hw, hself, hv⟩ := hk
    rw [htl] at hself hv
    have he : opA X P self r.tm ⟨.leaf, s.hi + i, B.hi⟩ o = some (r.v, St.new ⟨.leaf, s.hi + i, B.hi⟩ ob) := by unfold opA; rw [hv ⟨.leaf, s.hi + i, B.hi⟩ rfl]
    refine h.go hs hst hlen hg ho hi hr hrec ht hdn hw (A := ⟨.leaf, s.hi + i, B.hi⟩) (B' := B) (c' := c) (fun b o' hb => (by simp [Tr.get_leaf] at hb)) (h.un i r ob hrec hrk hi) rfl (by show s.hi ≤ s.hi + i; omega) (fun j hj hji => (by show s.hi + j ≠ s.hi + i; omega)) he (h.last.add hrec (by rw [hrk]; simp)) (fun b o' hb => ?_) (by show max B.hi (s.hi + i + 1) = B.hi; omega) fun σ' a' w' => hK c B σ' a' w'
    rcases hb with ⟨j, r', h1, h2, h3, h4⟩ | ⟨h1, h2⟩
    · rcases h3.1 with h5 | rfl
      · exact .inr ⟨.inl ⟨j, r', h1, h2, ⟨h5, h3.2⟩, fun j' r'' o1 h6 h7 h8 => h4 j' r'' o1 h6 h7 ⟨.inl h8.1, h8.2⟩⟩, rfl⟩
      · rw [hrec] at h1
        obtain rfl := Option.some.inj h1
        rcases blk_cases h2 with ⟨h6, h7⟩ | ⟨o0, h6⟩
        · rw [hrk] at h6
          injection h6 with h6
          subst h6
          refine .inl ?_
          rw [h7]
          simp only [St.new]
          exact hself
        · rw [hrk] at h6; cases h6
    · exact .inr ⟨.inr ⟨h1, fun j' r'' o1 h6 h7 h8 => h2 j' r'' o1 h6 h7 ⟨.inl h8.1, h8.2⟩⟩, rfl⟩
  | put bf o0 o1 =>
    rw [hrk] at hk
    obtain ⟨hw, hv, p, B1, hl, hb0, s1, hs1, hs2, hev⟩ := hk
    rw [htl] at hb0
    have hord : ∀ (j : Nat) (r' : Rec) (o2 : AO), recs[j]? = some r' → blk s.hi j r' = some (bf, o2) → L j → (ms.getD i 0).testBit j = true := fun j r' o2 hj hb hL => by
      have hjl : j < ops.toList.length := by have := (List.getElem?_eq_some_iff.1 hj).1; omega
      rcases blk_cases hb with ⟨h1, h2⟩ | ⟨o3, h1⟩
      · exact hpo.putA i j r r' o0 o1 o2 hrec hj (by rw [hrk, h2]) h1
      · rcases hpo.putP i j r r' bf o0 o1 o3 o2 hrec hj hrk h1 with rfl | h2 | h2
        · exact absurd hL hi
        · exact h2
        · exact (hnab j hjl hL h2).elim
    obtain ⟨rfl, rfl⟩ := h.lastP hst hfa hlen hpo hol hi hr hrec hrk hl
    have hpart : SL ms recs s.hi L c B bf o0 := SL.part hst hpo hlen h.last.1 h.down hol hr hpre hall (fun f r' o2 o3 hf hk hL hcm => hord f r' o3 hf (by simp [blk, hk]) hL) hb0
    have he : opA X P self r.tm ⟨Tr.set bf o0 .leaf, B.hi, B.hi⟩ o = some (r.v, s1) := by unfold opA; rw [hev, hv]
    have hone : ∀ b o', (Tr.set bf o0 .leaf).get b = some o' → b = bf ∧ o' = o0 := fun b o' hb => by
      rcases Tr.get_set hb with h1 | ⟨_, h1⟩
      · exact h1
      · simp [Tr.get_leaf] at h1
    refine h.go hs hst hlen hg ho hi hr hrec ht hdn hw (A := ⟨Tr.set bf o0 .leaf, B.hi, B.hi⟩) (B' := B) (c' := c) (fun b o' hb => ?_) hfresh rfl (by show s.hi ≤ B.hi; omega) (fun j hj _ => (by show s.hi + j ≠ B.hi; omega)) he (h.last.add hrec (by rw [hrk]; simp)) (fun b o' hb => ?_) hs1 fun σ' a' w' => hK c B σ' a' w'
    · obtain ⟨rfl, rfl⟩ := hone b o' hb
      exact hpart
    · have hnone : b ≠ bf → (Tr.set bf o0 .leaf).get b = none := fun hne => by
        cases hg : (Tr.set bf o0 .leaf).get b with
        | none => rfl
        | some o2 => exact absurd (hone b o2 hg).1 hne
      rcases hb with ⟨j, r', h1, h2, h3, h4⟩ | ⟨h1, h2⟩
      · by_cases hji : j = i
        · subst hji
          rw [hrec] at h1
          obtain rfl := Option.some.inj h1
          simp only [blk, hrk, Option.some.injEq, Prod.mk.injEq] at h2
          obtain ⟨rfl, rfl⟩ := h2
          exact .inl hs2
        · have hLj : L j := h3.1.resolve_right hji
          by_cases hbb : b = bf
          · subst hbb
            have h5 := h4 i r o1 hrec (by simp [blk, hrk]) ⟨.inr rfl, hcmi⟩
            have h6 := hst.lt i o j hol (hord j r' o' h1 h2 hLj)
            omega
          · exact .inr ⟨.inl ⟨j, r', h1, h2, ⟨hLj, h3.2⟩, fun j' r'' o1 h6 h7 h8 => h4 j' r'' o1 h6 h7 ⟨.inl h8.1, h8.2⟩⟩, hnone hbb⟩
      · by_cases hbb : b = bf
        · subst hbb
          exact absurd ⟨.inr rfl, hcmi⟩ (h2 i r o1 hrec (by simp [blk, hrk]))
        · exact .inr ⟨.inr ⟨h1, fun j' r'' o1 h6 h7 h8 => h2 j' r'' o1 h6 h7 ⟨.inl h8.1, h8.2⟩⟩, hnone hbb⟩
  | chain B' =>
    rw [hrk] at hk
    obtain ⟨hw, p, B1, H, hl, hp, hH, he⟩ := hk
    rw [htl] at hp hH
    obtain ⟨rfl, rfl⟩ := h.lastC hst hfa hlen hol hi hr hrec hrk hl hp
    have hputL : ∀ (f : Nat) (r' : Rec) (b : Nat) (o0 o1 : AO), recs[f]? = some r' → r'.k = .put b o0 o1 → L f → (ms.getD i 0).testBit f = true := fun f r' b o0 o1 hf hk' hL => by
      rcases hpo.putC f i r' r b o0 o1 B' hf hrec hk' hrk with h1 | h1
      · exact (hnab f (by have := (List.getElem?_eq_some_iff.1 hf).1; omega) hL h1).elim
      · exact h1
    have hA : ∀ b o', H.get b = some o' → SL ms recs s.hi L c B b o' := fun b o' hb => SL.part hst hpo hlen h.last.1 h.down hol hr hpre hall (fun f r' o2 o3 hf hk' hL _ => hputL f r' b o2 o3 hf hk' hL) (hH b o' hb)
    have hbelow : ∀ c0, c = some c0 → c0 < i := fun c0 hc => hst.lt i o c0 hol (hp c0 hc)
    refine h.go hs hst hlen hg ho hi hr hrec ht hdn hw (A := ⟨H, B.hi, B.hi⟩) (B' := B') (c' := some i) hA hfresh rfl (by show s.hi ≤ B.hi; omega) (fun j hj _ => (by show s.hi + j ≠ B.hi; omega)) he ?_ (fun b o' hb => ?_) rfl fun σ' a' w' => hK (some i) B' σ' a' w'
    · refine ⟨.inr ⟨i, r, rfl, hrec, hrk⟩, fun c0 hc => .inr (Option.some.inj hc).symm, fun j r' B'' hj hk' hL => ⟨i, rfl, ?_⟩⟩
      rcases hL with hL | rfl
      · obtain ⟨c0, h1, h2⟩ := h.last.2.2 j r' B'' hj hk' hL
        have := hbelow c0 h1
        omega
      · exact Nat.le_refl _
    · rcases hb with ⟨j, r', h1, h2, ⟨h4, h5⟩, h9⟩ | ⟨h1, h2⟩
      · simp only [cmOf, Nat.testBit_or, Bool.or_eq_false_iff] at h5
        have hji : j ≠ i := fun e => by
          subst e
          rw [Nat.testBit_two_pow_self] at h5
          exact absurd h5.2 (by simp)
        have hLj : L j := h4.resolve_right hji
        have hcm : (cmOf ms c).testBit j = false := by
          cases hc : c with
          | none => simp [cmOf]
          | some c0 =>
            have h6 := hp c0 hc
            simp only [cmOf, Nat.testBit_or, Bool.or_eq_false_iff]
            refine ⟨?_, ?_⟩
            · cases hb : (ms.getD c0 0).testBit j with
              | false => rfl
              | true =>
                have := hst.trans i o c0 j hol h6 hb
                rw [this] at h5
                cases h5.1
            · rw [Nat.testBit_two_pow]
              refine decide_eq_false fun e => ?_
              subst e
              rw [h6] at h5
              cases h5.1
        -- it is a new block, and nothing has turned it
        have halloc : r'.k = .alloc o' ∧ b = s.hi + j := by
          rcases blk_cases h2 with h6 | ⟨o2, h6⟩
          · exact h6
          · have h7 := hputL j r' b o2 o' h1 h6 hLj
            rw [h7] at h5
            cases h5.1
        have honly : ∀ (j' : Nat) (r'' : Rec) (o2 : AO), recs[j']? = some r'' → blk s.hi j' r'' = some (b, o2) → ((ms.getD i 0).testBit j' = true ∨ L j') → j' = j := fun j' r'' o2 h6 h7 h8 => by
          rcases blk_cases h7 with ⟨_, h10⟩ | ⟨o3, h10⟩
          · omega
          · have h11 := hpo.putA j' j r'' r' o3 o2 o' h6 h1 (by rw [h10, halloc.2]) halloc.1
            have h12 : (ms.getD i 0).testBit j' = true := h8.elim id fun hL => hputL j' r'' b o3 o2 h6 h10 hL
            have := hst.trans i o j' j hol h12 h11
            rw [this] at h5
            cases h5.1
        refine .inr ⟨.inl ⟨j, r', h1, h2, ⟨hLj, hcm⟩, fun j' r'' o2 h6 h7 h8 => Nat.le_of_eq (honly j' r'' o2 h6 h7 (.inr h8.1))⟩, ?_⟩
        show H.get b = none
        cases hHb : H.get b with
        | none => rfl
        | some o2 =>
          rcases hH b o2 hHb with ⟨j', r2, h6, h7, h8, _⟩ | ⟨h6, _⟩
          · obtain rfl := honly j' r2 o2 (hpre j' r2 h6) h7 (.inl h8.1)
            have := h8.1
            rw [this] at h5
            cases h5.1
          · rcases hpo.clean j r' o' c B h1 halloc.1 h.last.1 with h8 | h8
            · rw [hcm] at h8; cases h8
            · rw [← halloc.2, h6] at h8; cases h8
      · exact .inl h1

/-- How many have not come yet. -/
def left (l : Array Bool) : Nat := l.toList.count false
theorem count_set : ∀ (l : List Bool) (i : Nat), l[i]? = some false → (l.set i true).count false + 1 = l.count false
  | [], _, h => by simp at h
  | b :: l, 0, h => by simp at h; subst h; simp
  | b :: l, i + 1, h => by
    have := count_set l i (by simpa using h)
    simp only [List.set_cons_succ, List.count_cons]
    omega
theorem left_set {l : Array Bool} {i : Nat} (h : l[i]? = some false) : left (l.setIfInBounds i true) + 1 = left l := by
  unfold left
  rw [Array.toList_setIfInBounds]
  exact count_set _ _ (by rw [Array.getElem?_toList]; exact h)

theorem DI.run (hs : SelfOk E P self) (hst : Static ops.toList ms) (hfa : Facts X P self ops.toList ms s.hi B0 tm0 nt recs) (hpo : PassOk X P ops.toList ms s.hi B0 recs) (hlen : recs.length = ops.toList.length) (hg : Glob E X P ρ) {Q : Exit → Act → World → Prop}
    (hQ : ∀ c B σ a w (L : Nat → Prop), (∀ i, i < ops.size → L i) → DI E X P base ρ s w0 ops.toList ms recs tm0 B0 nt ds L c B σ a w → Q .normal a w) :
    ∀ (fuel : Nat) (listed : Array Bool) (c : Option Nat) (B : St) (σ : Mp) (a : Act) (w : World), listed.size = ops.size → left listed ≤ fuel → DI E X P base ρ s w0 ops.toList ms recs tm0 B0 nt ds (fun i => listed[i]? = some true) c B σ a w → wpAny P .any ops Q fuel listed a w := by
  have hgetF : ∀ (listed : Array Bool) (j : Nat), listed.getD j false = true ↔ listed[j]? = some true := fun listed j => by
    rw [Array.getD_eq_getD_getElem?]
    cases h : listed[j]? with
    | none => simp
    | some b => cases b <;> simp
  have hgetT : ∀ (listed : Array Bool) (j : Nat), listed.getD j true = false ↔ listed[j]? = some false := fun listed j => by
    rw [Array.getD_eq_getD_getElem?]
    cases h : listed[j]? with
    | none => simp
    | some b => cases b <;> simp
  -- where nothing may be next, all have come
  have hall : ∀ (listed : Array Bool), listed.size = ops.size → Region.ready .any ops listed = [] → ∀ i, i < ops.size → listed[i]? = some true := by
    intro listed hsz hr i
    induction i using Nat.strongRecOn with
    | _ i ih =>
      intro hi
      have hsome : listed[i]? = some listed[i] := Array.getElem?_eq_getElem (by omega)
      cases hb : listed[i] with
      | true => rw [hsome, hb]
      | false =>
        exfalso
        have : i ∈ Region.ready .any ops listed := by
          refine mem_ready.2 ⟨(hgetT _ _).2 (by rw [hsome, hb]), ops[i], Array.getElem?_eq_getElem hi, fun e he hbd => (hgetF _ _).2 ?_⟩
          have hlt := hst.back i ops[i] e (by rw [Array.getElem?_toList]; exact Array.getElem?_eq_getElem hi) he hbd
          exact ih e.on hlt (by omega)
        rw [hr] at this
        cases this
  intro fuel
  induction fuel with
  | zero =>
    intro listed c B σ a w hsz hl h
    have hnil : Region.ready .any ops listed = [] := by
      refine List.eq_nil_iff_forall_not_mem.2 fun i hi => ?_
      have h1 := (hgetT _ _).1 (mem_ready.1 hi).1
      have := left_set h1
      omega
    exact ⟨hnil, hQ c B σ a w _ (hall listed hsz hnil) h⟩
  | succ fuel ih =>
    intro listed c B σ a w hsz hl h
    refine ⟨fun hnil => hQ c B σ a w _ (hall listed hsz hnil) h, fun i hi => ?_⟩
    obtain ⟨h1, o, ho, haft⟩ := mem_ready.1 hi
    have h1 := (hgetT _ _).1 h1
    refine h.step hs hst hfa hpo hlen hg ho (by rw [h1]; simp) (fun e he hb => (hgetF _ _).1 (haft e he hb)) fun c' B' σ' a' w' h' => ?_
    refine ih (listed.setIfInBounds i true) c' B' σ' a' w' (by simp [hsz]) (by have := left_set h1; omega) ?_
    have hLL : (fun j => (listed.setIfInBounds i true)[j]? = some true) = Add (fun j => listed[j]? = some true) i := by
      funext j
      unfold Add
      by_cases hji : j = i
      · subst hji
        have hlt := (Array.getElem?_eq_some_iff.1 h1).1
        simp [Array.getElem?_setIfInBounds_self, hlt]
      · rw [Array.getElem?_setIfInBounds_ne (Ne.symm hji)]
        simp [hji]
    rw [hLL]
    exact h'

theorem drawA_ok (hs : SelfOk E P self) (hm : P.follows .mixedOrders = true) {lo id : Nat} {tm tm' : Tr AV} {s' : St} (h : At E X P base lo ρ nt tm s a w) (he : drawA X P self ops.toList nt tm s = some (tm', s')) {Q : Exit → Act → World → Prop}
    (hq : ∀ σ a' w', At E X P base lo σ nt tm' s' a' w' → Turn ρ s w σ s' w' → Q .normal a' w') : (Code.region id ops true).wp P Q a w := by
  refine wp_region_any hm ?_
  unfold drawA at he
  generalize hms : masksA ops.toList [] = ms at he
  split at he
  · rename_i hsta
    have hst := staticA_ok hsta
    split at he
    · cases he
    · rename_i e hd
      split at he
      · rename_i hpass
        simp only [Option.some.injEq, Prod.mk.injEq] at he
        obtain ⟨rfl, rfl⟩ := he
        have hdo := drawOps_ok hst.dist ops.toList 0 [] tm none ⟨s.H, s.hi + ops.toList.length, s.hi + ops.toList.length⟩ [] e rfl rfl (B0 := ⟨s.H, s.hi + ops.toList.length, s.hi + ops.toList.length⟩) (tm0 := tm)
          (fun i r o hi _ => by simp at hi) (fun t x ht => ⟨fun j p r _ _ hr => by simp at hr, fun _ => ht⟩) ⟨rfl, fun j r B' hj => by simp at hj⟩ ⟨fun j b ob hj => (by cases hj), fun j r b ob hj => (by simp at hj), List.Pairwise.nil⟩ hd
        obtain ⟨hfa, htm, hlc, hal, hlen⟩ := hdo
        have hlen := hlen (by simp)
        have hpo := passB_ok hal hpass
        have hrep : ∀ i : Nat, (Array.replicate ops.size false)[i]? ≠ some true := fun i hi => by
          rw [Array.getElem?_replicate] at hi
          split at hi <;> cases hi
        refine DI.run (base := base) (ρ := ρ) (s := s) (w0 := w) (ds := a.defers) hs hst hfa hpo hlen h.glob (fun c B σ a' w' L hL hDI => ?_) ops.size (Array.replicate ops.size false) none ⟨s.H, s.hi + ops.toList.length, s.hi + ops.toList.length⟩ ρ a _ (by simp) ?_ ?_
        · -- all have come
          have hpt : e.c = c ∧ e.B = B := by
            have hc := hDI.last
            cases hec : e.c with
            | none =>
              rw [hec] at hlc
              rcases hc.1 with ⟨h1, h2⟩ | ⟨c0, r0, h1, h2, h3⟩
              · exact ⟨h1.symm, hlc.1.trans h2.symm⟩
              · exact absurd h3 (hlc.2 c0 r0 B h2)
            | some c1 =>
              rw [hec] at hlc
              obtain ⟨⟨r1, h4, h5⟩, h6⟩ := hlc
              have hc1 : c1 < ops.size := by
                have := (List.getElem?_eq_some_iff.1 h4).1
                simp at hlen
                omega
              obtain ⟨c0, h7, h8⟩ := hc.2.2 c1 r1 e.B h4 h5 (hL c1 hc1)
              rcases hc.1 with ⟨h1, _⟩ | ⟨c2, r2, h1, h2, h3⟩
              · rw [h1] at h7; cases h7
              · rw [h1] at h7
                obtain rfl := Option.some.inj h7
                have h9 := h6 c2 r2 B h2 h3
                obtain rfl : c1 = c2 := by omega
                rw [h4] at h2
                obtain rfl := Option.some.inj h2
                rw [h5] at h3
                exact ⟨h1.symm, by injection h3⟩
          obtain ⟨hc1, hc2⟩ := hpt
          have hsub : ∀ b o, (addAl (2 ^ ops.toList.length - 1) (cmOf ms e.c) e.B.H e.al).get b = some o → SL ms e.recs s.hi L c B b o := fun b o hb => by
            have hlt : ∀ (j : Nat) (r' : Rec), e.recs[j]? = some r' → j < ops.toList.length := fun j r' hj => by
              have := (List.getElem?_eq_some_iff.1 hj).1
              omega
            have hbit : ∀ j, j < ops.toList.length → (2 ^ ops.toList.length - 1).testBit j = true := fun j hj => by rw [Nat.testBit_two_pow_sub_one]; exact decide_eq_true hj
            rcases addAl_get hal.sorted hb with ⟨j, h1, _, h3, h4⟩ | ⟨h1, h2⟩
            · obtain ⟨r', h5, h6⟩ := hal.sound j b o h1
              refine .inl ⟨j, r', h5, h6, ⟨hL j (by have := hlt j r' h5; simpa using this), by rw [← hc1]; exact h3⟩, fun j' r'' o1 h7 h8 h9 => h4 j' o1 (hal.full j' r'' b o1 h7 h8) (hbit j' (hlt j' r'' h7)) (by rw [hc1]; exact h9.2)⟩
            · refine .inr ⟨by rw [← hc2]; exact h1, fun j' r'' o1 h7 h8 h9 => h2 j' o1 (hal.full j' r'' b o1 h7 h8) ⟨hbit j' (hlt j' r'' h7), by rw [hc1]; exact h9.2⟩⟩
          have hhi := hDI.hi
          have hfin : HR E base σ ⟨addAl (2 ^ ops.toList.length - 1) (cmOf ms e.c) e.B.H e.al, e.B.hi, e.B.hi⟩ w' := hDI.hp.sub hsub (by rw [hc2]; exact hDI.hp.fresh B.hi (Nat.le_refl _)) (by rw [hc2]; exact Nat.le_refl _)
          have hturn : Turn ρ s w σ ⟨addAl (2 ^ ops.toList.length - 1) (cmOf ms e.c) e.B.H e.al, e.B.hi, e.B.hi⟩ w' := hDI.tp.turn hsub (by rw [hc2]; exact Nat.le_refl _) (.inr (by show s.hi ≤ e.B.hi; rw [hc2]; omega))
          refine hq σ a' w' ⟨h.glob.mono hturn.ext, hfin, ⟨fun t x ht => ?_⟩, hDI.size, ?_, h.low.1, Nat.le_trans h.low.2 hturn.size⟩ hturn
          · obtain ⟨h1, h2⟩ := htm t x ht
            refine hDI.fr t x ⟨fun j p r hj hd _ hr => h1 j p r hj hd hr, fun hno => h2 fun j p r hj hd _ => hno j p hj hd (hL j ?_)⟩
            have := (List.getElem?_eq_some_iff.1 hj).1
            simpa using this
          · rw [hDI.defers]
            exact h.marks.turn hturn
        · have : left (Array.replicate ops.size false) ≤ (Array.replicate ops.size false).size := by
            unfold left
            rw [← Array.length_toList]
            exact List.count_le_length
          simpa using this
        · -- the start
          have hb0 : ∀ b o, SL ms e.recs s.hi (fun i => (Array.replicate ops.size false)[i]? = some true) none ⟨s.H, s.hi + ops.toList.length, s.hi + ops.toList.length⟩ b o → s.H.get b = some o := fun b o hb => by
            rcases hb with ⟨j, _, _, _, h4, _⟩ | ⟨hb, _⟩
            · exact absurd h4.1 (hrep j)
            · exact hb
          refine ⟨fun i o e' _ hL => absurd hL (hrep i), ⟨.inl ⟨rfl, rfl⟩, fun c0 hc => (by cases hc), fun i r B' _ _ hL => absurd hL (hrep i)⟩, ?_, ?_, fun i r ob _ _ _ => h.hr.fresh.2 _ (by omega), fun t x ht => ?_, h.size, rfl, Nat.le_refl _⟩
          · refine ⟨fun b o hb => ?_, fun b b' o o' l l' hb hb' => h.hr.apart b b' o o' l l' (hb0 _ _ hb) (hb0 _ _ hb'), fun b hb => h.hr.fresh.2 b (by simp at hb; omega), h.hr.base, h.hr.frz, fun b o l hb => h.hr.fzap b o l (hb0 _ _ hb)⟩
            obtain ⟨l, h1, h2⟩ := h.hr.objs b o (hb0 _ _ hb)
            exact ⟨l, h1, h2.mono (Ext.refl _) rfl⟩
          · exact ⟨Ext.refl _, by simp, rfl, rfl, rfl, Nat.le_refl _, fun _ _ _ => rfl, fun b o l hb hl => .inr ⟨b, o, l, hb0 _ _ hb, hl, rfl, fun h => h⟩, fun _ _ _ => rfl, fun _ _ h => .inl h⟩
          · exact h.fr.get t x (ht.2 fun j p _ _ hL => absurd hL (hrep j))
      · cases he
  · cases he
end
end Go.Proofs.YtjaaajmiojigbaaGreatDoor
