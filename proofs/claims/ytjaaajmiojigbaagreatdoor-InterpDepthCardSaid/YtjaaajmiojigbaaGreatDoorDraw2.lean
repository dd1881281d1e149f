/- Regions whose order is drawn: what is checked of a region, and the invariant of a run through it. -/
import Derived.Test.YtjaaajmiojigbaaGreatDoorDraw
namespace Go.Proofs.YtjaaajmiojigbaaGreatDoor
open Go Go.RowKit
variable {E : Env} {X : Ctx}

structure Static (ops : List Oper) (ms : List Nat) : Prop where
  mask : ∀ (i : Nat) (o : Oper), ops[i]? = some o → ms.getD i 0 = maskOf ms o
  back : ∀ (i : Nat) (o : Oper) (e : Edge), ops[i]? = some o → e ∈ o.after → Region.binds .any e = true → e.on < i
  dist : DistinctD ops
  names : ∀ (i j : Nat) (o p : Oper) (t : Nat), ops[i]? = some o → ops[j]? = some p → t ∈ namesO ops o → p.dst = some t → j = i ∨ (ms.getD i 0).testBit j = true ∨ (ms.getD j 0).testBit i = true

theorem staticA_ok {ops : List Oper} {ms : List Nat} (h : staticA ops ms = true) : Static ops ms := by
  unfold staticA at h
  have key : ∀ (i : Nat) (o : Oper), ops[i]? = some o → _ := fun i o ho => allI_get (i := i) h ho
  simp only [Nat.zero_add, Bool.and_eq_true, beq_iff_eq, List.all_eq_true, Bool.or_eq_true, Bool.not_eq_true', decide_eq_true_eq, Array.mem_toList_iff] at key
  refine ⟨fun i o ho => (key i o ho).1.1.1, fun i o e ho he hb => ?_, fun i j o p d ho hp hd hd' => ?_, fun i j o p t ho hp ht hd => ?_⟩
  · rcases (key i o ho).1.1.2 e he with h1 | h1
    · rw [hb] at h1; cases h1
    · exact h1
  · have h1 := (key i o ho).1.2
    rw [hd] at h1
    simp only [] at h1
    have h2 := allI_get (i := j) h1 hp
    simp only [Nat.zero_add, Bool.or_eq_true, decide_eq_true_eq, Bool.not_eq_true', beq_eq_false_iff_ne] at h2
    rcases h2 with h2 | h2
    · exact h2.symm
    · exact absurd hd' h2
  · have h2 := allI_get (i := j) ((key i o ho).2 t ht) hp
    simp only [Nat.zero_add, Bool.or_eq_true, decide_eq_true_eq, Bool.not_eq_true', beq_eq_false_iff_ne] at h2
    rcases h2 with ((h2 | h2) | h2) | h2
    · exact absurd hd h2
    · exact .inl h2
    · exact .inr (.inl h2)
    · exact .inr (.inr h2)

section
variable {ops : List Oper} {ms : List Nat}
theorem Static.lt (h : Static ops ms) : ∀ (i : Nat) (o : Oper) (j : Nat), ops[i]? = some o → (ms.getD i 0).testBit j = true → j < i := by
  intro i
  induction i using Nat.strongRecOn with
  | _ i ih =>
    intro o j ho hj
    rw [h.mask i o ho] at hj
    obtain ⟨e, h1, h2, h3⟩ := maskOf_bit.1 hj
    have h4 := h.back i o e ho h1 h2
    rcases h3 with rfl | h3
    · exact h4
    · have hlt := (List.getElem?_eq_some_iff.1 ho).1
      have := ih e.on h4 _ j (List.getElem?_eq_getElem (by omega)) h3
      omega
theorem Static.trans (h : Static ops ms) : ∀ (i : Nat) (o : Oper) (c j : Nat), ops[i]? = some o → (ms.getD i 0).testBit c = true → (ms.getD c 0).testBit j = true → (ms.getD i 0).testBit j = true := by
  intro i
  induction i using Nat.strongRecOn with
  | _ i ih =>
    intro o c j ho hc hj
    rw [h.mask i o ho] at hc ⊢
    obtain ⟨e, h1, h2, h3⟩ := maskOf_bit.1 hc
    have h4 := h.back i o e ho h1 h2
    have hlt := (List.getElem?_eq_some_iff.1 ho).1
    refine maskOf_bit.2 ⟨e, h1, h2, .inr ?_⟩
    rcases h3 with rfl | h3
    · exact hj
    · exact ih e.on h4 _ c j (List.getElem?_eq_getElem (by omega)) h3 hj

def Down (ops : List Oper) (L : Nat → Prop) : Prop := ∀ (i : Nat) (o : Oper) (e : Edge), ops[i]? = some o → L i → e ∈ o.after → Region.binds .any e = true → L e.on
theorem Static.below (h : Static ops ms) {L : Nat → Prop} (hd : Down ops L) : ∀ (i : Nat) (o : Oper) (j : Nat), ops[i]? = some o → L i → (ms.getD i 0).testBit j = true → L j := by
  intro i
  induction i using Nat.strongRecOn with
  | _ i ih =>
    intro o j ho hi hj
    rw [h.mask i o ho] at hj
    obtain ⟨e, h1, h2, h3⟩ := maskOf_bit.1 hj
    have h4 := h.back i o e ho h1 h2
    have hlt := (List.getElem?_eq_some_iff.1 ho).1
    rcases h3 with rfl | h3
    · exact hd i o e ho hi h1 h2
    · exact ih e.on h4 _ j (List.getElem?_eq_getElem (by omega)) (hd i o e ho hi h1 h2) h3
/-- What lies below an operation whose turn may be. -/
theorem Static.ready (h : Static ops ms) {L : Nat → Prop} (hd : Down ops L) {i : Nat} {o : Oper} (ho : ops[i]? = some o) (hr : ∀ e ∈ o.after, Region.binds .any e = true → L e.on) {j : Nat} (hj : (ms.getD i 0).testBit j = true) : L j := by
  rw [h.mask i o ho] at hj
  obtain ⟨e, h1, h2, h3⟩ := maskOf_bit.1 hj
  have h4 := h.back i o e ho h1 h2
  have hlt := (List.getElem?_eq_some_iff.1 ho).1
  rcases h3 with rfl | h3
  · exact hr e h1 h2
  · exact h.below hd e.on _ j (List.getElem?_eq_getElem (by omega)) (hr e h1 h2) h3
end

theorem ptsOf_of_mem : ∀ {recs : List Rec} {k : Nat} {p : Nat × St}, p ∈ ptsOf recs k → ∃ (i : Nat) (r : Rec), p.1 = k + i ∧ recs[i]? = some r ∧ r.k = .chain p.2
  | [], _, _, h => by simp [ptsOf] at h
  | a :: rest, k, p, h => by
    simp only [ptsOf] at h
    split at h
    · rename_i B hk
      rcases List.mem_cons.1 h with rfl | h
      · exact ⟨0, a, rfl, rfl, hk⟩
      · obtain ⟨i, r, h1, h2, h3⟩ := ptsOf_of_mem h
        exact ⟨i + 1, r, by omega, by simpa using h2, h3⟩
    · obtain ⟨i, r, h1, h2, h3⟩ := ptsOf_of_mem h
      exact ⟨i + 1, r, by omega, by simpa using h2, h3⟩

/-- A moment of the region's chain: the last operation of the chain, and the memory behind it. -/
def Pt (B0 : St) (recs : List Rec) (c : Option Nat) (B : St) : Prop := (c = none ∧ B = B0) ∨ ∃ (c0 : Nat) (r : Rec), c = some c0 ∧ recs[c0]? = some r ∧ r.k = .chain B
def InWin (ms : List Nat) (recs : List Rec) (i : Nat) (c : Option Nat) : Prop :=
  (∀ c0, c = some c0 → (ms.getD c0 0).testBit i = false) ∧ ∀ (c' : Nat) (r : Rec) (B' : St), recs[c']? = some r → r.k = .chain B' → (∃ c0, c = some c0 ∧ c' ≤ c0) ∨ (ms.getD i 0).testBit c' = false

structure PassOk (X : Ctx) (P : Program) (ops : List Oper) (ms : List Nat) (N0 : Nat) (B0 : St) (recs : List Rec) : Prop where
  read : ∀ (i : Nat) (o : Oper) (r : Rec) (c : Option Nat) (B : St), ops[i]? = some o → recs[i]? = some r → r.k = .read → isReadO P o.op = true → Pt B0 recs c B → InWin ms recs i c →
    ∃ A : Tr AO, (∀ b o', A.get b = some o' → Lst recs N0 (Sel ms i c) B b o' ∧ ∀ (f : Nat) (r' : Rec) (o0 o1 : AO), recs[f]? = some r' → r'.k = .put b o0 o1 → (ms.getD i 0).testBit f = true ∨ (cmOf ms c).testBit f = true ∨ (ms.getD f 0).testBit i = true) ∧
      evX X P r.tm ⟨A, B.hi, B.hi⟩ o = some (.val r.v ⟨A, B.hi, B.hi⟩)
  clean : ∀ (i : Nat) (r : Rec) (ob : AO) (c : Option Nat) (B : St), recs[i]? = some r → r.k = .alloc ob → Pt B0 recs c B → (cmOf ms c).testBit i = true ∨ B.H.get (N0 + i) = none
  putC : ∀ (i j : Nat) (r r' : Rec) (b : Nat) (o0 o1 : AO) (B' : St), recs[i]? = some r → recs[j]? = some r' → r.k = .put b o0 o1 → r'.k = .chain B' → (ms.getD i 0).testBit j = true ∨ (ms.getD j 0).testBit i = true
  putP : ∀ (i j : Nat) (r r' : Rec) (b : Nat) (o0 o1 o2 o3 : AO), recs[i]? = some r → recs[j]? = some r' → r.k = .put b o0 o1 → r'.k = .put b o2 o3 → j = i ∨ (ms.getD i 0).testBit j = true ∨ (ms.getD j 0).testBit i = true
  putA : ∀ (i j : Nat) (r r' : Rec) (o0 o1 ob : AO), recs[i]? = some r → recs[j]? = some r' → r.k = .put (N0 + j) o0 o1 → r'.k = .alloc ob → (ms.getD i 0).testBit j = true

theorem isNoneAt_ok {H : Tr AO} {b : Nat} (h : isNoneAt H b = true) : H.get b = none := by
  unfold isNoneAt at h
  split at h
  · cases h
  · assumption

theorem chkRead_ok {P : Program} {ms : List Nat} {N0 : Nat} {al : List (Nat × Nat × AO)} {recs : List Rec} {i : Nat} {o : Oper} {r : Rec} {c : Option Nat} {B : St} (hal : AlOk N0 recs al) (hr : isReadO P o.op = true)
    (h : chkRead X P ms al recs (ptsOf recs 0) i o r c B = true) (hw : InWin ms recs i c) :
    ∃ A : Tr AO, (∀ b o', A.get b = some o' → Lst recs N0 (Sel ms i c) B b o' ∧ ∀ (f : Nat) (r' : Rec) (o0 o1 : AO), recs[f]? = some r' → r'.k = .put b o0 o1 → (ms.getD i 0).testBit f = true ∨ (cmOf ms c).testBit f = true ∨ (ms.getD f 0).testBit i = true) ∧
      evX X P r.tm ⟨A, B.hi, B.hi⟩ o = some (.val r.v ⟨A, B.hi, B.hi⟩) := by
  have hin : inWin ms (ptsOf recs 0) i c = true := by
    cases c with
    | none =>
      simp only [inWin, List.all_eq_true, Bool.not_eq_true']
      intro p hp
      obtain ⟨j, r', h1, h2, h3⟩ := ptsOf_of_mem hp
      rcases hw.2 j r' p.2 h2 h3 with ⟨c0, h4, _⟩ | h4
      · cases h4
      · rw [h1, Nat.zero_add]; exact h4
    | some c =>
      simp only [inWin, List.all_eq_true, Bool.not_eq_true', Bool.and_eq_true, Bool.or_eq_true, decide_eq_true_eq]
      refine ⟨hw.1 c rfl, fun p hp => ?_⟩
      obtain ⟨j, r', h1, h2, h3⟩ := ptsOf_of_mem hp
      rw [h1, Nat.zero_add]
      rcases hw.2 j r' p.2 h2 h3 with ⟨c0, h4, h5⟩ | h4
      · rw [Option.some.inj h4]; exact .inl h5
      · exact .inr h4
  unfold chkRead at h
  rw [if_pos hin] at h
  split at h
  · rename_i u s1 h1
    obtain ⟨v, h2⟩ := readX_ok hr h1
    simp only [ARes.val.injEq] at h2
    obtain ⟨rfl, rfl⟩ := h2
    obtain rfl := AV.same_eq h
    refine ⟨_, fun b o' hb => ?_, h1⟩
    obtain ⟨h3, h4⟩ := delAll_get hb
    refine ⟨lst_of_al hal h4, fun f r' o0 o1 hf hk => ?_⟩
    cases h5 : (ms.getD i 0).testBit f with
    | true => exact .inl rfl
    | false =>
      cases h6 : (cmOf ms c).testBit f with
      | true => exact .inr (.inl rfl)
      | false =>
        cases h7 : (ms.getD f 0).testBit i with
        | true => exact .inr (.inr rfl)
        | false => exact absurd (exB_mem (k := 0) hf hk (by rw [Nat.zero_add]; exact h5) (by rw [Nat.zero_add]; exact h6) (by rw [Nat.zero_add]; exact h7)) h3
  · cases h

theorem passB_ok {P : Program} {ops : List Oper} {ms : List Nat} {N0 : Nat} {al : List (Nat × Nat × AO)} {B0 : St} {recs : List Rec} (hal : AlOk N0 recs al) (h : passB X P ops ms N0 al (ptsOf recs 0) B0 recs = true) : PassOk X P ops ms N0 B0 recs := by
  unfold passB at h
  simp only [Bool.and_eq_true] at h
  obtain ⟨hord, h⟩ := h
  unfold ordB at hord
  have ord : ∀ (i j : Nat) (r r' : Rec) (b : Nat) (o0 o1 : AO), recs[i]? = some r → recs[j]? = some r' → r.k = .put b o0 o1 → _ := fun i j r r' b o0 o1 hi hj hk => by
    have h1 := allI_get (i := i) hord hi
    rw [hk] at h1
    simp only [] at h1
    exact allI_get (i := j) h1 hj
  simp only [Nat.zero_add] at ord
  have key : ∀ (i : Nat) (r : Rec), recs[i]? = some r → _ := fun i r hr => allI_get (i := i) h hr
  simp only [Nat.zero_add] at key
  refine ⟨fun i o r c B ho hr hk hro hp hw => ?_, fun i r ob c B hr hk hp => ?_, fun i j r r' b o0 o1 B' hi hj hk hk' => ?_, fun i j r r' b o0 o1 o2 o3 hi hj hk hk' => ?_, fun i j r r' o0 o1 ob hi hj hk hk' => ?_⟩
  · have h1 := key i r hr
    simp only [hk, ho, Bool.and_eq_true, List.all_eq_true] at h1
    rcases hp with ⟨rfl, rfl⟩ | ⟨c0, r', rfl, h2, h3⟩
    · exact chkRead_ok hal hro h1.1 hw
    · have h4 := h1.2 _ (ptsOf_mem (k := 0) h2 h3)
      simp only [Nat.zero_add] at h4
      exact chkRead_ok hal hro h4 hw
  · have h1 := key i r hr
    simp only [hk, Bool.and_eq_true, List.all_eq_true, Bool.or_eq_true] at h1
    rcases hp with ⟨rfl, rfl⟩ | ⟨c0, r', rfl, h2, h3⟩
    · exact .inr (isNoneAt_ok h1.1)
    · have h4 := h1.2 _ (ptsOf_mem (k := 0) h2 h3)
      simp only [Nat.zero_add] at h4
      exact h4.imp id isNoneAt_ok
  · have h1 := ord i j r r' b o0 o1 hi hj hk
    simp only [hk', Bool.or_eq_true, decide_eq_true_eq, cmpB] at h1
    rcases h1 with rfl | h1
    · rw [hi] at hj
      obtain rfl := Option.some.inj hj
      rw [hk] at hk'
      cases hk'
    · exact h1
  · have h1 := ord i j r r' b o0 o1 hi hj hk
    simp only [hk', Bool.or_eq_true, decide_eq_true_eq, cmpB, beq_self_eq_true, Bool.not_true, Bool.false_eq_true, false_or] at h1
    exact h1
  · have h1 := ord i j r r' _ o0 o1 hi hj hk
    simp only [hk', Bool.or_eq_true, decide_eq_true_eq, beq_self_eq_true, Bool.not_true, Bool.false_eq_true, false_or] at h1
    rcases h1 with rfl | h1
    · rw [hi] at hj
      obtain rfl := Option.some.inj hj
      rw [hk] at hk'
      cases hk'
    · exact h1
end Go.Proofs.YtjaaajmiojigbaaGreatDoor
