/- Regions whose order is drawn: the evaluator's answer holds in every order. -/
import Derived.Test.YtjaaajmiojigbaaGreatDoorRun
namespace Go.Proofs.YtjaaajmiojigbaaGreatDoor
open Go Go.RowKit
variable {E : Env} {X : Ctx}

section
variable {P : Program} {self : Req → Option Resp} {ops : List Oper} {ms : List Nat} {N0 nt : Nat} {tm0 : Tr AV} {B0 : St}

/-- What a temporary holds when some of the operations have been carried out. -/
def TmVal (ops : List Oper) (pre : List Rec) (tm0 : Tr AV) (t : Nat) (x : AV) : Prop :=
  (∀ (j : Nat) (p : Oper) (r : Rec), ops[j]? = some p → p.dst = some t → pre[j]? = some r → x = r.v) ∧ ((∀ (j : Nat) (p : Oper) (r : Rec), ops[j]? = some p → p.dst = some t → pre[j]? = some r → False) → tm0.get t = some x)

def LastC (B0 : St) (pre : List Rec) : Option Nat → St → Prop
  | none, B => B = B0 ∧ ∀ (j : Nat) (r : Rec) (B' : St), pre[j]? = some r → r.k ≠ .chain B'
  | some c, B => (∃ r, pre[c]? = some r ∧ r.k = .chain B) ∧ ∀ (j : Nat) (r : Rec) (B' : St), pre[j]? = some r → r.k = .chain B' → j ≤ c

/-- The block that an operation turns without the chain, and what it holds behind it. -/
def blk (N0 : Nat) (j : Nat) (r : Rec) : Option (Nat × AO) := match r.k with
  | .alloc ob => some (N0 + j, ob)
  | .put b _ ob => some (b, ob)
  | _ => none
/-- The memory B, and over it what the operations of S have turned. -/
def Lst (recs : List Rec) (N0 : Nat) (S : Nat → Prop) (B : St) : Nat → AO → Prop := fun b o =>
  (∃ (j : Nat) (r : Rec), recs[j]? = some r ∧ blk N0 j r = some (b, o) ∧ S j ∧ ∀ (j' : Nat) (r' : Rec) (o' : AO), recs[j']? = some r' → blk N0 j' r' = some (b, o') → S j' → j' ≤ j) ∨
  (B.H.get b = some o ∧ ∀ (j : Nat) (r : Rec) (o' : AO), recs[j]? = some r → blk N0 j r = some (b, o') → ¬ S j)
def Sel (ms : List Nat) (i : Nat) (c : Option Nat) : Nat → Prop := fun j => (ms.getD i 0).testBit j = true ∧ (cmOf ms c).testBit j = false

/-- What is known of one operation. -/
def FactAt (X : Ctx) (P : Program) (self : Req → Option Resp) (ops : List Oper) (ms : List Nat) (N0 : Nat) (B0 : St) (tm0 : Tr AV) (pre : List Rec) (r : Rec) (o : Oper) : Prop :=
  (∀ t x, r.tm.get t = some x → t ∈ namesO ops o ∧ TmVal ops pre tm0 t x) ∧
  match r.k with
  | .skip => wantedA X ops r.tm o = some false ∧ r.v = .tuple []
  | .pure => wantedA X ops r.tm o = some true ∧ ∀ s, evX X P r.tm s o = some (.val r.v s)
  | .read => wantedA X ops r.tm o = some true ∧ isReadO P o.op = true
  | .alloc ob => wantedA X ops r.tm o = some true ∧ (Tr.set (N0 + pre.length) ob .leaf).get (N0 + pre.length) = some ob ∧ ∀ s : St, s.nx = N0 + pre.length → evX X P r.tm s o = some (.val r.v (s.new ob))
  | .put b o0 o1 => wantedA X ops r.tm o = some true ∧ r.v = .tuple [] ∧ ∃ (c : Option Nat) (B : St), LastC B0 pre c B ∧ Lst pre N0 (Sel ms pre.length c) B b o0 ∧
      ∃ s' : St, s'.hi = B.hi ∧ s'.H.get b = some o1 ∧ evX X P r.tm ⟨Tr.set b o0 .leaf, B.hi, B.hi⟩ o = some (.skip s')
  | .chain B' => wantedA X ops r.tm o = some true ∧ ∃ (c : Option Nat) (B : St) (H : Tr AO), LastC B0 pre c B ∧ (∀ c0, c = some c0 → (ms.getD pre.length 0).testBit c0 = true) ∧
      (∀ b o', H.get b = some o' → Lst pre N0 (Sel ms pre.length c) B b o') ∧
      opA X P self r.tm ⟨H, B.hi, B.hi⟩ o = some (r.v, B')

def Facts (X : Ctx) (P : Program) (self : Req → Option Resp) (ops : List Oper) (ms : List Nat) (N0 : Nat) (B0 : St) (tm0 : Tr AV) (nt : Nat) (recs : List Rec) : Prop :=
  ∀ (i : Nat) (r : Rec) (o : Oper), recs[i]? = some r → ops[i]? = some o → FactAt X P self ops ms N0 B0 tm0 (recs.take i) r o ∧ ∀ d, o.dst = some d → d < nt

def DistinctD (ops : List Oper) : Prop := ∀ (i j : Nat) (o p : Oper) (d : Nat), ops[i]? = some o → ops[j]? = some p → o.dst = some d → p.dst = some d → i = j

theorem facts_snoc {acc : List Rec} {r : Rec} {o : Oper} (h : Facts X P self ops ms N0 B0 tm0 nt acc) (ho : ops[acc.length]? = some o) (hr : FactAt X P self ops ms N0 B0 tm0 acc r o) (hd : ∀ d, o.dst = some d → d < nt) :
    Facts X P self ops ms N0 B0 tm0 nt (acc ++ [r]) := by
  intro i r' o' hi ho'
  by_cases hlt : i < acc.length
  · rw [List.getElem?_append_left hlt] at hi
    rw [List.take_append_of_le_length (by omega)]
    exact h i r' o' hi ho'
  · rw [List.getElem?_append_right (by omega)] at hi
    by_cases he : i = acc.length
    · subst he
      simp at hi
      subst hi
      rw [ho] at ho'
      obtain rfl := Option.some.inj ho'
      rw [List.take_left' rfl]
      exact ⟨hr, hd⟩
    · have : ([r] : List Rec)[i - acc.length]? = none := by
        rw [List.getElem?_eq_none_iff]
        simp
        omega
      rw [this] at hi
      cases hi

theorem tmVal_snoc {acc : List Rec} {r : Rec} {o : Oper} {tm tm' : Tr AV} (hdist : DistinctD ops) (ho : ops[acc.length]? = some o) (h : ∀ t x, tm.get t = some x → TmVal ops acc tm0 t x) (hp : putT nt tm o.dst r.v = some tm') :
    (∀ t x, tm'.get t = some x → TmVal ops (acc ++ [r]) tm0 t x) ∧ ∀ d, o.dst = some d → d < nt := by
  have hpre : ∀ (j : Nat) (r' : Rec), (acc ++ [r])[j]? = some r' → (j < acc.length ∧ acc[j]? = some r') ∨ (j = acc.length ∧ r' = r) := fun j r' hj => by
    by_cases hlt : j < acc.length
    · rw [List.getElem?_append_left hlt] at hj; exact .inl ⟨hlt, hj⟩
    · rw [List.getElem?_append_right (by omega)] at hj
      by_cases he : j = acc.length
      · subst he; simp at hj; exact .inr ⟨rfl, hj.symm⟩
      · have : ([r] : List Rec)[j - acc.length]? = none := by
          rw [List.getElem?_eq_none_iff]; simp; omega
        rw [this] at hj; cases hj
  have hback : ∀ (j : Nat) (r' : Rec), acc[j]? = some r' → (acc ++ [r])[j]? = some r' := fun j r' hj => by
    rw [List.getElem?_append_left (List.getElem?_eq_some_iff.1 hj).1]; exact hj
  have hself : (acc ++ [r])[acc.length]? = some r := by simp
  unfold putT at hp
  split at hp
  · rename_i d hod
    split at hp
    · rename_i hlt
      simp only [Option.some.injEq] at hp
      subst hp
      refine ⟨fun t x ht => ?_, fun d' hd' => by rw [hod] at hd'; obtain rfl := Option.some.inj hd'; exact hlt⟩
      rcases Tr.get_set ht with ⟨rfl, rfl⟩ | ⟨h1, h2⟩
      · refine ⟨fun j p r' hj hpd hr' => ?_, fun hno => (hno _ _ _ ho hod hself).elim⟩
        obtain rfl := hdist _ _ _ _ _ hj ho hpd hod
        rw [hself] at hr'
        rw [Option.some.inj hr']
      · obtain ⟨h3, h4⟩ := h t x h2
        refine ⟨fun j p r' hj hpd hr' => ?_, fun hno => h4 fun j p r' hj hpd hr' => hno j p r' hj hpd (hback j r' hr')⟩
        rcases hpre j r' hr' with ⟨_, h5⟩ | ⟨rfl, _⟩
        · exact h3 j p r' hj hpd h5
        · rw [ho] at hj
          obtain rfl := Option.some.inj hj
          rw [hod] at hpd
          exact absurd (Option.some.inj hpd).symm h1
    · cases hp
  · rename_i hod
    simp only [Option.some.injEq] at hp
    subst hp
    refine ⟨fun t x ht => ?_, fun d' hd' => by rw [hod] at hd'; cases hd'⟩
    obtain ⟨h3, h4⟩ := h t x ht
    refine ⟨fun j p r' hj hpd hr' => ?_, fun hno => h4 fun j p r' hj hpd hr' => hno j p r' hj hpd (hback j r' hr')⟩
    rcases hpre j r' hr' with ⟨_, h5⟩ | ⟨rfl, _⟩
    · exact h3 j p r' hj hpd h5
    · rw [ho] at hj
      obtain rfl := Option.some.inj hj
      rw [hod] at hpd
      cases hpd

theorem getElem_snoc {acc : List Rec} {r r' : Rec} {j : Nat} (hj : (acc ++ [r])[j]? = some r') : acc[j]? = some r' ∨ (j = acc.length ∧ r' = r) := by
  by_cases hlt : j < acc.length
  · rw [List.getElem?_append_left hlt] at hj; exact .inl hj
  · rw [List.getElem?_append_right (by omega)] at hj
    by_cases he : j = acc.length
    · subst he; simp at hj; exact .inr ⟨rfl, hj.symm⟩
    · have : ([r] : List Rec)[j - acc.length]? = none := by
        rw [List.getElem?_eq_none_iff]; simp; omega
      rw [this] at hj; cases hj

theorem lastC_snoc {acc : List Rec} {r : Rec} {c : Option Nat} {B : St} (h : LastC B0 acc c B) (hr : ∀ B', r.k ≠ .chain B') : LastC B0 (acc ++ [r]) c B := by
  cases c with
  | none =>
    refine ⟨h.1, fun j r' B' hj => ?_⟩
    rcases getElem_snoc hj with h1 | ⟨_, rfl⟩
    · exact h.2 j r' B' h1
    · exact hr B'
  | some c =>
    obtain ⟨⟨r0, h1, h2⟩, h3⟩ := h
    refine ⟨⟨r0, by rw [List.getElem?_append_left (List.getElem?_eq_some_iff.1 h1).1]; exact h1, h2⟩, fun j r' B' hj hk => ?_⟩
    rcases getElem_snoc hj with h4 | ⟨_, rfl⟩
    · exact h3 j r' B' h4 hk
    · exact absurd hk (hr B')
theorem lastC_chain {acc : List Rec} {r : Rec} {B' : St} (hr : r.k = .chain B') : LastC B0 (acc ++ [r]) (some acc.length) B' := by
  refine ⟨⟨r, by simp, hr⟩, fun j r' B'' hj _ => ?_⟩
  have := (List.getElem?_eq_some_iff.1 hj).1
  simp at this
  omega

structure AlOk (N0 : Nat) (acc : List Rec) (al : List (Nat × Nat × AO)) : Prop where
  sound : ∀ j b ob, (j, b, ob) ∈ al → ∃ r, acc[j]? = some r ∧ blk N0 j r = some (b, ob)
  full : ∀ (j : Nat) (r : Rec) b ob, acc[j]? = some r → blk N0 j r = some (b, ob) → (j, b, ob) ∈ al
  sorted : al.Pairwise (fun p q => q.1 < p.1)
theorem AlOk.snoc {acc : List Rec} {al : List (Nat × Nat × AO)} {r : Rec} (h : AlOk N0 acc al) (hr : blk N0 acc.length r = none) : AlOk N0 (acc ++ [r]) al := by
  refine ⟨fun j b ob hj => ?_, fun j r' b ob hj hb => ?_, h.sorted⟩
  · obtain ⟨r0, h1, h2⟩ := h.sound j b ob hj
    exact ⟨r0, by rw [List.getElem?_append_left (List.getElem?_eq_some_iff.1 h1).1]; exact h1, h2⟩
  · rcases getElem_snoc hj with h1 | ⟨rfl, rfl⟩
    · exact h.full j r' b ob h1 hb
    · rw [hr] at hb; cases hb
theorem AlOk.add {acc : List Rec} {al : List (Nat × Nat × AO)} {r : Rec} {b : Nat} {ob : AO} (h : AlOk N0 acc al) (hr : blk N0 acc.length r = some (b, ob)) : AlOk N0 (acc ++ [r]) ((acc.length, b, ob) :: al) := by
  refine ⟨fun j b' ob' hj => ?_, fun j r' b' ob' hj hb => ?_, List.pairwise_cons.2 ⟨fun p hp => ?_, h.sorted⟩⟩
  · rcases List.mem_cons.1 hj with hj | hj
    · simp only [Prod.mk.injEq] at hj
      obtain ⟨rfl, rfl, rfl⟩ := hj
      exact ⟨r, by simp, hr⟩
    · obtain ⟨r0, h1, h2⟩ := h.sound j b' ob' hj
      exact ⟨r0, by rw [List.getElem?_append_left (List.getElem?_eq_some_iff.1 h1).1]; exact h1, h2⟩
  · rcases getElem_snoc hj with h1 | ⟨rfl, rfl⟩
    · exact List.mem_cons_of_mem _ (h.full j r' b' ob' h1 hb)
    · rw [hr] at hb
      simp only [Option.some.injEq, Prod.mk.injEq] at hb
      obtain ⟨rfl, rfl⟩ := hb
      exact List.mem_cons_self
  · obtain ⟨j, b', ob'⟩ := p
    obtain ⟨r0, h1, _⟩ := h.sound j b' ob' hp
    exact (List.getElem?_eq_some_iff.1 h1).1

theorem lst_of_al {recs : List Rec} {al : List (Nat × Nat × AO)} (hal : AlOk N0 recs al) {i : Nat} {c : Option Nat} {B : St} {b : Nat} {o : AO} (h : (addAl (ms.getD i 0) (cmOf ms c) B.H al).get b = some o) : Lst recs N0 (Sel ms i c) B b o := by
  rcases addAl_get hal.sorted h with ⟨j, h1, h2, h3, h4⟩ | ⟨h1, h2⟩
  · obtain ⟨r, h5, h6⟩ := hal.sound j b o h1
    exact .inl ⟨j, r, h5, h6, ⟨h2, h3⟩, fun j' r' o' h7 h8 h9 => h4 j' o' (hal.full j' r' b o' h7 h8) h9.1 h9.2⟩
  · exact .inr ⟨h1, fun j r o' h3 h4 => h2 j o' (hal.full j r b o' h3 h4)⟩

theorem putA_ok {tr : Tr AV} {o : Oper} {hi : Nat} {H : Tr AO} {b : Nat} {o0 o1 : AO} (h : putA X P tr o hi H = some (b, o0, o1)) : H.get b = some o0 ∧ ∃ s' : St, s'.hi = hi ∧ s'.H.get b = some o1 ∧ evX X P tr ⟨Tr.set b o0 .leaf, hi, hi⟩ o = some (.skip s') := by
  unfold putA at h
  split at h
  · split at h
    · split at h
      · rename_i b' _ _ ob hb
        split at h
        · rename_i s' hs
          split at h
          · rename_i hhi
            split at h
            · rename_i ob1 h1
              simp only [Option.some.injEq, Prod.mk.injEq] at h
              obtain ⟨rfl, rfl, rfl⟩ := h
              exact ⟨hb, s', hhi, h1, hs⟩
            · cases h
          · cases h
        · cases h
      · cases h
    · cases h
  · cases h

theorem recA_ok {acc : List Rec} {tm : Tr AV} {c : Option Nat} {B : St} {al : List (Nat × Nat × AO)} {o : Oper} {r : Rec} (ht : ∀ t x, tm.get t = some x → TmVal ops acc tm0 t x) (hc : LastC B0 acc c B) (hal : AlOk N0 acc al)
    (h : recA X P self ops ms N0 acc.length o (restr tm (namesO ops o)) c B al = some r) : FactAt X P self ops ms N0 B0 tm0 acc r o := by
  have htm : ∀ t x, (restr tm (namesO ops o)).get t = some x → t ∈ namesO ops o ∧ TmVal ops acc tm0 t x := fun t x hx => ⟨(restr_get hx).1, ht t x (restr_get hx).2⟩
  unfold recA at h
  split at h
  · cases h
  · rename_i hw
    simp only [Option.some.injEq] at h
    subst h
    exact ⟨htm, hw, rfl⟩
  · rename_i hw
    split at h
    · rename_i hp
      split at h
      · rename_i v s1 h1
        simp only [Option.some.injEq] at h
        subst h
        obtain ⟨v', h2, h3⟩ := pureX_ok hp h1
        simp only [ARes.val.injEq] at h2
        obtain ⟨rfl, rfl⟩ := h2
        exact ⟨htm, hw, h3⟩
      · cases h
    · split at h
      · rename_i hp
        split at h
        · rename_i v s1 h1
          obtain ⟨v', ob', h2, h3⟩ := allocX_ok hp h1
          simp only [ARes.val.injEq] at h2
          obtain ⟨rfl, rfl⟩ := h2
          split at h
          · rename_i ob h4
            simp only [St.new] at h4
            simp only [Option.some.injEq] at h
            subst h
            have hob : ob = ob' := by
              rcases Tr.get_set h4 with ⟨_, h5⟩ | ⟨h5, _⟩
              · exact h5
              · exact absurd rfl h5
            subst hob
            exact ⟨htm, hw, h4, fun s hs => h3 s hs⟩
          · cases h
        · cases h
      · split at h
        · rename_i hp
          split at h
          · rename_i v s1 h1
            simp only [Option.some.injEq] at h
            subst h
            exact ⟨htm, hw, hp⟩
          · cases h
        · split at h
          · split at h
            · rename_i b o0 o1 h1
              simp only [Option.some.injEq] at h
              subst h
              obtain ⟨h2, h3⟩ := putA_ok h1
              exact ⟨htm, hw, rfl, c, B, hc, lst_of_al hal h2, h3⟩
            · cases h
          · split at h
            · rename_i hcc
              split at h
              · rename_i v B' h1
                simp only [Option.some.injEq] at h
                subst h
                refine ⟨htm, hw, c, B, _, hc, fun c0 hc0 => ?_, fun b o' hb => lst_of_al hal hb, h1⟩
                subst hc0
                exact hcc
              · cases h
            · cases h

theorem drawOps_ok (hdist : DistinctD ops) : ∀ (rest : List Oper) (i : Nat) (acc : List Rec) (tm : Tr AV) (c : Option Nat) (B : St) (al : List (Nat × Nat × AO)) (e : DEnd), i = acc.length → rest = ops.drop i →
    Facts X P self ops ms N0 B0 tm0 nt acc → (∀ t x, tm.get t = some x → TmVal ops acc tm0 t x) → LastC B0 acc c B → AlOk N0 acc al →
    drawOps X P self ops ms N0 nt rest i acc tm c B al = some e →
    Facts X P self ops ms N0 B0 tm0 nt e.recs ∧ (∀ t x, e.tm.get t = some x → TmVal ops e.recs tm0 t x) ∧ LastC B0 e.recs e.c e.B ∧ AlOk N0 e.recs e.al ∧ (acc.length ≤ ops.length → e.recs.length = ops.length)
  | [], i, acc, tm, c, B, al, e, hi, hr, hf, ht, hc, hal, h => by
    simp only [drawOps, Option.some.injEq] at h
    subst h
    refine ⟨hf, ht, hc, hal, fun hle => ?_⟩
    have : (ops.drop i).length = 0 := by rw [← hr]; rfl
    rw [List.length_drop] at this
    simp only
    omega
  | o :: rest, i, acc, tm, c, B, al, e, hi, hr, hf, ht, hc, hal, h => by
    have ho : ops[acc.length]? = some o := by
      have : (ops.drop i)[0]? = some o := by rw [← hr]; rfl
      rw [← hi]
      simpa using this
    have hr' : rest = ops.drop (i + 1) := by
      have : (ops.drop i).tail = rest := by rw [← hr]; rfl
      rw [← this, List.tail_drop]
    have hlen : acc.length < ops.length := (List.getElem?_eq_some_iff.1 ho).1
    simp only [drawOps] at h
    split at h
    · cases h
    · rename_i r h1
      rw [hi] at h1
      have h2 := recA_ok ht hc hal h1
      split at h
      · cases h
      · rename_i tm' h3
        obtain ⟨h4, h5⟩ := tmVal_snoc hdist ho ht h3
        have h6 := facts_snoc hf ho h2 h5
        have hi' : i + 1 = (acc ++ [r]).length := by simp [hi]
        split at h
        · rename_i ob hk
          rw [hi] at h
          have := drawOps_ok hdist rest (acc.length + 1) (acc ++ [r]) tm' c B ((acc.length, N0 + acc.length, ob) :: al) e (by simp) (by rw [← hi]; exact hr') h6 h4 (lastC_snoc hc (by rw [hk]; simp)) (hal.add (by simp [blk, hk])) h
          exact ⟨this.1, this.2.1, this.2.2.1, this.2.2.2.1, fun _ => this.2.2.2.2 (by simp; omega)⟩
        · rename_i b o0 ob hk
          rw [hi] at h
          have := drawOps_ok hdist rest (acc.length + 1) (acc ++ [r]) tm' c B ((acc.length, b, ob) :: al) e (by simp) (by rw [← hi]; exact hr') h6 h4 (lastC_snoc hc (by rw [hk]; simp)) (hal.add (by simp [blk, hk])) h
          exact ⟨this.1, this.2.1, this.2.2.1, this.2.2.2.1, fun _ => this.2.2.2.2 (by simp; omega)⟩
        · rename_i B' hk
          rw [hi] at h
          have := drawOps_ok hdist rest (acc.length + 1) (acc ++ [r]) tm' (some acc.length) B' al e (by simp) (by rw [← hi]; exact hr') h6 h4 (lastC_chain hk) (hal.snoc (by simp [blk, hk])) h
          exact ⟨this.1, this.2.1, this.2.2.1, this.2.2.2.1, fun _ => this.2.2.2.2 (by simp; omega)⟩
        · rename_i hk1 hk2 hk3
          have hb : blk N0 acc.length r = none := by
            unfold blk
            split
            · rename_i ob hk; exact (hk1 ob hk).elim
            · rename_i b o0 ob hk; exact (hk2 b o0 ob hk).elim
            · rfl
          have := drawOps_ok hdist rest (i + 1) (acc ++ [r]) tm' c B al e hi' hr' h6 h4 (lastC_snoc hc (fun B' hk => hk3 B' hk)) (hal.snoc hb) h
          exact ⟨this.1, this.2.1, this.2.2.1, this.2.2.2.1, fun _ => this.2.2.2.2 (by simp; omega)⟩
end
end Go.Proofs.YtjaaajmiojigbaaGreatDoor
