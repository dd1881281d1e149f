/- Which operations read memory, make a block, or do neither: what follows for the evaluator's answers. -/
import Derived.Test.YtjaaajmiojigbaaGreatDoorEx
namespace Go.Proofs.YtjaaajmiojigbaaGreatDoor
open Go

section
variable {P : Program} {tm : Tr AV} {s : St} {o : Oper} {r : ARes}

theorem bi_pure {b : Builtin} {ts : List TypeId} {args : List AV} (hp : b = .max ∨ b = .min ∨ (b = .len ∧ (match ts with | t :: _ => (match P.underlying t with | some (.map _ _) => false | some _ => true | none => false) | [] => false) = true)) (h : builtinA P s b ts args = some r) :
    ∃ v, r = .val v s ∧ ∀ s', builtinA P s' b ts args = some (.val v s') := by
  rcases hp with rfl | rfl | ⟨rfl, hp⟩ <;> simp only [builtinA] at h ⊢
  · split at h <;> first | (cases h; done) | (simp only [Option.some.injEq] at h; subst h; exact ⟨_, rfl, fun s' => rfl⟩) | (simp_all; done)
  · split at h <;> first | (cases h; done) | (simp only [Option.some.injEq] at h; subst h; exact ⟨_, rfl, fun s' => rfl⟩) | (simp_all; done)
  all_goals (repeat' split at h) <;> first | (cases h; done) | (simp only [Option.some.injEq] at h; subst h; refine ⟨_, rfl, fun s' => ?_⟩; simp_all; done) | (simp_all; done)
theorem pure_ok (hp : isPureO P o.op = true) (h : evOp P tm s o = some r) : ∃ v, r = .val v s ∧ ∀ s', evOp P tm s' o = some (.val v s') := by
  cases ho : o.op <;> simp only [ho, isPureO] at hp <;> (try (cases hp; done)) <;> simp only [evOp, ho] at h ⊢
  case call c =>
    cases hr : rds P tm c.args.toList with
    | none => simp [hr] at h
    | some args =>
      simp only [hr] at h ⊢
      split at hp
      · rename_i hc; simp only [hc] at h ⊢; exact bi_pure (.inl rfl) h
      · rename_i hc; simp only [hc] at h ⊢; exact bi_pure (.inr (.inl rfl)) h
      · rename_i hc; simp only [hc] at h ⊢; exact bi_pure (.inr (.inr ⟨rfl, hp⟩)) h
      · cases hp
  all_goals (repeat' split at h) <;> first | (cases h; done) | (simp only [Option.some.injEq] at h; subst h; refine ⟨_, rfl, fun s' => ?_⟩; simp_all; done) | (obtain ⟨v, h1, rfl⟩ := Option.map_eq_some_iff.1 h; refine ⟨_, rfl, fun s' => ?_⟩; simp_all; done) | (simp_all; done)

theorem alloc_ok (hp : isAllocO P o.op = true) (h : evOp P tm s o = some r) : ∃ v ob, r = .val v (s.new ob) ∧ ∀ s' : St, s'.nx = s.nx → evOp P tm s' o = some (.val v (s'.new ob)) := by
  cases ho : o.op <;> simp only [ho, isAllocO] at hp <;> (try (cases hp; done)) <;> simp only [evOp, ho, St.cells] at h ⊢
  all_goals (repeat' split at h) <;> first | (cases h; done) | (simp only [Option.some.injEq] at h; subst h; refine ⟨_, _, rfl, fun s' hs => ?_⟩; simp_all; done) | (obtain ⟨v, h1, rfl⟩ := Option.map_eq_some_iff.1 h; refine ⟨_, _, rfl, fun s' hs => ?_⟩; simp_all; done) | (simp_all; done)

theorem read_ok (hp : isReadO P o.op = true) (h : evOp P tm s o = some r) : ∃ v, r = .val v s := by
  cases ho : o.op <;> simp only [ho, isReadO] at hp <;> (try (cases hp; done)) <;> simp only [evOp, ho] at h
  case call c =>
    split at hp <;> (try (cases hp; done)) <;> rename_i hc <;> simp only [hc] at h
    split at h
    · cases h
    · simp only [builtinA] at h
      (repeat' split at h) <;> first | (cases h; done) | (simp only [Option.some.injEq] at h; exact ⟨_, h.symm⟩) | (simp_all; done)
  all_goals (repeat' split at h) <;> first | (cases h; done) | (simp only [Option.some.injEq] at h; exact ⟨_, h.symm⟩) | (obtain ⟨v, h1, rfl⟩ := Option.map_eq_some_iff.1 h; exact ⟨_, rfl⟩) | (simp_all; done)
end

mutual
theorem AV.same_eq : ∀ {a b : AV}, AV.same a b = true → a = b
  | .bool _, b, h => by cases b <;> simp_all [AV.same]
  | .int _ _, b, h => by cases b <;> simp_all [AV.same]
  | .str _, b, h => by cases b <;> simp_all [AV.same]
  | .nilPtr, b, h => by cases b <;> simp_all [AV.same]
  | .ptr _ _, b, h => by cases b <;> simp_all [AV.same]
  | .nilSlice, b, h => by cases b <;> simp_all [AV.same]
  | .emptyS, b, h => by cases b <;> simp_all [AV.same]
  | .zeroS, b, h => by cases b <;> simp_all [AV.same]
  | .slice .., b, h => by cases b <;> simp_all [AV.same]
  | .nilMap, b, h => by cases b <;> simp_all [AV.same]
  | .map _, b, h => by cases b <;> simp_all [AV.same]
  | .fn f x y, b, h => by
    cases b with
    | fn g x' y' =>
      cases f <;> cases g <;> first
        | simp [AV.same] at h; done
        | simp only [AV.same, Bool.and_eq_true, beq_iff_eq] at h
          rw [h.1.1, AV.sames_eq h.1.2, AV.sames_eq h.2]
    | _ => simp [AV.same] at h
  | .nilFn, b, h => by cases b <;> simp_all [AV.same]
  | .nilIface, b, h => by cases b <;> simp_all [AV.same]
  | .yieldF, b, h => by cases b <;> simp_all [AV.same]
  | .gsl .., b, h => by
    cases b with
    | gsl b e z =>
      simp only [AV.same, Bool.and_eq_true, beq_iff_eq] at h
      rw [h.1.1, h.1.2, SX.same_eq h.2]
    | _ => simp [AV.same] at h
  | .fp .., b, h => by
    cases b with
    | fp a i j =>
      simp only [AV.same, Bool.and_eq_true, beq_iff_eq] at h
      rw [h.1.1, SX.same_eq h.1.2, SX.same_eq h.2]
    | _ => simp [AV.same] at h
  | .sx _, b, h => by
    cases b with
    | sx e => exact congrArg AV.sx (SX.same_eq (by simpa [AV.same] using h))
    | _ => simp [AV.same] at h
  | .iface t a, b, h => by
    cases b with
    | iface u c =>
      simp only [AV.same, Bool.and_eq_true, beq_iff_eq] at h
      rw [h.1, AV.same_eq h.2]
    | _ => simp [AV.same] at h
  | .agg as, b, h => by
    cases b with
    | agg bs => exact congrArg AV.agg (AV.sames_eq (by simpa [AV.same] using h))
    | _ => simp [AV.same] at h
  | .tuple as, b, h => by
    cases b with
    | tuple bs => exact congrArg AV.tuple (AV.sames_eq (by simpa [AV.same] using h))
    | _ => simp [AV.same] at h
theorem AV.sames_eq : ∀ {as bs : List AV}, AV.sames as bs = true → as = bs
  | [], bs, h => by cases bs <;> simp_all [AV.sames]
  | a :: as, bs, h => by
    cases bs with
    | nil => simp [AV.sames] at h
    | cons b bs =>
      simp only [AV.sames, Bool.and_eq_true] at h
      rw [AV.same_eq h.1, AV.sames_eq h.2]
end

theorem restr_get {tm : Tr AV} {l : List Nat} {t : Nat} {x : AV} (h : (restr tm l).get t = some x) : t ∈ l ∧ tm.get t = some x := by
  induction l with
  | nil =>
    unfold restr at h
    rw [Tr.get_leaf] at h
    cases h
  | cons u r ih =>
    unfold restr at h
    split at h
    · rename_i v hv
      rcases Tr.get_set h with ⟨h1, h2⟩ | ⟨_, h2⟩
      · rw [h1, h2]
        exact ⟨List.mem_cons_self, hv⟩
      · exact ⟨List.mem_cons_of_mem _ (ih h2).1, (ih h2).2⟩
    · exact ⟨List.mem_cons_of_mem _ (ih h).1, (ih h).2⟩

theorem allI_get {α : Type} {f : Nat → α → Bool} : ∀ {l : List α} {k i : Nat} {o : α}, allI f l k = true → l[i]? = some o → f (k + i) o = true
  | [], _, _, _, _, h => by simp at h
  | a :: r, k, 0, o, h, hi => by
    simp only [allI, Bool.and_eq_true] at h
    simp at hi
    subst hi
    exact h.1
  | a :: r, k, i + 1, o, h, hi => by
    simp only [allI, Bool.and_eq_true] at h
    have := allI_get (i := i) h.2 (by simpa using hi)
    rw [show k + (i + 1) = k + 1 + i by omega]
    exact this

theorem addAl_get {m cm : Nat} {H : Tr AO} {b : Nat} {o : AO} : ∀ {al : List (Nat × Nat × AO)}, al.Pairwise (fun p q => q.1 < p.1) → (addAl m cm H al).get b = some o →
    (∃ j, (j, b, o) ∈ al ∧ m.testBit j = true ∧ cm.testBit j = false ∧ ∀ j' o', (j', b, o') ∈ al → m.testBit j' = true → cm.testBit j' = false → j' ≤ j) ∨
    (H.get b = some o ∧ ∀ j o', (j, b, o') ∈ al → ¬ (m.testBit j = true ∧ cm.testBit j = false))
  | [], _, h => .inr ⟨h, fun j o' hj => by cases hj⟩
  | (j, b', ob) :: r, hp, h => by
    have hp' := List.pairwise_cons.1 hp
    simp only [addAl] at h
    split at h
    · rename_i hc
      simp only [Bool.and_eq_true, Bool.not_eq_true'] at hc
      rcases Tr.get_set h with ⟨rfl, rfl⟩ | ⟨hne, h2⟩
      · refine .inl ⟨j, List.mem_cons_self, hc.1, hc.2, fun j' o' hj _ _ => ?_⟩
        rcases List.mem_cons.1 hj with hj | hj
        · simp only [Prod.mk.injEq] at hj; omega
        · have := hp'.1 _ hj; exact Nat.le_of_lt this
      · rcases addAl_get hp'.2 h2 with ⟨k, h3, h4, h5, h6⟩ | ⟨h3, h4⟩
        · refine .inl ⟨k, List.mem_cons_of_mem _ h3, h4, h5, fun j' o' hj h7 h8 => ?_⟩
          rcases List.mem_cons.1 hj with hj | hj
          · simp only [Prod.mk.injEq] at hj; exact absurd hj.2.1 hne
          · exact h6 j' o' hj h7 h8
        · refine .inr ⟨h3, fun j' o' hj => ?_⟩
          rcases List.mem_cons.1 hj with hj | hj
          · simp only [Prod.mk.injEq] at hj; exact absurd hj.2.1 hne
          · exact h4 j' o' hj
    · rename_i hc
      have hc' : ¬ (m.testBit j = true ∧ cm.testBit j = false) := fun ⟨h1, h2⟩ => hc (by simp [h1, h2])
      rcases addAl_get hp'.2 h with ⟨k, h3, h4, h5, h6⟩ | ⟨h3, h4⟩
      · refine .inl ⟨k, List.mem_cons_of_mem _ h3, h4, h5, fun j' o' hj h7 h8 => ?_⟩
        rcases List.mem_cons.1 hj with hj | hj
        · simp only [Prod.mk.injEq] at hj; rw [hj.1] at h7 h8; exact absurd ⟨h7, h8⟩ hc'
        · exact h6 j' o' hj h7 h8
      · refine .inr ⟨h3, fun j' o' hj => ?_⟩
        rcases List.mem_cons.1 hj with hj | hj
        · simp only [Prod.mk.injEq] at hj; rw [hj.1]; exact hc'
        · exact h4 j' o' hj
theorem delAll_get {H : Tr AO} {b : Nat} {o : AO} : ∀ {l : List Nat}, (delAll H l).get b = some o → b ∉ l ∧ H.get b = some o
  | [], h => ⟨by simp, h⟩
  | x :: r, h => by
    obtain ⟨h1, h2⟩ := Tr.get_del h
    obtain ⟨h3, h4⟩ := delAll_get h2
    exact ⟨by simp [h1, h3], h4⟩
theorem exB_mem {ms : List Nat} {i cm : Nat} : ∀ {recs : List Rec} {k f : Nat} {r : Rec} {b : Nat} {o0 o1 : AO}, recs[f]? = some r → r.k = .put b o0 o1 → (ms.getD i 0).testBit (k + f) = false → cm.testBit (k + f) = false → (ms.getD (k + f) 0).testBit i = false → b ∈ exB ms i cm recs k
  | [], _, _, _, _, _, _, h, _, _, _, _ => by simp at h
  | a :: rest, k, 0, r, b, o0, o1, h, hk, h1, h2, h3 => by
    simp at h
    subst h
    simp only [Nat.add_zero] at h1 h2 h3
    simp only [exB, hk, h1, h2, h3, Bool.not_false, Bool.and_self, if_true]
    exact List.mem_cons_self
  | a :: rest, k, f + 1, r, b, o0, o1, h, hk, h1, h2, h3 => by
    rw [show k + (f + 1) = k + 1 + f by omega] at h1 h2 h3
    have := exB_mem (k := k + 1) (f := f) (by simpa using h) hk h1 h2 h3
    simp only [exB]
    split
    · split
      · exact List.mem_cons_of_mem _ this
      · exact this
    · exact this

theorem ptsOf_mem : ∀ {recs : List Rec} {k i : Nat} {r : Rec} {B : St}, recs[i]? = some r → r.k = .chain B → (k + i, B) ∈ ptsOf recs k
  | [], _, _, _, _, h, _ => by simp at h
  | a :: rest, k, 0, r, B, h, hk => by
    simp at h
    subst h
    simp only [ptsOf, hk]
    exact List.mem_cons_self
  | a :: rest, k, i + 1, r, B, h, hk => by
    have := ptsOf_mem (k := k + 1) (i := i) (by simpa using h) hk
    rw [show k + (i + 1) = k + 1 + i by omega]
    simp only [ptsOf]
    split
    · exact List.mem_cons_of_mem _ this
    · exact this

theorem maskOf_fold {ms : List Nat} {j : Nat} : ∀ (l : List Edge) (s : Nat), (l.foldl (fun s e => s ||| (2 ^ e.on ||| ms.getD e.on 0)) s).testBit j = true ↔ s.testBit j = true ∨ ∃ e ∈ l, e.on = j ∨ (ms.getD e.on 0).testBit j = true
  | [], s => by simp
  | e :: l, s => by
    rw [List.foldl_cons, maskOf_fold l]
    simp only [Nat.testBit_or, Bool.or_eq_true, List.mem_cons, exists_eq_or_imp, Nat.testBit_two_pow, decide_eq_true_eq]
    exact ⟨fun h => by rcases h with (h | h) | h <;> simp_all, fun h => by rcases h with h | h | h <;> simp_all⟩
theorem maskOf_bit {ms : List Nat} {o : Oper} {j : Nat} : (maskOf ms o).testBit j = true ↔ ∃ e ∈ o.after, Region.binds .any e = true ∧ (e.on = j ∨ (ms.getD e.on 0).testBit j = true) := by
  unfold maskOf
  rw [maskOf_fold]
  simp only [Nat.zero_testBit, Bool.false_eq_true, false_or, List.mem_filter, Array.mem_toList_iff]
  exact ⟨fun ⟨e, ⟨h1, h2⟩, h3⟩ => ⟨e, h1, h2, h3⟩, fun ⟨e, h1, h2, h3⟩ => ⟨e, ⟨h1, h2⟩, h3⟩⟩
end Go.Proofs.YtjaaajmiojigbaaGreatDoor
