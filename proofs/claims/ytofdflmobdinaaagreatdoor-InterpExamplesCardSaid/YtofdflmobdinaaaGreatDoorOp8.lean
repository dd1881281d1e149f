/- Operations: comparisons, arithmetic. -/
import Derived.Test.YtofdflmobdinaaaGreatDoorOp7
namespace Go.Proofs.YtofdflmobdinaaaGreatDoor
open Go Go.RowKit
variable {E : Env} {X : Ctx}

section
variable {P : Program} {base : Nat} {ρ : Mp} {s s' : St} {w : World} {tm : Tr AV} {a : Act} {o : Oper} {r : ARes}

/-- What two values compare as. -/
structure Eqs (P : Program) (w : World) (t : TypeId) (u v : Value) (b : Bool) : Prop where
  eql : (binOp .eql t u v).run P w = .ok (.bool b) w
  neq : (binOp .neq t u v).run P w = .ok (.bool (!b)) w
  guard : ∀ op X Y, u ≠ .nilIface ∨ v ≠ .nilIface → (eqGuard op t X Y u v).run P w = .ok () w

theorem guard_any {op : BinOp} {t : TypeId} {X Y : Operand} {u v : Value} (h1 : u ≠ .nilIface ∨ v ≠ .nilIface) (h2 : ∀ c, u ≠ .agg c) : (eqGuard op t X Y u v).run P w = .ok () w := by
  have key : ∀ (x y : Sem Unit), (match u, v with | .nilIface, .nilIface => x | .agg _, .agg _ => y | _, _ => pure ()).run P w = .ok () w := by
    intro x y
    split
    · rcases h1 with h1 | h1 <;> exact (h1 rfl).elim
    · exact (h2 _ rfl).elim
    · simp
  cases op <;> first | exact key _ _ | rfl

theorem Eqs.of {t : TypeId} {u v : Value} {b : Bool} (e : (Op.equal t u v).run P w = .ok b w) (h2 : ∀ c, u ≠ .agg c)
    (h3 : binOp .eql t u v = do pure (.bool (← Op.equal t u v))) (h4 : binOp .neq t u v = do pure (.bool (!(← Op.equal t u v)))) : Eqs P w t u v b :=
  ⟨by rw [h3]; simp [e], by rw [h4]; simp [e], fun _ _ _ h => guard_any h h2⟩

theorem equal_ok {t : TypeId} {u v : Value} {b : Bool} (e : ∀ d, (Op.equalIn (d + 1) t u v).run P w = .ok b w) : (Op.equal t u v).run P w = .ok b w := e 9999

theorem eqA_ok {t : TypeId} {x y : AV} {u v : Value} {b : Bool} (h : eqA P t x y = some b) (hx : VR E ρ x u) (hy : VR E ρ y v) : Eqs P w t u v b := by
  unfold eqA at h
  split at h
  · split at h
    · rename_i hu
      simp only [Option.some.injEq] at h
      subst h
      rw [show u = _ from hx, show v = _ from hy]
      exact .of (equal_ok fun d => by simp [Op.equalIn, underlying, hu]) (by simp) rfl rfl
    · cases h
  · split at h
    · rename_i hu
      simp only [Option.some.injEq] at h
      subst h
      rw [show u = _ from hx, show v = _ from hy]
      exact .of (equal_ok fun d => by simp [Op.equalIn, underlying, hu]) (by simp) rfl rfl
    · cases h
  · split at h
    · rename_i hu
      simp only [Option.some.injEq] at h
      subst h
      obtain ⟨c, _, rfl⟩ := hy
      rw [show u = _ from hx]
      exact .of (equal_ok fun d => by simp [Op.equalIn, underlying, hu]) (by simp) rfl rfl
    · cases h
  · split at h
    · rename_i hu
      simp only [Option.some.injEq] at h
      subst h
      obtain ⟨c, _, rfl⟩ := hx
      rw [show v = _ from hy]
      exact .of (equal_ok fun d => by simp [Op.equalIn, underlying, hu]) (by simp) rfl rfl
    · cases h
  · split at h
    · rename_i hu
      simp only [Option.some.injEq] at h
      subst h
      rw [show u = _ from hx, show v = _ from hy]
      exact .of (equal_ok fun d => by simp [Op.equalIn, underlying, hu]) (by simp) rfl rfl
    · cases h
  · split at h
    · rename_i hu
      simp only [Option.some.injEq] at h
      subst h
      obtain ⟨c, _, _, rfl, _⟩ := hx
      rw [show v = _ from hy]
      exact .of (equal_ok fun d => by simp [Op.equalIn, underlying, hu]) (by simp) rfl rfl
    · cases h
  · split at h
    · rename_i hu
      simp only [Option.some.injEq] at h
      subst h
      rw [show u = _ from hx, show v = _ from hy]
      exact .of (equal_ok fun d => by simp [Op.equalIn, underlying, hu]) (by simp) rfl rfl
    · cases h
  · split at h
    · rename_i hu
      simp only [Option.some.injEq] at h
      subst h
      obtain ⟨c, _, rfl⟩ := hx
      rw [show v = _ from hy]
      exact .of (equal_ok fun d => by simp [Op.equalIn, underlying, hu]) (by simp) rfl rfl
    · cases h
  · split at h
    · rename_i hu
      simp only [Option.some.injEq] at h
      subst h
      rw [show u = _ from hx, show v = _ from hy]
      exact .of (equal_ok fun d => by simp [Op.equalIn, underlying, hu]) (by simp) rfl rfl
    · cases h
  · split at h
    · rename_i hu
      simp only [Option.some.injEq] at h
      subst h
      obtain ⟨_, _, rfl, _⟩ := hx
      rw [show v = _ from hy]
      exact .of (equal_ok fun d => by simp [Op.equalIn, underlying, hu]) (by simp) rfl rfl
    · cases h
  · split at h
    · rename_i hu
      simp only [Option.some.injEq] at h
      subst h
      obtain ⟨_, rfl, _⟩ := hy
      rw [show u = _ from hx]
      exact .of (equal_ok fun d => by simp [Op.equalIn, underlying, hu]) (by simp) rfl rfl
    · cases h
  · split at h
    · rename_i hu
      simp only [Option.some.injEq] at h
      subst h
      obtain ⟨_, rfl, _⟩ := hx
      rw [show v = _ from hy]
      exact .of (equal_ok fun d => by simp [Op.equalIn, underlying, hu]) (by simp) rfl rfl
    · cases h
  · split at h
    · rename_i hu
      simp only [Option.some.injEq] at h
      subst h
      rw [show u = _ from hx, show v = _ from hy]
      exact .of (equal_ok fun d => by simp [Op.equalIn, underlying, hu]) (by simp) rfl rfl
    · cases h
  · cases h

theorem bsOf_toList (l : List Nat) : (bsOf l).toList = l.map UInt8.ofNat := by
  unfold bsOf
  exact ByteArray.toList_mk _
theorem ofNat_inj {a b : Nat} (ha : a < 256) (hb : b < 256) : (UInt8.ofNat a = UInt8.ofNat b) ↔ a = b := by
  constructor
  · intro h
    have := congrArg UInt8.toNat h
    simp at this
    omega
  · rintro rfl; rfl
theorem map_ofNat_inj : ∀ {x y : List Nat}, (∀ c ∈ x, c < 256) → (∀ c ∈ y, c < 256) → (x.map UInt8.ofNat = y.map UInt8.ofNat ↔ x = y)
  | [], [], _, _ => by simp
  | [], _ :: _, _, _ => by simp
  | _ :: _, [], _, _ => by simp
  | a :: x, b :: y, hx, hy => by
    simp only [List.map_cons, List.cons.injEq]
    rw [ofNat_inj (hx a (by simp)) (hy b (by simp)), map_ofNat_inj (fun c hc => hx c (by simp [hc])) (fun c hc => hy c (by simp [hc]))]
theorem lessB_ok : ∀ {x y : List Nat}, (∀ c ∈ x, c < 256) → (∀ c ∈ y, c < 256) → Op.bytesLess (x.map UInt8.ofNat) (y.map UInt8.ofNat) = lessB x y
  | [], [], _, _ => by simp [Op.bytesLess, lessB]
  | [], _ :: _, _, _ => by simp [Op.bytesLess, lessB]
  | _ :: _, [], _, _ => by simp [Op.bytesLess, lessB]
  | a :: x, b :: y, hx, hy => by
    have ha := hx a (by simp)
    have hb := hy b (by simp)
    have h1 : (UInt8.ofNat a < UInt8.ofNat b) ↔ a < b := by
      rw [UInt8.lt_iff_toNat_lt]
      simp
      omega
    have h2 : (UInt8.ofNat a == UInt8.ofNat b) = (a == b) := by
      rw [Bool.eq_iff_iff]
      simp only [beq_iff_eq]
      exact ofNat_inj ha hb
    simp only [List.map_cons, Op.bytesLess, lessB, h2, h1, lessB_ok (x := x) (y := y) (fun c hc => hx c (by simp [hc])) (fun c hc => hy c (by simp [hc]))]

theorem binA_int {t : TypeId} {op : BinOp} {k k' : IntKind} {n m : Int} {v : AV} (h : binA P t op (.int k n) (.int k' m) = some v) : ∃ u, (binOp op t (.int k n) (.int k' m)).run P w = .ok u w ∧ VR E ρ v u := by
  have hb : ∀ {x : AV}, (if m = 0 then none else some x) = some v → m ≠ 0 ∧ x = v := by
    intro x hh
    split at hh
    · cases hh
    · exact ⟨‹_›, Option.some.inj hh⟩
  cases op
  case shl =>
    simp only [binA] at h
    split at h
    · rename_i h0
      simp only [Option.some.injEq] at h
      subst h
      exact ⟨.int k (k.wrap (n * 2 ^ (min m.toNat k.bits))), by simp [binOp, Op.shift, Int.not_lt.2 h0], rfl⟩
    · cases h
  case shr =>
    simp only [binA] at h
    split at h
    · rename_i h0
      simp only [Option.some.injEq] at h
      subst h
      exact ⟨.int k (n.fdiv (2 ^ (min m.toNat k.bits))), by simp [binOp, Op.shift, Int.not_lt.2 h0], rfl⟩
    · cases h
  case add =>
    simp only [binA] at h
    split at h
    · rename_i hk
      subst hk
      simp only [Option.some.injEq] at h
      subst h
      exact ⟨.int k (k.wrap (n + m)), by simp [binOp, Op.intArith], rfl⟩
    · cases h
  case sub =>
    simp only [binA] at h
    split at h
    · rename_i hk
      subst hk
      simp only [Option.some.injEq] at h
      subst h
      exact ⟨.int k (k.wrap (n - m)), by simp [binOp, Op.intArith], rfl⟩
    · cases h
  case mul =>
    simp only [binA] at h
    split at h
    · rename_i hk
      subst hk
      simp only [Option.some.injEq] at h
      subst h
      exact ⟨.int k (k.wrap (n * m)), by simp [binOp, Op.intArith], rfl⟩
    · cases h
  case quo =>
    simp only [binA] at h
    split at h
    · rename_i hk
      subst hk
      obtain ⟨h0, rfl⟩ := hb h
      exact ⟨.int k (k.wrap (n.tdiv m)), by simp [binOp, Op.intDiv, h0], rfl⟩
    · cases h
  case rem =>
    simp only [binA] at h
    split at h
    · rename_i hk
      subst hk
      obtain ⟨h0, rfl⟩ := hb h
      exact ⟨.int k (n.tmod m), by simp [binOp, Op.intDiv, h0], rfl⟩
    · cases h
  case eql =>
    simp only [binA] at h
    split at h
    · rename_i hk
      subst hk
      simp only [Option.some.injEq] at h
      subst h
      exact ⟨.bool (n == m), by simp [binOp, Op.intCmp], rfl⟩
    · cases h
  case neq =>
    simp only [binA] at h
    split at h
    · rename_i hk
      subst hk
      simp only [Option.some.injEq] at h
      subst h
      exact ⟨.bool (n != m), by simp [binOp, Op.intCmp], rfl⟩
    · cases h
  case lss =>
    simp only [binA] at h
    split at h
    · rename_i hk
      subst hk
      simp only [Option.some.injEq] at h
      subst h
      exact ⟨.bool (decide (n < m)), by simp [binOp, Op.intCmp], rfl⟩
    · cases h
  case leq =>
    simp only [binA] at h
    split at h
    · rename_i hk
      subst hk
      simp only [Option.some.injEq] at h
      subst h
      exact ⟨.bool (decide (n ≤ m)), by simp [binOp, Op.intCmp], rfl⟩
    · cases h
  case gtr =>
    simp only [binA] at h
    split at h
    · rename_i hk
      subst hk
      simp only [Option.some.injEq] at h
      subst h
      exact ⟨.bool (decide (m < n)), by simp [binOp, Op.intCmp], rfl⟩
    · cases h
  case geq =>
    simp only [binA] at h
    split at h
    · rename_i hk
      subst hk
      simp only [Option.some.injEq] at h
      subst h
      exact ⟨.bool (decide (m ≤ n)), by simp [binOp, Op.intCmp], rfl⟩
    · cases h
  all_goals
    simp only [binA] at h
    split at h <;> cases h

theorem binA_str {t : TypeId} {op : BinOp} {x y : List Nat} {v : AV} (hx : ∀ c ∈ x, c < 256) (hy : ∀ c ∈ y, c < 256) (h : binA P t op (.str x) (.str y) = some v) : ∃ u, (binOp op t (.string (bsOf x)) (.string (bsOf y))).run P w = .ok u w ∧ VR E ρ v u := by
  have heq : ((bsOf x).toList == (bsOf y).toList) = (x == y) := by
    rw [Bool.eq_iff_iff]
    simp only [beq_iff_eq, bsOf_toList]
    exact map_ofNat_inj hx hy
  have hlt : Op.bytesLess (bsOf x).toList (bsOf y).toList = lessB x y := by rw [bsOf_toList, bsOf_toList, lessB_ok hx hy]
  cases op
  case add =>
    simp only [binA] at h
    split at h
    · rename_i hs
      simp only [Option.some.injEq] at h
      subst h
      refine ⟨.string (bsOf (x ++ y)), ?_, rfl, fun c hc => (List.mem_append.1 hc).elim (hx c) (hy c)⟩
      have hcat : bsOf x ++ bsOf y = bsOf (x ++ y) := by
        apply ByteArray.ext
        rw [ByteArray.data_append]
        simp [bsOf]
      have hn : ¬ ((((bsOf x).size + (bsOf y).size : Nat) : Int) > IntKind.i64.max) := by
        rw [bsOf_size, bsOf_size]
        have : IntKind.i64.max = 9223372036854775807 := by decide
        omega
      simp only [binOp, Op.stringOp, hcat, if_neg hn]
      rfl
    · cases h
  case eql => simp only [binA, Option.some.injEq] at h; subst h; exact ⟨.bool (x == y), by simp only [binOp, Op.stringOp, heq]; rfl, rfl⟩
  case neq => simp only [binA, Option.some.injEq] at h; subst h; exact ⟨.bool (!(x == y)), by simp only [binOp, Op.stringOp, heq]; rfl, rfl⟩
  case lss => simp only [binA, Option.some.injEq] at h; subst h; exact ⟨.bool (lessB x y), by simp only [binOp, Op.stringOp, hlt]; rfl, rfl⟩
  case leq => simp only [binA, Option.some.injEq] at h; subst h; exact ⟨.bool (lessB x y || x == y), by simp only [binOp, Op.stringOp, hlt, heq]; rfl, rfl⟩
  case gtr => simp only [binA, Option.some.injEq] at h; subst h; exact ⟨.bool (!(lessB x y || x == y)), by simp only [binOp, Op.stringOp, hlt, heq]; rfl, rfl⟩
  case geq => simp only [binA, Option.some.injEq] at h; subst h; exact ⟨.bool (!lessB x y), by simp only [binOp, Op.stringOp, hlt]; rfl, rfl⟩
  all_goals cases h

theorem binA_eq {t : TypeId} {op : BinOp} {x y : AV} {v : AV} (h1 : ∀ k n k' m, x = .int k n → y = .int k' m → False) (h2 : ∀ l m, x = .str l → y = .str m → False) (h : binA P t op x y = some v) :
    ∃ b, eqA P t x y = some b ∧ ((op = .eql ∧ v = .bool b) ∨ (op = .neq ∧ v = .bool (!b))) := by
  unfold binA at h
  split at h
  · exact (h1 _ _ _ _ rfl rfl).elim
  · exact (h2 _ _ rfl rfl).elim
  · split at h
    · obtain ⟨b, h3, rfl⟩ := Option.map_eq_some_iff.1 h
      exact ⟨b, h3, .inl ⟨rfl, rfl⟩⟩
    · obtain ⟨b, h3, rfl⟩ := Option.map_eq_some_iff.1 h
      exact ⟨b, h3, .inr ⟨rfl, rfl⟩⟩
    · cases h

theorem run_binA {t : TypeId} {op : BinOp} {X Y : Operand} {x y v : AV} {u1 u2 : Value} (hx : VR E ρ x u1) (hy : VR E ρ y u2) (hn : u1 ≠ .nilIface ∨ u2 ≠ .nilIface ∨ (isConstO X || isConstO Y) = true) (h : binA P t op x y = some v) :
    ∃ u, ((eqGuard op t X Y u1 u2).run P w = .ok () w) ∧ (binOp op t u1 u2).run P w = .ok u w ∧ VR E ρ v u := by
  by_cases h1 : ∃ k n k' m, x = .int k n ∧ y = .int k' m
  · obtain ⟨k, n, k', m, rfl, rfl⟩ := h1
    obtain ⟨u, h2, h3⟩ := binA_int (P := P) (ρ := ρ) (w := w) h
    rw [show u1 = _ from hx, show u2 = _ from hy]
    exact ⟨u, guard_any (.inl (by simp)) (by simp), h2, h3⟩
  · by_cases h2 : ∃ l m, x = .str l ∧ y = .str m
    · obtain ⟨l, m, rfl, rfl⟩ := h2
      obtain ⟨rfl, h4⟩ := hx
      obtain ⟨rfl, h5⟩ := hy
      obtain ⟨u, h6, h7⟩ := binA_str (P := P) (ρ := ρ) (w := w) h4 h5 h
      exact ⟨u, guard_any (.inl (by simp)) (by simp), h6, h7⟩
    · obtain ⟨b, h3, h4⟩ := binA_eq (fun k n k' m e e' => h1 ⟨k, n, k', m, e, e'⟩) (fun l m e e' => h2 ⟨l, m, e, e'⟩) h
      have he := eqA_ok (w := w) h3 hx hy
      have hg : (eqGuard op t X Y u1 u2).run P w = .ok () w := by
        by_cases hn1 : u1 ≠ .nilIface ∨ u2 ≠ .nilIface
        · exact he.guard _ _ _ hn1
        · have e1 : u1 = .nilIface := Classical.not_not.1 fun e => hn1 (.inl e)
          have e2 : u2 = .nilIface := Classical.not_not.1 fun e => hn1 (.inr e)
          have hc : (isConstO X || isConstO Y) = true := by
            rcases hn with hn | hn | hn
            · exact (hn e1).elim
            · exact (hn e2).elim
            · exact hn
          rw [e1, e2]
          cases X <;> cases Y <;> simp [isConstO] at hc <;> cases op <;> rfl
      rcases h4 with ⟨rfl, rfl⟩ | ⟨rfl, rfl⟩
      · exact ⟨_, hg, he.eql, rfl⟩
      · exact ⟨_, hg, he.neq, rfl⟩

theorem VR.nilI {x : AV} (h : VR E ρ x .nilIface) : x = .nilIface := by
  cases x with
  | nilIface => rfl
  | str l => obtain ⟨h, _⟩ := h; cases h
  | ptr b o => obtain ⟨_, _, h⟩ := h; cases h
  | emptyS => obtain ⟨_, _, h⟩ := h; cases h
  | yieldF => obtain ⟨_, h⟩ := h; cases h
  | slice b o n c z => obtain ⟨_, _, _, h, _⟩ := h; cases h
  | map b => obtain ⟨_, _, h⟩ := h; cases h
  | fn f x y => obtain ⟨_, _, h, _⟩ := h; cases h
  | iface t y => obtain ⟨_, h, _⟩ := h; cases h
  | agg cs => obtain ⟨_, h, _⟩ := h; cases h
  | tuple cs => obtain ⟨_, h, _⟩ := h; cases h
  | sx e => obtain ⟨d, _, h⟩ := h; rcases h.form with ⟨_, _, h⟩ | ⟨_, h⟩ | ⟨_, h⟩ | ⟨_, _, _, h⟩ <;> cases h
  | gsl b e z => obtain ⟨_, _, _, _, _, h, _⟩ := h; cases h
  | fp a i j => obtain ⟨_, _, _, _, _, _, _, _, _, _, _, _, _, h, _⟩ := h; cases h
  | _ => rw [VR] at h; cases h

theorem good_binOp (op : BinOp) (t t' : TypeId) (x y : Operand) (ho : o.op = .binOp op t x y t') (hf : FR E ρ tm a.tmps) (hg : Glob E X P ρ) (h : HR E base ρ s w) (he : evOp P tm s o = some r) : Good E P base ρ s w (execOp a.eval o) r := by
  simp only [evOp, ho] at he
  split at he
  · rename_i h1 h2
    split at he
    · rename_i hc
      obtain ⟨v, h3, rfl⟩ := Option.map_eq_some_iff.1 he
      obtain ⟨u, h4, h5, h6⟩ := run_binA (P := P) (w := w) (rd_ok hf hg h1) (rd_ok hf hg h2) (.inr (.inr hc)) h3
      exact Good.same h (by simp [execOp, ho, h4, h5]) h6
    · cases he
  · rename_i p q h0 h1 h2
    obtain ⟨v, h3, rfl⟩ := Option.map_eq_some_iff.1 he
    have hp := rd_ok hf hg h1
    have hq := rd_ok hf hg h2
    obtain ⟨u, h4, h5, h6⟩ := run_binA (P := P) (w := w) (X := x) (Y := y) hp hq (by
      by_cases e1 : a.eval x = .nilIface
      · refine .inr (.inl fun e2 => ?_)
        rw [e1] at hp
        rw [e2] at hq
        exact h0 hp.nilI hq.nilI
      · exact .inl e1) h3
    exact Good.same h (by simp [execOp, ho, h4, h5]) h6
  · cases he
end
end Go.Proofs.YtofdflmobdinaaaGreatDoor
