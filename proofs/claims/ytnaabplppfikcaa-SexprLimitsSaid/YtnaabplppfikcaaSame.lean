/- telmake.SameNodes, telmake.Fault. -/
import Derived.Test.YtnaabplppfikcaaState
import Derived.Deep.LoopGhost
namespace Go.Proofs.Ytnaabplppfikcaa
open Go.RowKit

/-- The i-th node of a row: kind, text, children, offset. -/
def Fr.nth : Fr → Nat → Option (Int × List UInt8 × Fr × Int)
  | .nil, _ => none
  | .cons k t c o _, 0 => some (k, t, c, o)
  | .cons _ _ _ _ r, i + 1 => r.nth i

theorem Fr.nth_lt : ∀ {l : Fr} {i : Nat}, i < l.len → ∃ k t c o, l.nth i = some (k, t, c, o) ∧ c.size < l.size
  | .cons k t c o r, 0, _ => ⟨k, t, c, o, rfl, by simp [Fr.size]; omega⟩
  | .cons k t c o r, i + 1, h => by
    obtain ⟨k', t', c', o', h1, h2⟩ := Fr.nth_lt (l := r) (i := i) (by simp [Fr.len] at h; omega)
    exact ⟨k', t', c', o', h1, by simp [Fr.size]; omega⟩

theorem enc_nth {w : World} {F : Fixed} : ∀ {l : Fr} {ys : List Value} {i : Nat} {k : Int} {t : List UInt8} {c : Fr} {o : Int}, Enc w F l.dat ys → l.nth i = some (k, t, c, o) →
    ∃ cv, ys[i * 4]? = some (.int .i64 k) ∧ ys[i * 4 + 1]? = some (.string ⟨t.toArray⟩) ∧ ys[i * 4 + 2]? = some cv ∧ ys[i * 4 + 3]? = some (.int .i64 o) ∧ Rd w F 4 c.dat cv
  | .cons k t c o r, ys, 0, _, _, _, _, h, e => by
    simp only [Fr.nth, Option.some.injEq, Prod.mk.injEq] at e
    obtain ⟨rfl, rfl, rfl, rfl⟩ := e
    obtain ⟨z1, rfl, z2, rfl, cv, zs, z3, rfl, h1, h2, z4, rfl, h3⟩ := h
    exact ⟨cv, rfl, rfl, rfl, rfl, zs, h1, h2⟩
  | .cons k t c o r, ys, i + 1, _, _, _, _, h, e => by
    obtain ⟨z1, rfl, z2, rfl, cv, zs, z3, rfl, h1, h2, z4, rfl, h3⟩ := h
    obtain ⟨cv', a, b, c', d, e'⟩ := enc_nth h3 (show r.nth i = some _ from e)
    refine ⟨cv', ?_, ?_, ?_, ?_, e'⟩
    · rw [show (i + 1) * 4 = i * 4 + 4 by omega]; simpa using a
    · rw [show (i + 1) * 4 + 1 = i * 4 + 1 + 4 by omega]; simpa using b
    · rw [show (i + 1) * 4 + 2 = i * 4 + 2 + 4 by omega]; simpa using c'
    · rw [show (i + 1) * 4 + 3 = i * 4 + 3 + 4 by omega]; simpa using d

/-- What a slice of nodes looks like. -/
inductive NodeSlice (w : World) (F : Fixed) (l : Fr) : Value → Prop
  | nil : l.len = 0 → NodeSlice w F l (.slice none 0 0)
  | some (b off cap : Nat) : l.len ≤ cap → cap ≤ maxLen → (∀ i k t c o, l.nth i = .some (k, t, c, o) → ∃ a n m, w.cell? ⟨b, off + i * 4, none⟩ = .some (.int .i64 k) ∧ w.cell? ⟨b, off + i * 4 + 1, none⟩ = .some (.string ⟨t.toArray⟩) ∧
      w.cell? ⟨b, off + i * 4 + 2, none⟩ = .some (.slice a n m) ∧ w.cell? ⟨b, off + i * 4 + 3, none⟩ = .some (.int .i64 o) ∧ Rd w F 4 c.dat (.slice a n m)) → NodeSlice w F l (.slice (.some ⟨b, off, none⟩) l.len cap)

theorem Rd.slice {w : World} {F : Fixed} {size : Nat} {d : Dat} {v : Value} (h : Rd w F size d v) : ∃ a n c, v = .slice a n c := by
  obtain ⟨ys, h1 | ⟨b, off, n, cap, rfl, _⟩, _⟩ := h
  · exact ⟨_, _, _, h1.1⟩
  · exact ⟨_, _, _, rfl⟩

theorem Rd.nodes {w : World} {F : Fixed} {l : Fr} {v : Value} (h : Rd w F 4 l.dat v) : NodeSlice w F l v := by
  obtain ⟨ys, hr, he⟩ := h
  have hl := he.len
  rw [Fr.dat_len] at hl
  rcases hr with ⟨rfl, rfl⟩ | ⟨b, off, n, cap, rfl, h1, h2, h3, h4⟩
  · exact .nil (by simp at hl; omega)
  · have hn : n = l.len := by omega
    subst hn
    refine .some b off cap h1 h2 fun i k t c o hi => ?_
    obtain ⟨cv, e0, e1, e2, e3, hrd⟩ := enc_nth he hi
    obtain ⟨a, n, m, rfl⟩ := hrd.slice
    exact ⟨a, n, m, by rw [← (h4 _ _ e0).2], by rw [Nat.add_assoc, ← (h4 _ _ e1).2], by rw [Nat.add_assoc, ← (h4 _ _ e2).2], by rw [Nat.add_assoc, ← (h4 _ _ e3).2], hrd⟩

theorem Rd.drewN {w : World} {F : Fixed} {size : Nat} {d : Dat} {v : Value} (h : Rd w F size d v) (m : Nat) : Rd (w.drewN m) F size d v := h.mono (fun _ _ _ => rfl) (fun _ _ h => h)

def SameB (w : World) (b : Bool) (e : Ending) (w' : World) : Prop := e = .returned (.bool b) ∧ ∃ m, w' = w.drewN m

theorem SameB.add {w : World} {a n : Nat} {b : Bool} {f : FuncId} {args : Array Value} (h : Calls Try.prog f args (w.drewN (a + n)) (SameB (w.drewN (a + n)) b)) :
    Calls Try.prog f args (w.drewN (a + n)) fun e w'' => e = .returned (.bool b) ∧ ∃ m, w'' = w.drewN (a + m) :=
  h.mono fun _ _ ⟨he, m, hm⟩ => ⟨he, n + m, by rw [hm, World.drewN_drewN, Nat.add_assoc]⟩
theorem SameB.one {w : World} {n : Nat} {b : Bool} {f : FuncId} {args : Array Value} (h : Calls Try.prog f args (w.drewN n) (SameB (w.drewN n) b)) :
    Calls Try.prog f args (w.drewN n) fun e w'' => e = .returned (.bool b) ∧ ∃ m, w'' = w.drewN m :=
  h.mono fun _ _ ⟨he, m, hm⟩ => ⟨he, n + m, by rw [hm, World.drewN_drewN]⟩

set_option maxRecDepth 100000 in
set_option maxHeartbeats 3200000 in
theorem same_eq (k : Nat) : ∀ (l : Fr), l.size ≤ k → ∀ (w : World) (F G : Fixed) (va vb : Value), Rd w F 4 l.dat va → Rd w G 4 l.dat vb → Calls Try.prog 10 #[va, vb] w (SameB w true) := by
  induction k with
  | zero =>
    intro l hl w F G va vb ha hb
    have hlen : l.len = 0 := by have := Fr.len_le_size l; omega
    have hva : ∃ a c, va = .slice a 0 c := by
      cases ha.nodes with
      | nil _ => exact ⟨_, _, rfl⟩
      | some b off cap _ _ _ => exact ⟨_, _, by rw [hlen]⟩
    have hvb : ∃ a c, vb = .slice a 0 c := by
      cases hb.nodes with
      | nil _ => exact ⟨_, _, rfl⟩
      | some b off cap _ _ _ => exact ⟨_, _, by rw [hlen]⟩
    obtain ⟨aa, ac, rfl⟩ := hva
    obtain ⟨ba, bc, rfl⟩ := hvb
    clear ha hb
    go_enter Try.func10, Try.ntmps10
    go_wp2_with fail
    go_loopg [5] 0 (fun k v wr => v = .int .i64 0 ∧ wr = w)
    case atStart => exact ⟨rfl, rfl⟩
    case round =>
      obtain ⟨rfl, rfl⟩ := hrel
      go_wp2_with fail
      go_ret
      exact ⟨rfl, 0, rfl⟩
  | succ k ih =>
    intro l hl w F G va vb ha hb
    by_cases hz : l.len = 0
    · have hva : ∃ a c, va = .slice a 0 c := by
        cases ha.nodes with
        | nil _ => exact ⟨_, _, rfl⟩
        | some b off cap _ _ _ => exact ⟨_, _, by rw [hz]⟩
      have hvb : ∃ a c, vb = .slice a 0 c := by
        cases hb.nodes with
        | nil _ => exact ⟨_, _, rfl⟩
        | some b off cap _ _ _ => exact ⟨_, _, by rw [hz]⟩
      obtain ⟨aa, ac, rfl⟩ := hva
      obtain ⟨ba, bc, rfl⟩ := hvb
      clear ha hb ih
      go_enter Try.func10, Try.ntmps10
      go_wp2_with fail
      go_loopg [5] 0 (fun k v wr => v = .int .i64 0 ∧ wr = w)
      case atStart => exact ⟨rfl, rfl⟩
      case round =>
        obtain ⟨rfl, rfl⟩ := hrel
        go_wp2_with fail
        go_ret
        exact ⟨rfl, 0, rfl⟩
    · have hna := ha.nodes
      have hnb := hb.nodes
      cases hna with
      | nil h => exact absurd h hz
      | some b off cap h1 h2 h3 =>
        cases hnb with
        | nil h => exact absurd h hz
        | some b' off' cap' h1' h2' h3' =>
          unfold maxLen at h2 h2'
          have IH := Lib.hid ih
          have A1 := Lib.hid h3
          have A2 := Lib.hid h3'
          obtain ⟨n, hn⟩ : ∃ n, l.len = n := ⟨_, rfl⟩
          have HN := Lib.hid hn
          rw [hn]
          have hnc : n ≤ cap := by omega
          have hnc' : n ≤ cap' := by omega
          clear ih h3 h3' hn ha hb h1 h1' hz
          go_enter Try.func10, Try.ntmps10
          go_wp2_with fail
          go_loopg [5] n (fun k v wr => ∃ i m, k = n - i ∧ i ≤ n ∧ v = .int .i64 (i : Nat) ∧ wr = w.drewN m)
          case atStart => exact ⟨0, 0, rfl, Nat.zero_le _, rfl, rfl⟩
          case round =>
            obtain ⟨i, m, hk, hi, rfl, rfl⟩ := hrel
            have B1 := Lib.hid hk
            clear hk
            by_cases hlt : i < n
            · have hi0 : (0 : Int) ≤ (i : Int) := by omega
              have hi1 : (i : Int) < (n : Int) := by omega
              obtain ⟨kk, t, c, o, hnth, hsz⟩ := Fr.nth_lt (l := l) (i := i) (by have := HN.out; omega)
              obtain ⟨xa, xn, xm, c0, c1, c2, c3, hrd⟩ := A1.out i kk t c o hnth
              obtain ⟨ya, yn, ym, d0, d1, d2, d3, hrd'⟩ := A2.out i kk t c o hnth
              have C1 := Lib.hid hrd
              have C2 := Lib.hid hrd'
              have hcs : c.size ≤ k := by omega
              clear hnth hrd hrd' hsz
              have e1 : (kk != kk) = false := by simp
              have e2 : (o != o) = false := by simp
              go_wp2_with fail
              go_quiet ((go_at_call 10; first | exact SameB.add (IH.out c hcs _ F G _ _ (C1.out.drewN _) (C2.out.drewN _)) | exact SameB.one (IH.out c hcs _ F G _ _ (C1.out.drewN _) (C2.out.drewN _))))
              rename Nat => m2
              go_wp2_with fail
              go_roundg (n - (i + 1))
              case measure => have := B1.out; omega
              case rel => exact ⟨i + 1, _, rfl, by omega, by go_num, rfl⟩
            · have hin : i = n := by omega
              subst hin
              go_wp2_with fail
              go_ret
              exact ⟨rfl, m, rfl⟩

theorem fault_eq (a b : Int) (w : World) : Calls Try.prog 9 #[.agg #[.int .i64 a, .int .i64 b], .agg #[.int .i64 a, .int .i64 b]] w fun e w' => e = .returned (.bool true) ∧ Below w.heap.size w w' := by
  go_enter Try.func9, Try.ntmps9
  go_wp2_with fail
  go_ret
  exact ⟨by simp, ((Below.refl _ _).alloc (Nat.le_refl _) _).alloc (by simp) _⟩
end Go.Proofs.Ytnaabplppfikcaa
