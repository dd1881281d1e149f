/- SyntaxLimits: what the evaluator is told of sexpr.Parse and of the two remainders. -/
import Derived.Test.YtfhcgpecccfkcaaGreatDoorRC
namespace Go.Proofs.YtfhcgpecccfkcaaGreatDoor
open Go Go.RowKit
variable {E : Nat → Int}

noncomputable def libS (a b : Int) : Lib := fun f args s =>
  if f = 15 then (match args with
    | [.str l] => if l.length ≤ 1000000 then some (readA s l) else none
    | _ => none)
  else if f = 4 then (match args with
    | [.sym i, .int .i64 m] => if i = 0 ∧ m = 4 then some (.int .i64 a, s) else if i = 1 ∧ m = 3 then some (.int .i64 b, s) else none
    | _ => none)
  else if f = 8 then (match args with
    | [] => if hasTabs s then some (.bool true, s) else none
    | _ => none)
  else none

theorem libR_ok : LibOk E Tryz.prog libR := by
  intro f args s v s' h
  unfold libR at h
  split at h
  · rename_i hf
    subst hf
    split at h
    · split at h
      · rename_i hc
        have := read_callS (E := E) (s := s) hc
        simp only [Option.some.injEq] at h
        rw [h] at this
        exact this
      · cases h
    · cases h
  · cases h
theorem of_isTrue {r : Option Resp} (h : isTrueR r = true) : ∃ s', r = some (.call (.bool true) s') := by
  unfold isTrueR at h
  split at h
  · exact ⟨_, rfl⟩
  · cases h

theorem libS_ok {a b : Int} (ha : E 0 % 4 = a) (hb : E 1 % 3 = b) : LibOk E Tryz.prog (libS a b) := by
  intro f args s v s' h
  unfold libS at h
  split at h
  · rename_i hf
    subst hf
    split at h
    · split at h
      · rename_i hc
        have := read_callS (E := E) (s := s) hc
        simp only [Option.some.injEq] at h
        rw [h] at this
        exact this
      · cases h
    · cases h
  · split at h
    · rename_i hf
      subst hf
      have key : ∀ (i : Nat) (m r : Int), 0 < m → m ≤ 4294967296 → E i % m = r → CallS E Tryz.prog 4 [.sym i, .int .i64 m] s (.int .i64 r) s := fun i m r h1 h2 h3 base ρ w us hg hr hv => by
        obtain ⟨_, _, rfl, rfl, _, _, rfl, rfl, rfl⟩ := hv
        refine Calls.mono (mod_any (E i) m h1 h2 w) ?_
        rintro e w' ⟨rfl, rfl⟩
        exact ⟨_, ρ, rfl, by rw [h3]; rfl, hr, Turn.refl hr⟩
      split at h
      · rename_i i m
        split at h
        · rename_i hc
          simp only [Option.some.injEq, Prod.mk.injEq] at h
          obtain ⟨rfl, rfl⟩ := h
          obtain ⟨rfl, rfl⟩ := hc
          exact key 0 4 _ (by omega) (by omega) ha
        · split at h
          · rename_i hc
            simp only [Option.some.injEq, Prod.mk.injEq] at h
            obtain ⟨rfl, rfl⟩ := h
            obtain ⟨rfl, rfl⟩ := hc
            exact key 1 3 _ (by omega) (by omega) hb
          · cases h
      · cases h
    · split at h
      · rename_i hf
        subst hf
        split at h
        · split at h
          · rename_i ht
            simp only [Option.some.injEq, Prod.mk.injEq] at h
            obtain ⟨rfl, rfl⟩ := h
            obtain ⟨s2, hs2⟩ := of_isTrue run_check
            exact closed_true libR_ok hs2 ht
          · cases h
        · cases h
      · cases h
end Go.Proofs.YtfhcgpecccfkcaaGreatDoor
