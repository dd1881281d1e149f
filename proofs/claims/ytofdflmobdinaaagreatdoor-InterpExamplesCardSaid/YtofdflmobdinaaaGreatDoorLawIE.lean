/- InterpExamples: the law, out of the evaluator's run. -/
import Derived.Test.YtofdflmobdinaaaGreatDoorRunIE
namespace Go.Proofs.YtofdflmobdinaaaGreatDoor
open Go Go.RowKit

theorem lib0_ok {E : Env} {X : Ctx} {P : Program} : LibOk E X P (fun _ => True) lib0 :=
  ⟨fun _ _ _ _ _ h => (by cases h), fun _ _ _ _ _ _ _ _ _ _ h => (by cases h), fun _ _ => True.intro⟩

/-- Both tables. -/
noncomputable def envTab : Env := ⟨fun _ => tabD wordsTyp, fun g => if g = 2 ∨ g = 1 then some (tabD wordsTyp) else none⟩
theorem xTab_ok : XOk envTab xTab := by
  refine ⟨fun e v h => ?_, fun i k h => ?_, fun g i h => ?_⟩
  · rcases List.mem_append.1 h with h | h
    · exact tabFacts_ok (F := envTab.val) rfl e v h
    · exact tabFacts_ok (F := envTab.val) rfl e v h
  · have hk : k = .sl 0 := by
      match i, h with
      | 0, h => exact (Option.some.inj h).symm
      | 1, h => exact (Option.some.inj h).symm
    subst hk
    exact tab_kind rfl wordsTyp
  · simp only [xTab, List.mem_cons, Prod.mk.injEq, List.not_mem_nil, or_false] at h
    rcases h with ⟨rfl, rfl⟩ | ⟨rfl, rfl⟩ <;> rfl

theorem law_examples (W : World) (h1 : TabAt W 2 wordsTyp) (h2 : TabAt W 1 wordsTyp) :
    Calls Tryz.prog 3 #[] W fun e W' => e = .returned (.bool true) ∧ Below W.heap.size W W' := by
  obtain ⟨s', hs⟩ := of_isTrue run_examples
  have hg : Glob0 envTab Tryz.prog (Mp.start Tryz.prog W) := start_glob fun g d hd => by
    have hd : (if g = 2 ∨ g = 1 then some (tabD wordsTyp) else none) = some d := hd
    split at hd
    · rename_i hc
      obtain rfl := Option.some.inj hd
      rcases hc with rfl | rfl
      · exact tab_frozen h1
      · exact tab_frozen h2
    · cases hd
  have hc := evA_call (E := envTab) mixed xTab_ok Closed.all lib0_ok hs W.heap.size (Mp.start Tryz.prog W) W [] hg (start_hr W) rfl
  refine Calls.mono hc ?_
  rintro e w' ⟨u, σ, rfl, hu, h4, h5⟩
  rw [show u = _ from hu]
  exact ⟨rfl, h5.below (start_hr (E := envTab) W)⟩
end Go.Proofs.YtofdflmobdinaaaGreatDoor
