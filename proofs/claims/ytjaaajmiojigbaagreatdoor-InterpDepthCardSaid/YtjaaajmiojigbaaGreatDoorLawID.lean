/- InterpDepth: the law, out of the closed runs. -/
import Derived.Test.YtjaaajmiojigbaaGreatDoorRIa
import Derived.Test.YtjaaajmiojigbaaGreatDoorRIb
import Derived.Test.YtjaaajmiojigbaaGreatDoorRIc
import Derived.Test.YtjaaajmiojigbaaGreatDoorRId
import Derived.Test.YtjaaajmiojigbaaGreatDoorRIe
import Derived.Test.YtjaaajmiojigbaaGreatDoorRIf
import Derived.Test.YtjaaajmiojigbaaGreatDoorRIg
import Derived.Test.YtjaaajmiojigbaaGreatDoorRIh
import Derived.Test.YtjaaajmiojigbaaGreatDoorRIi
import Derived.Test.YtjaaajmiojigbaaGreatDoorRIj
import Derived.Test.YtjaaajmiojigbaaGreatDoorRIk
import Derived.Test.YtjaaajmiojigbaaGreatDoorRIl
import Derived.Test.YtjaaajmiojigbaaGreatDoorRIm
import Derived.Test.YtjaaajmiojigbaaGreatDoorTo
import Derived.Test.YtjaaajmiojigbaaGreatDoorFrOk
import Derived.Test.YtjaaajmiojigbaaGreatDoorMod
namespace Go.Proofs.YtjaaajmiojigbaaGreatDoor
open Go Go.RowKit

theorem lib0_ok {E : Env} {X : Ctx} {P : Program} : LibOk E X P (fun _ => True) lib0 :=
  ⟨fun _ _ _ _ _ h => (by cases h), fun _ _ _ _ _ _ _ _ _ _ h => (by cases h), fun _ _ => True.intro⟩
/-- Both tables; the number of ticks. -/
noncomputable def envD (t : Int) : Env := ⟨fun i => if i = 2 then .int .i64 t else tabD wordsTyp, fun g => if g = 2 ∨ g = 0 then some (tabD wordsTyp) else none⟩
theorem words_ok : wordsTyp.length ≤ maxRow ∧ ∀ l ∈ wordsTyp, l.length ≤ maxRow := by decide +kernel
theorem xTab_ok (t : Int) : XOk (envD t) xTab := by
  refine ⟨fun e v h => ?_, fun i k h => ?_, fun g i h => ?_⟩
  · rcases List.mem_append.1 h with h | h
    · exact tabFacts_ok (F := (envD t).val) rfl e v h
    · exact tabFacts_ok (F := (envD t).val) rfl e v h
  · match i, h with
    | 0, h => obtain rfl := Option.some.inj h; exact tab_kind rfl _ words_ok.1 words_ok.2
    | 1, h => obtain rfl := Option.some.inj h; exact tab_kind rfl _ words_ok.1 words_ok.2
    | 2, h => obtain rfl := Option.some.inj h; exact rfl
    | n + 3, h => cases (show (none : Option Kd) = some k from h)
  · simp only [xTab, List.mem_cons, Prod.mk.injEq, List.not_mem_nil, or_false] at h
    rcases h with ⟨rfl, rfl⟩ | ⟨rfl, rfl⟩
    · exact ⟨rfl, fun x e => by cases e⟩
    · exact ⟨rfl, fun x e => by cases e⟩
theorem glob_of {t : Int} {W : World} (h1 : TabAt W 2 wordsTyp) (h2 : TabAt W 0 wordsTyp) : Glob0 (envD t) Tryz.prog (Mp.start Tryz.prog W) := start_glob fun g d hd => by
  have hd : (if g = 2 ∨ g = 0 then some (tabD wordsTyp) else none) = some d := hd
  split at hd
  · rename_i hc
    obtain rfl := Option.some.inj hd
    rcases hc with rfl | rfl
    · obtain ⟨arr, Tt, fr, u, a, b, c⟩ := tab_frozen h1
      exact ⟨arr, Tt, fr, u, a, b, .of c⟩
    · obtain ⟨arr, Tt, fr, u, a, b, c⟩ := tab_frozen h2
      exact ⟨arr, Tt, fr, u, a, b, .of c⟩
  · cases hd
/-- The sanity check, told: true, and nothing old is turned. -/
theorem check_callS {t : Int} {s : St} : CallS (envD t) Tryz.prog 5 [] s (.bool true) s := by
  obtain ⟨s', hs⟩ := of_isTrue run_check
  intro base ρ w us hg hr hv
  obtain rfl : us = [] := hv
  have hg0 : Glob0 (envD t) Tryz.prog (Mp.start Tryz.prog w) := start_glob fun g d hd => by
    obtain ⟨arr, ty, fr, u, h1, h2, h3⟩ := hg.tab g d hd
    exact ⟨arr, ty, fr, u, hr.frz _ _ h1, h2, h3.mono fun g o hgo => hr.frz g o hgo⟩
  refine Calls.mono (evA_call (E := envD t) mixed (xTab_ok t) Closed.all lib0_ok hs w.heap.size (Mp.start Tryz.prog w) w [] hg0 (start_hr w) rfl) ?_
  rintro e w' ⟨u, σ, rfl, hu, h4, h5⟩
  have hb := h5.below (start_hr (E := envD t) w)
  exact ⟨u, ρ, rfl, hu, hr.off hb.size (fun b o l hb' hl => hb.block _ (hr.loc_lt hb' hl)) (fun g o hgo => hb.block _ (hr.fz_lt hgo)),
    (Turn.refl hr).off ⟨hb.os, hb.tape, hb.output⟩ hb.size fun g hgl => hb.block g hgl⟩
theorem callC_ok {E : Env} {f : FuncId} {args : List AV} {s s' : St} {v : AV} (h : callC f args s = some (v, s')) : CallS E Tryz.prog f args s v s' := by
  unfold callC at h
  split at h
  · rename_i hf
    subst hf
    exact clone_callS cloneI h
  · split at h
    · rename_i hf
      subst hf
      exact clone_callS cloneB h
    · cases h
theorem libC_ok {E : Env} {X : Ctx} : LibOk E X Tryz.prog (fun _ => True) libC :=
  ⟨fun _ _ _ _ _ h => callC_ok h, fun _ _ _ _ _ _ _ _ _ _ h => (by cases h), fun _ _ => True.intro⟩
theorem told_of {t : Int} {R : Told} (h : toldRun R (evA xTab Tryz.prog libC 3000 (.call R.f R.args R.st)) = true) {args : List AV} {s s' : St} {v : AV} (h0 : toldA Tryz.prog.globals.size R args s = some (v, s')) : CallS (envD t) Tryz.prog R.f args s v s' :=
  told_ok (told_run mixed (xTab_ok t) Closed.all libC_ok h) h0
theorem libD_ok {t n : Int} (hn : t % 51 = n) {X : Ctx} : LibOk (envD t) X Tryz.prog (fun _ => True) (libD n) := by
  refine ⟨fun f args s v s' h0 => ?_, fun _ _ _ _ _ _ _ _ _ _ h => (by cases h), fun _ _ => True.intro⟩
  have h : callD n f args s = some (v, s') := h0
  clear h0
  unfold callD at h
  split at h
  · rename_i hf
    subst hf
    split at h
    · rename_i i m
      split at h
      · rename_i hc
        obtain ⟨rfl, rfl⟩ := hc
        simp only [Option.some.injEq, Prod.mk.injEq] at h
        obtain ⟨rfl, rfl⟩ := h
        intro base ρ w us hg hr hv
        obtain ⟨u0, _, rfl, ⟨d, h1, h2⟩, _, _, rfl, rfl, rfl⟩ := hv
        cases (show some (D.int .i64 t) = some d from h1)
        have h2 : u0 = .int .i64 t := h2
        subst h2
        refine Calls.mono (mod_any t 51 (by omega) (by omega) w) ?_
        rintro e w' ⟨rfl, rfl⟩
        exact ⟨_, ρ, rfl, by rw [hn]; rfl, hr, Turn.refl hr⟩
      · cases h
    · cases h
  · split at h
    · rename_i hf
      subst hf
      split at h
      · simp only [Option.some.injEq, Prod.mk.injEq] at h
        obtain ⟨rfl, rfl⟩ := h
        exact check_callS
      · cases h
    · split at h
      · rename_i hf
        subst hf
        exact told_of told0_run h
      · split at h
        · rename_i hf
          subst hf
          exact told_of told1_run h
        · split at h
          · rename_i hf
            subst hf
            exact told_of told2_run h
          · split at h
            · rename_i hf
              subst hf
              exact told_of told3_run h
            · exact callC_ok h
theorem run_all (n : Int) (hn : 0 ≤ n ∧ n < 51) : isTrueR (evA xTab Tryz.prog (libD n) 3000 (.call 3 [.sx (.var 2)] (sE Tryz.prog))) = true := by
  obtain ⟨k, rfl⟩ : ∃ k : Nat, n = (k : Int) := ⟨n.toNat, by omega⟩
  have hk : k < 51 := by omega
  match k, hk with
  | 0, _ => exact run_0
  | 1, _ => exact run_1
  | 2, _ => exact run_2
  | 3, _ => exact run_3
  | 4, _ => exact run_4
  | 5, _ => exact run_5
  | 6, _ => exact run_6
  | 7, _ => exact run_7
  | 8, _ => exact run_8
  | 9, _ => exact run_9
  | 10, _ => exact run_10
  | 11, _ => exact run_11
  | 12, _ => exact run_12
  | 13, _ => exact run_13
  | 14, _ => exact run_14
  | 15, _ => exact run_15
  | 16, _ => exact run_16
  | 17, _ => exact run_17
  | 18, _ => exact run_18
  | 19, _ => exact run_19
  | 20, _ => exact run_20
  | 21, _ => exact run_21
  | 22, _ => exact run_22
  | 23, _ => exact run_23
  | 24, _ => exact run_24
  | 25, _ => exact run_25
  | 26, _ => exact run_26
  | 27, _ => exact run_27
  | 28, _ => exact run_28
  | 29, _ => exact run_29
  | 30, _ => exact run_30
  | 31, _ => exact run_31
  | 32, _ => exact run_32
  | 33, _ => exact run_33
  | 34, _ => exact run_34
  | 35, _ => exact run_35
  | 36, _ => exact run_36
  | 37, _ => exact run_37
  | 38, _ => exact run_38
  | 39, _ => exact run_39
  | 40, _ => exact run_40
  | 41, _ => exact run_41
  | 42, _ => exact run_42
  | 43, _ => exact run_43
  | 44, _ => exact run_44
  | 45, _ => exact run_45
  | 46, _ => exact run_46
  | 47, _ => exact run_47
  | 48, _ => exact run_48
  | 49, _ => exact run_49
  | 50, _ => exact run_50
  | k + 51, h => omega
theorem law_depth (t : Int) (W : World) (h1 : TabAt W 2 wordsTyp) (h2 : TabAt W 0 wordsTyp) :
    Calls Tryz.prog 3 #[.int .i64 t] W fun e W' => e = .returned (.bool true) ∧ Below W.heap.size W W' := by
  obtain ⟨s', hs⟩ := of_isTrue (run_all (t % 51) ⟨Int.emod_nonneg _ (by omega), Int.emod_lt_of_pos _ (by omega)⟩)
  have hc := evA_call (E := envD t) mixed (xTab_ok t) Closed.all (libD_ok rfl) hs W.heap.size (Mp.start Tryz.prog W) W [.int .i64 t] (glob_of h1 h2) (start_hr W) ⟨_, _, rfl, ⟨_, rfl, rfl⟩, rfl⟩
  refine Calls.mono hc ?_
  rintro e w' ⟨u, σ, rfl, hu, h4, h5⟩
  rw [show u = _ from hu]
  exact ⟨rfl, h5.below (start_hr (E := envD t) W)⟩
end Go.Proofs.YtjaaajmiojigbaaGreatDoor
