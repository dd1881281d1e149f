/- SyntaxExamples: the tables, the one form that is formatted, and the closed runs. -/
import Derived.Test.YtcajkijnpknacaaGreatDoorJoin
import Derived.Test.YtcajkijnpknacaaGreatDoorRead
import Derived.Test.YtcajkijnpknacaaGreatDoorTabs
namespace Go.Proofs.YtcajkijnpknacaaGreatDoor
open Go Go.RowKit

noncomputable def wordsSyn : List (List Nat) := [[97, 98, 115, 116, 114, 97, 99, 116], [115, 116, 114, 117, 99, 116], [109, 101, 116, 104, 111, 100], [100, 101, 108, 101, 116, 101], [108, 111, 97, 100], [117, 110, 108, 111, 97, 100], [101, 118, 97, 108], [112, 97, 99, 107, 97, 103, 101], [116, 97, 115, 107], [108, 101, 116], [97, 115, 115, 105, 103, 110], [100, 111], [105, 102], [119, 104, 105, 108, 101], [110, 101, 119], [103, 101, 116], [115, 101, 116], [116, 117, 112, 108, 101], [101, 108, 101, 109, 101, 110, 116], [105, 115], [115, 97, 109, 101], [97, 100, 100], [115, 117, 98], [109, 117, 108], [108, 101, 115, 115], [110, 111, 116], [99, 111, 110, 99, 97, 116], [111, 117, 116, 112, 117, 116], [102, 97, 105, 108], [108, 97, 116, 101, 115, 116], [101, 100, 105, 116], [112, 97, 117, 115, 101], [116, 114, 117, 101], [102, 97, 108, 115, 101], [110, 105, 108], [117, 110, 105, 111, 110], [101, 120, 105, 115, 116, 115], [65, 110, 121], [78, 101, 118, 101, 114]]
noncomputable def formD : D := .sl [[.int .i64 5, .str [112], .sl [], .int .i64 0, .str [], .int .i64 0, .sl [], .sl [], .sl []]]
noncomputable def tabSE (g : Nat) : Option D := if g = 4 ∨ g = 7 then some (tabD wordsTyp) else if g = 0 then some (tabD wordsSyn) else none
noncomputable def valSE : Nat → D
  | 0 => tabD wordsTyp
  | 1 => tabD wordsTyp
  | 2 => tabD wordsSyn
  | 4 => .sl [[formD]]
  | 5 => formD
  | _ => .sl []
noncomputable def envSE : Env := ⟨valSE, tabSE⟩
noncomputable def i0 : SX := .int .i64 0
noncomputable def factsFm : List (SX × SX) := [(.len (.var 3), i0), (.len (.var 4), .int .i64 1), (.cell (.var 4) i0 0, .var 5), (.len (.var 5), .int .i64 1), (.cell (.var 5) i0 0, .int .i64 5), (.cell (.var 5) i0 1, .str [112]), (.cell (.var 5) i0 2, .var 6), (.cell (.var 5) i0 3, i0), (.cell (.var 5) i0 4, .str []), (.cell (.var 5) i0 5, i0), (.cell (.var 5) i0 6, .var 7), (.cell (.var 5) i0 7, .var 8), (.cell (.var 5) i0 8, .var 9), (.len (.var 6), i0), (.len (.var 7), i0), (.len (.var 8), i0), (.len (.var 9), i0)]
noncomputable def kType : List Kd := [.int .i64, .str, .int .i64, .sl 1]
noncomputable def ktSE : List (List Kd) := [[.str], kType, .str :: kType, [.int .i64, .str, .int .i64, .str] ++ kType ++ [.sl 3, .sl 4], [.int .i64, .str, .sl 0] ++ kType ++ [.sl 2, .sl 3], [.sl 4], [.str, .sl 4]]
noncomputable def xSE : Ctx := ⟨tabFacts 0 wordsTyp ++ tabFacts 1 wordsTyp ++ tabFacts 2 wordsSyn ++ factsFm, [.sl 0, .sl 0, .sl 0, .sl 6, .sl 5, .sl 4, .sl 0, .sl 1, .sl 2, .sl 3], ktSE, [(4, 0), (7, 1), (0, 2)]⟩

theorem factsFm_ok (e v : SX) (h : (e, v) ∈ factsFm) : den valSE e = den valSE v := by
  simp only [factsFm, List.mem_cons, Prod.mk.injEq, List.not_mem_nil, or_false] at h
  rcases h with ⟨rfl, rfl⟩ | ⟨rfl, rfl⟩ | ⟨rfl, rfl⟩ | ⟨rfl, rfl⟩ | ⟨rfl, rfl⟩ | ⟨rfl, rfl⟩ | ⟨rfl, rfl⟩ | ⟨rfl, rfl⟩ | ⟨rfl, rfl⟩ | ⟨rfl, rfl⟩ | ⟨rfl, rfl⟩ | ⟨rfl, rfl⟩ | ⟨rfl, rfl⟩ | ⟨rfl, rfl⟩ | ⟨rfl, rfl⟩ | ⟨rfl, rfl⟩ | ⟨rfl, rfl⟩ <;> rfl
theorem kindNil (T : Nat) : HasK ktSE (.sl []) (.sl T) := ⟨T, rfl, True.intro⟩
theorem kindForm : HasK ktSE formD (.sl 4) := ⟨4, rfl, ⟨_, _, rfl, rfl, _, _, rfl, rfl, _, _, rfl, kindNil _, _, _, rfl, rfl, _, _, rfl, rfl, _, _, rfl, rfl, _, _, rfl, kindNil _, _, _, rfl, kindNil _, _, _, rfl, kindNil _, rfl⟩, True.intro⟩
theorem xSE_ok : XOk envSE xSE := by
  refine ⟨fun e v h => ?_, fun i k h => ?_, fun g i h => ?_⟩
  · rcases List.mem_append.1 h with h | h
    · rcases List.mem_append.1 h with h | h
      · rcases List.mem_append.1 h with h | h
        · exact tabFacts_ok (F := envSE.val) rfl e v h
        · exact tabFacts_ok (F := envSE.val) rfl e v h
      · exact tabFacts_ok (F := envSE.val) rfl e v h
    · exact factsFm_ok e v h
  · match i, h with
    | 0, h => obtain rfl := Option.some.inj h; exact tab_kind rfl wordsTyp
    | 1, h => obtain rfl := Option.some.inj h; exact tab_kind rfl wordsTyp
    | 2, h => obtain rfl := Option.some.inj h; exact tab_kind rfl wordsSyn
    | 3, h => obtain rfl := Option.some.inj h; exact kindNil _
    | 4, h => obtain rfl := Option.some.inj h; exact ⟨5, rfl, ⟨_, _, rfl, kindForm, rfl⟩, True.intro⟩
    | 5, h => obtain rfl := Option.some.inj h; exact kindForm
    | 6, h => obtain rfl := Option.some.inj h; exact kindNil _
    | 7, h => obtain rfl := Option.some.inj h; exact kindNil _
    | 8, h => obtain rfl := Option.some.inj h; exact kindNil _
    | 9, h => obtain rfl := Option.some.inj h; exact kindNil _
    | n + 10, h => cases (show (none : Option Kd) = some k from h)
  · simp only [xSE, List.mem_cons, Prod.mk.injEq, List.not_mem_nil, or_false] at h
    rcases h with ⟨rfl, rfl⟩ | ⟨rfl, rfl⟩ | ⟨rfl, rfl⟩ <;> rfl

noncomputable def callSE (f : FuncId) (args : List AV) (s : St) : Option (AV × St) :=
  if f = 13 then (match args with
    | [.str l] => if l.length ≤ 1000000 then some (readA s l) else none
    | _ => none)
  else if f = 50 then joinA args s
  else none
noncomputable def libSE : Lib := ⟨callSE, fun _ _ _ _ => none, true⟩
theorem callSE_ok {E : Env} {f : FuncId} {args : List AV} {s s' : St} {v : AV} (h : callSE f args s = some (v, s')) : CallS E Tryz.prog f args s v s' := by
  unfold callSE at h
  split at h
  · rename_i hf
    subst hf
    split at h
    · split at h
      · rename_i hc
        have := read_callS (E := E) (s := s) hc
        simp only [Option.some.injEq] at h
        rw [h] at this
        exact this
      · cases h
    · cases h
  · split at h
    · rename_i hf
      subst hf
      exact join_callS h
    · cases h
theorem libSE_ok {E : Env} {X : Ctx} : LibOk E X Tryz.prog (fun _ => True) libSE :=
  ⟨fun _ _ _ _ _ h => callSE_ok h, fun _ _ _ _ _ _ _ _ _ _ h => (by cases h), fun _ _ => True.intro⟩

set_option maxRecDepth 1000000 in
set_option maxHeartbeats 0 in
theorem run_check : frzR (evA xSE Tryz.prog libSE 3000 (.call 6 [] (sE Tryz.prog))) = some (.sx (.bool true)) := by kernel_rfl
set_option maxRecDepth 1000000 in
set_option maxHeartbeats 0 in
theorem run_validate : frzR (evA xSE Tryz.prog libSE 3000 (.call 9 [.agg [.sx (.var 3), .sx (.var 4)]] (sE Tryz.prog))) = some (.sx (.int .i64 0)) := by kernel_rfl
set_option maxRecDepth 1000000 in
set_option maxHeartbeats 0 in
theorem run_f0 : frzR (evA xSE Tryz.prog libSE 3000 (.call 8 [.str [40, 116, 97, 115, 107, 32, 40, 101, 118, 97, 108, 32, 120, 41, 41]] (sE Tryz.prog))) = some (.agg [.sx (.int .i64 5), .sx (.int .i64 12)]) := by kernel_rfl
set_option maxRecDepth 1000000 in
set_option maxHeartbeats 0 in
theorem run_f1 : frzR (evA xSE Tryz.prog libSE 3000 (.call 8 [.str [40, 116, 97, 115, 107, 32, 40, 101, 118, 97, 108, 32, 40, 108, 101, 116, 32, 49, 120, 32, 50, 32, 51, 41, 41, 41]] (sE Tryz.prog))) = some (.agg [.sx (.int .i64 2), .sx (.int .i64 17)]) := by kernel_rfl
set_option maxRecDepth 1000000 in
set_option maxHeartbeats 0 in
theorem run_f2 : frzR (evA xSE Tryz.prog libSE 3000 (.call 8 [.str [40, 116, 97, 115, 107, 32, 40, 101, 118, 97, 108, 32, 40, 105, 102, 32, 49, 32, 50, 41, 41, 41]] (sE Tryz.prog))) = some (.agg [.sx (.int .i64 2), .sx (.int .i64 12)]) := by kernel_rfl
set_option maxRecDepth 1000000 in
set_option maxHeartbeats 0 in
theorem run_f3 : frzR (evA xSE Tryz.prog libSE 3000 (.call 8 [.str [40, 116, 97, 115, 107, 41, 32, 40, 112, 97, 99, 107, 97, 103, 101, 32, 112, 41]] (sE Tryz.prog))) = some (.agg [.sx (.int .i64 2), .sx (.int .i64 7)]) := by kernel_rfl
set_option maxRecDepth 1000000 in
set_option maxHeartbeats 0 in
theorem run_f4 : frzR (evA xSE Tryz.prog libSE 3000 (.call 8 [.str [40, 112, 97, 99, 107, 97, 103, 101, 32, 112, 41, 32, 40, 112, 97, 99, 107, 97, 103, 101, 32, 112, 41]] (sE Tryz.prog))) = some (.agg [.sx (.int .i64 6), .sx (.int .i64 21)]) := by kernel_rfl
set_option maxRecDepth 1000000 in
set_option maxHeartbeats 0 in
theorem run_f5 : frzR (evA xSE Tryz.prog libSE 3000 (.call 8 [.str [40, 112, 97, 99, 107, 97, 103, 101, 32, 112, 32, 40, 108, 111, 97, 100, 32, 113, 41, 41]] (sE Tryz.prog))) = some (.agg [.sx (.int .i64 2), .sx (.int .i64 11)]) := by kernel_rfl
set_option maxRecDepth 1000000 in
set_option maxHeartbeats 0 in
theorem run_f6 : frzR (evA xSE Tryz.prog libSE 3000 (.call 8 [.str [40, 116, 97, 115, 107, 32, 40, 115, 116, 114, 117, 99, 116, 32, 83, 32, 40, 65, 32, 65, 41, 32, 65, 110, 121, 32, 40, 41, 41, 41]] (sE Tryz.prog))) = some (.agg [.sx (.int .i64 6), .sx (.int .i64 19)]) := by kernel_rfl
set_option maxRecDepth 1000000 in
set_option maxHeartbeats 0 in
theorem run_f7 : frzR (evA xSE Tryz.prog libSE 3000 (.call 8 [.str [40, 116, 97, 115, 107, 32, 40, 101, 118, 97, 108, 32, 40, 102, 32, 49, 32, 50, 32, 51, 32, 52, 32, 53, 32, 54, 32, 55, 41, 41, 41]] (sE Tryz.prog))) = some (.agg [.sx (.int .i64 4), .sx (.int .i64 12)]) := by kernel_rfl
set_option maxRecDepth 1000000 in
set_option maxHeartbeats 0 in
theorem run_f8 : frzR (evA xSE Tryz.prog libSE 3000 (.call 8 [.str [40, 116, 97, 115, 107, 32, 40, 101, 118, 97, 108, 32, 40, 101, 100, 105, 116, 32, 40, 101, 118, 97, 108, 32, 49, 41, 41, 41, 41]] (sE Tryz.prog))) = some (.agg [.sx (.int .i64 2), .sx (.int .i64 18)]) := by kernel_rfl
set_option maxRecDepth 1000000 in
set_option maxHeartbeats 0 in
theorem run_f9 : frzR (evA xSE Tryz.prog libSE 3000 (.call 8 [.str [40, 116, 97, 115, 107, 32, 40, 101, 118, 97, 108, 32, 40, 101, 108, 101, 109, 101, 110, 116, 32, 49, 32, 54, 41, 41, 41]] (sE Tryz.prog))) = some (.agg [.sx (.int .i64 2), .sx (.int .i64 23)]) := by kernel_rfl
set_option maxRecDepth 1000000 in
set_option maxHeartbeats 0 in
theorem run_f10 : frzR (evA xSE Tryz.prog libSE 3000 (.call 8 [.str [40, 101, 118, 97, 108, 32, 49, 41]] (sE Tryz.prog))) = some (.agg [.sx (.int .i64 2), .sx (.int .i64 0)]) := by kernel_rfl
set_option maxRecDepth 1000000 in
set_option maxHeartbeats 0 in
theorem run_f11 : frzR (evA xSE Tryz.prog libSE 3000 (.call 8 [.str [40, 116, 97, 115, 107, 32, 40, 101, 118, 97, 108, 32, 40, 57, 120, 32, 49, 41, 41, 41]] (sE Tryz.prog))) = some (.agg [.sx (.int .i64 2), .sx (.int .i64 13)]) := by kernel_rfl
set_option maxRecDepth 1000000 in
set_option maxHeartbeats 0 in
theorem run_f12 : frzR (evA xSE Tryz.prog libSE 3000 (.call 8 [.str [40, 116, 97, 115, 107, 32, 40, 101, 118, 97, 108, 32, 40, 41, 41, 41]] (sE Tryz.prog))) = some (.agg [.sx (.int .i64 2), .sx (.int .i64 12)]) := by kernel_rfl

noncomputable def celSE : List CE := [⟨6, [], .bool true⟩,
  ⟨8, [.sx (.str [40, 116, 97, 115, 107, 32, 40, 101, 118, 97, 108, 32, 120, 41, 41])], .agg [.int .i64 5, .int .i64 12]⟩,
  ⟨8, [.sx (.str [40, 116, 97, 115, 107, 32, 40, 101, 118, 97, 108, 32, 40, 108, 101, 116, 32, 49, 120, 32, 50, 32, 51, 41, 41, 41])], .agg [.int .i64 2, .int .i64 17]⟩,
  ⟨8, [.sx (.str [40, 116, 97, 115, 107, 32, 40, 101, 118, 97, 108, 32, 40, 105, 102, 32, 49, 32, 50, 41, 41, 41])], .agg [.int .i64 2, .int .i64 12]⟩,
  ⟨8, [.sx (.str [40, 116, 97, 115, 107, 41, 32, 40, 112, 97, 99, 107, 97, 103, 101, 32, 112, 41])], .agg [.int .i64 2, .int .i64 7]⟩,
  ⟨8, [.sx (.str [40, 112, 97, 99, 107, 97, 103, 101, 32, 112, 41, 32, 40, 112, 97, 99, 107, 97, 103, 101, 32, 112, 41])], .agg [.int .i64 6, .int .i64 21]⟩,
  ⟨8, [.sx (.str [40, 112, 97, 99, 107, 97, 103, 101, 32, 112, 32, 40, 108, 111, 97, 100, 32, 113, 41, 41])], .agg [.int .i64 2, .int .i64 11]⟩,
  ⟨8, [.sx (.str [40, 116, 97, 115, 107, 32, 40, 115, 116, 114, 117, 99, 116, 32, 83, 32, 40, 65, 32, 65, 41, 32, 65, 110, 121, 32, 40, 41, 41, 41])], .agg [.int .i64 6, .int .i64 19]⟩,
  ⟨8, [.sx (.str [40, 116, 97, 115, 107, 32, 40, 101, 118, 97, 108, 32, 40, 102, 32, 49, 32, 50, 32, 51, 32, 52, 32, 53, 32, 54, 32, 55, 41, 41, 41])], .agg [.int .i64 4, .int .i64 12]⟩,
  ⟨8, [.sx (.str [40, 116, 97, 115, 107, 32, 40, 101, 118, 97, 108, 32, 40, 101, 100, 105, 116, 32, 40, 101, 118, 97, 108, 32, 49, 41, 41, 41, 41])], .agg [.int .i64 2, .int .i64 18]⟩,
  ⟨8, [.sx (.str [40, 116, 97, 115, 107, 32, 40, 101, 118, 97, 108, 32, 40, 101, 108, 101, 109, 101, 110, 116, 32, 49, 32, 54, 41, 41, 41])], .agg [.int .i64 2, .int .i64 23]⟩,
  ⟨8, [.sx (.str [40, 101, 118, 97, 108, 32, 49, 41])], .agg [.int .i64 2, .int .i64 0]⟩,
  ⟨8, [.sx (.str [40, 116, 97, 115, 107, 32, 40, 101, 118, 97, 108, 32, 40, 57, 120, 32, 49, 41, 41, 41])], .agg [.int .i64 2, .int .i64 13]⟩,
  ⟨8, [.sx (.str [40, 116, 97, 115, 107, 32, 40, 101, 118, 97, 108, 32, 40, 41, 41, 41])], .agg [.int .i64 2, .int .i64 12]⟩]
theorem celSE_ok : ∀ c ∈ celSE, c.Ok envSE Tryz.prog := by
  intro c hc
  simp only [celSE, List.mem_cons, List.not_mem_nil, or_false] at hc
  rcases hc with rfl | rfl | rfl | rfl | rfl | rfl | rfl | rfl | rfl | rfl | rfl | rfl | rfl | rfl
  · exact ⟨_, _, rfl, rfl, pureC_run mixed xSE_ok Closed.all libSE_ok run_check rfl rfl⟩
  · exact ⟨_, _, rfl, rfl, pureC_run mixed xSE_ok Closed.all libSE_ok run_f0 rfl rfl⟩
  · exact ⟨_, _, rfl, rfl, pureC_run mixed xSE_ok Closed.all libSE_ok run_f1 rfl rfl⟩
  · exact ⟨_, _, rfl, rfl, pureC_run mixed xSE_ok Closed.all libSE_ok run_f2 rfl rfl⟩
  · exact ⟨_, _, rfl, rfl, pureC_run mixed xSE_ok Closed.all libSE_ok run_f3 rfl rfl⟩
  · exact ⟨_, _, rfl, rfl, pureC_run mixed xSE_ok Closed.all libSE_ok run_f4 rfl rfl⟩
  · exact ⟨_, _, rfl, rfl, pureC_run mixed xSE_ok Closed.all libSE_ok run_f5 rfl rfl⟩
  · exact ⟨_, _, rfl, rfl, pureC_run mixed xSE_ok Closed.all libSE_ok run_f6 rfl rfl⟩
  · exact ⟨_, _, rfl, rfl, pureC_run mixed xSE_ok Closed.all libSE_ok run_f7 rfl rfl⟩
  · exact ⟨_, _, rfl, rfl, pureC_run mixed xSE_ok Closed.all libSE_ok run_f8 rfl rfl⟩
  · exact ⟨_, _, rfl, rfl, pureC_run mixed xSE_ok Closed.all libSE_ok run_f9 rfl rfl⟩
  · exact ⟨_, _, rfl, rfl, pureC_run mixed xSE_ok Closed.all libSE_ok run_f10 rfl rfl⟩
  · exact ⟨_, _, rfl, rfl, pureC_run mixed xSE_ok Closed.all libSE_ok run_f11 rfl rfl⟩
  · exact ⟨_, _, rfl, rfl, pureC_run mixed xSE_ok Closed.all libSE_ok run_f12 rfl rfl⟩
end Go.Proofs.YtcajkijnpknacaaGreatDoor
