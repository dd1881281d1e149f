/- SyntaxExamples: the law, out of the evaluator's runs. -/
import Derived.Test.YtcajkijnpknacaaGreatDoorFmtSE
namespace Go.Proofs.YtcajkijnpknacaaGreatDoor
open Go Go.RowKit

noncomputable def form9 : List AV := [.int .i64 5, .str [112], .nilSlice, .int .i64 0, .str [], .int .i64 0, .nilSlice, .nilSlice, .nilSlice]
noncomputable def fmtA (args : List AV) (s : St) : Option (AV × St) := match args with
  | [.agg [.nilSlice, .slice b 0 1 _ 1]] => match s.load b 0 1 with
    | some [.slice b1 0 1 _ 9] => match s.load b1 0 9 with
      | some cs => if AV.sames cs form9 = true then some (.tuple [.str textL, .int .i64 0], s) else none
      | none => none
    | _ => none
  | _ => none

theorem nil_dr {fz : Nat → Option Obj} {v : Value} (h : v = .slice none 0 0) : DR fz (.sl []) v := ⟨none, 0, h, Nat.le_refl _, by decide, .inl rfl⟩

theorem form9_dr {E : Env} {ρ : Mp} {fz : Nat → Option Obj} {vs : List Value} {arr : Array Value} {d : Nat} (h : VRs E ρ form9 vs) (ha : ∀ (j : Nat) (v : Value), vs[j]? = some v → arr[d + j]? = some v) : DRr fz 9 [[.int .i64 5, .str [112], .sl [], .int .i64 0, .str [], .int .i64 0, .sl [], .sl [], .sl []]] arr d := by
  obtain ⟨v0, _, rfl, rfl, v1, _, rfl, ⟨rfl, _⟩, v2, _, rfl, h2, v3, _, rfl, rfl, v4, _, rfl, ⟨rfl, _⟩, v5, _, rfl, rfl, v6, _, rfl, h6, v7, _, rfl, h7, v8, _, rfl, h8, rfl⟩ := h
  exact ⟨rfl, ⟨⟨_, ha 0 _ rfl, rfl⟩, ⟨_, ha 1 _ rfl, rfl, by decide⟩, ⟨_, ha 2 _ rfl, nil_dr h2⟩, ⟨_, ha 3 _ rfl, rfl⟩, ⟨_, ha 4 _ rfl, rfl, by decide⟩, ⟨_, ha 5 _ rfl, rfl⟩, ⟨_, ha 6 _ rfl, nil_dr h6⟩, ⟨_, ha 7 _ rfl, nil_dr h7⟩, ⟨_, ha 8 _ rfl, nil_dr h8⟩, True.intro⟩, True.intro⟩

theorem fmt_callS {E : Env} (hE : E.tab = tabSE) {args : List AV} {s s' : St} {v : AV} (h : fmtA args s = some (v, s')) : CallS E Tryz.prog 4 args s v s' := by
  unfold fmtA at h
  split at h
  · rename_i b c
    split at h
    · rename_i b1 c1 hl1
      split at h
      · rename_i cs hl2
        split at h
        · rename_i hs
          obtain rfl := AV.sames_eq hs
          simp only [Option.some.injEq, Prod.mk.injEq] at h
          obtain ⟨rfl, rfl⟩ := h
          intro base ρ w us hg hr hv
          obtain ⟨_, _, rfl, ⟨_, rfl, x, _, rfl, hx, y, _, rfl, ⟨l, cap, hl, rfl, k1, k2, k3, k4⟩, rfl⟩, rfl⟩ := hv
          obtain ⟨ws, m1, m2, m3⟩ := hr.load hl hl1
          obtain ⟨v1, _, rfl, ⟨l1, cap1, hll, rfl, n1, n2, n3, n4⟩, rfl⟩ := m1
          obtain ⟨ws1, p1, p2, p3⟩ := hr.load hll hl2
          obtain ⟨ra, re, rf, q1, q2⟩ := cell_row_of (m3 0 _ rfl)
          obtain ⟨w0, hw0⟩ : ∃ u, ws1[0]? = some u := ⟨_, List.getElem?_eq_getElem (by omega)⟩
          obtain ⟨sa, se, sf, r1, _⟩ := cell_row_of (p3 0 w0 hw0)
          have hform : DR (fzAll w) formD (.slice (some ⟨l1.g, l1.d + 0, none⟩) 1 cap1) :=
            ⟨_, cap1, rfl, by show 1 ≤ cap1; omega, n3, .inr ⟨l1.g, l1.d + 0, sa, se, sf, 9, rfl, r1, form9_dr p1 fun j u hj => by
              obtain ⟨ta, te, tf, t1, t2⟩ := cell_row_of (p3 j u hj)
              rw [r1] at t1
              simp only [Option.some.injEq, Obj.cells.injEq] at t1
              obtain ⟨rfl, _, _⟩ := t1
              exact t2⟩⟩
          have hd : DARs (fzAll w) [.agg [.sl [], .sl [[formD]]]] [.agg (List.toArray [x, .slice (some ⟨l.g, l.d + 0, none⟩) 1 cap])] :=
            ⟨_, _, rfl, ⟨_, rfl, _, _, rfl, nil_dr hx, _, _, rfl, ⟨_, cap, rfl, by show 1 ≤ cap; omega, k3, .inr ⟨l.g, l.d + 0, ra, re, rf, 1, rfl, q1, rfl, ⟨⟨_, q2, hform⟩, True.intro⟩, True.intro⟩⟩, rfl⟩, rfl⟩
          have ht : TabsAt tabSE w := fun g d hgd => by
            obtain ⟨arr, ty, fr, u, h1, h2, h3⟩ := hg.tab g d (by rw [hE]; exact hgd)
            exact ⟨arr, ty, fr, u, hr.frz _ _ h1, h2, h3.mono fun g o hgo => hr.frz g o hgo⟩
          refine Calls.mono (format_below w _ ht hd) ?_
          rintro e w' ⟨u, rfl, hb, hu⟩
          obtain ⟨xs, rfl, u1, _, rfl, ⟨rfl, hu1⟩, u2, _, rfl, rfl, rfl⟩ := hu ρ.fz
          exact ⟨_, ρ, rfl, ⟨_, rfl, _, _, rfl, ⟨rfl, hu1⟩, _, _, rfl, rfl, rfl⟩, hr.off hb.size (fun b o l hb' hl => hb.block _ (hr.loc_lt hb' hl)) (fun g o hgo => hb.block _ (hr.fz_lt hgo)),
            (Turn.refl hr).off ⟨hb.os, hb.tape, hb.output⟩ hb.size fun g hgl => hb.block g hgl⟩
        · cases h
      · cases h
    · cases h
  · cases h

noncomputable def callLW (f : FuncId) (args : List AV) (s : St) : Option (AV × St) :=
  if f = 4 then fmtA args s
  else match callSE f args s with
    | some r => some r
    | none => tabCall celSE f args s
noncomputable def libLW : Lib := ⟨callLW, fun _ _ _ _ => none, true⟩
theorem libLW_ok {X : Ctx} : LibOk envSE X Tryz.prog (fun _ => True) libLW := by
  refine ⟨fun f args s v s' h => ?_, fun _ _ _ _ _ _ _ _ _ _ h => (by cases h), fun _ _ => True.intro⟩
  have h : callLW f args s = some (v, s') := h
  unfold callLW at h
  split at h
  · rename_i hf
    subst hf
    exact fmt_callS rfl h
  · split at h
    · rename_i r hr
      simp only [Option.some.injEq] at h
      subst h
      exact callSE_ok hr
    · exact tabCall_ok celSE_ok h

noncomputable def isTrueR : Option Resp → Bool
  | some (.call (.bool true) _) => true
  | _ => false
theorem of_isTrue {r : Option Resp} (h : isTrueR r = true) : ∃ s', r = some (.call (.bool true) s') := by
  unfold isTrueR at h
  split at h
  · exact ⟨_, rfl⟩
  · cases h
set_option maxRecDepth 1000000 in
set_option maxHeartbeats 0 in
theorem run_examples : isTrueR (evA xSE Tryz.prog libLW 3000 (.call 3 [] (sE Tryz.prog))) = true := by kernel_rfl

theorem law_examples (W : World) (h1 : TabAt W 4 wordsTyp) (h2 : TabAt W 7 wordsTyp) (h3 : TabAt W 0 wordsSyn) :
    Calls Tryz.prog 3 #[] W fun e W' => e = .returned (.bool true) ∧ Below W.heap.size W W' := by
  obtain ⟨s', hs⟩ := of_isTrue run_examples
  have hg : Glob0 envSE Tryz.prog (Mp.start Tryz.prog W) := start_glob fun g d hd => by
    have hd : tabSE g = some d := hd
    unfold tabSE at hd
    split at hd
    · rename_i hc
      obtain rfl := Option.some.inj hd
      rcases hc with rfl | rfl
      · exact tab_frozen h1
      · exact tab_frozen h2
    · split at hd
      · rename_i hc
        obtain rfl := Option.some.inj hd
        subst hc
        exact tab_frozen h3
      · cases hd
  have hc := evA_call (E := envSE) mixed xSE_ok Closed.all libLW_ok hs W.heap.size (Mp.start Tryz.prog W) W [] hg (start_hr W) rfl
  refine Calls.mono hc ?_
  rintro e w' ⟨u, σ, rfl, hu, h4, h5⟩
  rw [show u = _ from hu]
  exact ⟨rfl, h5.below (start_hr (E := envSE) W)⟩
end Go.Proofs.YtcajkijnpknacaaGreatDoor
