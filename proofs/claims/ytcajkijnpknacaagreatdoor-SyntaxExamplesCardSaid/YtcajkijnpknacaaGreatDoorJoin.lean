/- strings.Join, by the library's contract, as the evaluator is told of it. -/
import Derived.Test.YtcajkijnpknacaaGreatDoorPureW
import Derived.Test.YtcajkijnpknacaaGreatDoorShelfJ
import Derived.Lib.Join
namespace Go.Proofs.YtcajkijnpknacaaGreatDoor
open Go Go.RowKit
variable {E : Env}

noncomputable def joinN (sep : List Nat) : List (List Nat) → List Nat
  | [] => []
  | x :: r => x ++ (r.map (sep ++ ·)).flatten
noncomputable def strsOf : List AV → Option (List (List Nat))
  | [] => some []
  | .str l :: r => match strsOf r with
    | some xs => some (l :: xs)
    | none => none
  | _ => none
noncomputable def joinA (args : List AV) (s : St) : Option (AV × St) := match args with
  | [.slice b o n _ 1, .str sep] => match s.load b o n with
    | some cs => match strsOf cs with
      | some xs => if xs.length ≤ 100000 ∧ (joinN sep xs).length ≤ 100000 then some (.str (joinN sep xs), s) else none
      | none => none
    | none => none
  | _ => none

theorem join_data (sep : List Nat) (xs : List (List Nat)) : Lib.join ((xs.map bsOf).map (·.data.toList)) (bsOf sep).data.toList = (joinN sep xs).map UInt8.ofNat := by
  cases xs with
  | nil => rfl
  | cons x r =>
    rw [List.map_cons, List.map_cons, Lib.join_cons]
    have hb : ∀ l, (bsOf l).data.toList = l.map UInt8.ofNat := fun l => by simp [bsOf]
    simp only [joinN, List.map_append, Lib.joinTail, List.map_flatten, List.map_map, hb]
    congr 2
    exact List.map_congr_left fun a _ => by simp [hb]
theorem joinN_byte {sep : List Nat} {xs : List (List Nat)} (h1 : ∀ x ∈ sep, x < 256) (h2 : ∀ l ∈ xs, ∀ x ∈ l, x < 256) : ∀ x ∈ joinN sep xs, x < 256 := by
  cases xs with
  | nil => intro x hx; cases hx
  | cons y r =>
    intro x hx
    rcases List.mem_append.1 hx with hx | hx
    · exact h2 y List.mem_cons_self x hx
    · obtain ⟨l, hl, hxl⟩ := List.mem_flatten.1 hx
      obtain ⟨z, hz, rfl⟩ := List.mem_map.1 hl
      rcases List.mem_append.1 hxl with h | h
      · exact h1 x h
      · exact h2 z (List.mem_cons_of_mem _ hz) x h
theorem strs_vrs {ρ : Mp} : ∀ {cs : List AV} {xs : List (List Nat)} {vs : List Value}, strsOf cs = some xs → VRs E ρ cs vs → vs = xs.map (fun l => .string (bsOf l)) ∧ ∀ l ∈ xs, ∀ x ∈ l, x < 256
  | [], xs, vs, h, hv => by
    simp only [strsOf, Option.some.injEq] at h
    subst h
    exact ⟨hv, fun l hl => by cases hl⟩
  | c :: cs, xs, vs, h, hv => by
    cases c <;> simp only [strsOf] at h <;> try (cases h; done)
    rename_i l
    split at h
    · rename_i ys hys
      simp only [Option.some.injEq] at h
      subst h
      obtain ⟨v, us, rfl, ⟨rfl, h1⟩, h2⟩ := hv
      obtain ⟨rfl, h3⟩ := strs_vrs hys h2
      refine ⟨rfl, fun l' hl' => ?_⟩
      rcases List.mem_cons.1 hl' with rfl | hl'
      · exact h1
      · exact h3 l' hl'
    · cases h

theorem join_callS {args : List AV} {s s' : St} {v : AV} (h : joinA args s = some (v, s')) : CallS E Tryz.prog 50 args s v s' := by
  unfold joinA at h
  split at h
  · rename_i b o n c sep
    split at h
    · rename_i cs hcs
      split at h
      · rename_i xs hxs
        split at h
        · rename_i hc
          simp only [Option.some.injEq, Prod.mk.injEq] at h
          obtain ⟨rfl, rfl⟩ := h
          intro base ρ w us hg hr hv
          obtain ⟨_, _, rfl, ⟨l, cap, hl, rfl, h1, h2, h3, h4⟩, _, _, rfl, ⟨rfl, hsep⟩, rfl⟩ := hv
          obtain ⟨vs, k1, k2, k3⟩ := hr.load hl hcs
          obtain ⟨rfl, k4⟩ := strs_vrs hxs k1
          have hlen : xs.length = n := by simpa using k2
          have hlt : l.g < w.heap.size := by
            unfold St.load at hcs
            cases hb : s.H.get b with
            | none => simp [hb] at hcs
            | some ob => exact hr.loc_lt hb hl
          subst hlen
          have hj := Tryz.strings_Join l.g (l.d + o) cap (xs.map bsOf) (bsOf sep) w (fun j x hx => by
              rw [List.getElem?_map] at hx
              obtain ⟨y, hy, rfl⟩ := Option.map_eq_some_iff.1 hx
              exact k3 j _ (by rw [List.getElem?_map, hy]; rfl)) hlt (by simp; omega) (by simp; omega) (by rw [join_data]; simp; omega)
          rw [List.length_map] at hj
          refine Calls.mono hj ?_
          rintro e w' ⟨rfl, hb⟩
          rw [join_data]
          exact ⟨_, ρ, rfl, ⟨rfl, joinN_byte hsep k4⟩, hr.off hb.size (fun b o l hb' hl => hb.block _ (hr.loc_lt hb' hl)) (fun g o hgo => hb.block _ (hr.fz_lt hgo)),
            (Turn.refl hr).off ⟨hb.os, hb.tape, hb.output⟩ hb.size fun g hgl => hb.block g hgl⟩
        · cases h
      · cases h
    · cases h
  · cases h
end Go.Proofs.YtcajkijnpknacaaGreatDoor
