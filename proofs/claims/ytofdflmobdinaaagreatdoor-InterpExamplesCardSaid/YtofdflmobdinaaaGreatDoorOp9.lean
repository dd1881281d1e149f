/- Operations: conversions, what lies behind an interface, entries of maps. -/
import Derived.Test.YtofdflmobdinaaaGreatDoorOp8
import Derived.Laws.IdiomStrings
namespace Go.Proofs.YtofdflmobdinaaaGreatDoor
open Go Go.RowKit
variable {E : Env} {X : Ctx}

section
variable {P : Program} {base : Nat} {ρ : Mp} {s s' : St} {w : World} {tm : Tr AV} {a : Act} {o : Oper} {r : ARes}

theorem isU8_ok {e : TypeId} (h : isU8 P e = true) : P.underlying e = some (.int .u8) := by
  unfold isU8 at h
  split at h
  · assumption
  · cases h

theorem mapM_bytes : ∀ {cs : List AV} {l : List Nat} {vs : List Value}, cs.mapM byteN = some l → VRs E ρ cs vs → (∀ x ∈ l, x < 256) ∧ vs = l.map (fun (n : Nat) => Value.int .u8 (n : Int))
  | [], l, vs, h, hv => by simp at h; subst h; rw [show vs = [] from hv]; simp
  | c :: cs, l, vs, h, hv => by
    obtain ⟨v, vs', rfl, h1, h2⟩ := hv
    simp only [List.mapM_cons, Option.bind_eq_bind, Option.pure_def] at h
    cases h3 : byteN c with
    | none => simp [h3] at h
    | some n =>
      cases h4 : cs.mapM byteN with
      | none => simp [h3, h4] at h
      | some ns =>
        simp [h3, h4] at h
        subst h
        obtain ⟨h5, h6⟩ := mapM_bytes h4 h2
        unfold byteN at h3
        split at h3
        · split at h3
          · simp only [Option.some.injEq] at h3
            subst h3
            rw [show v = _ from h1, h6]
            exact ⟨fun x hx => (List.mem_cons.1 hx).elim (fun e => by omega) (h5 x), rfl⟩
          · cases h3
        · cases h3

theorem good_convert (src dst : TypeId) (x : Operand) (ho : o.op = .convert src dst x) (hf : FR E ρ tm a.tmps) (hg : Glob E X P ρ) (h : HR E base ρ s w) (he : evOp P tm s o = some r) : Good E P base ρ s w (execOp a.eval o) r := by
  simp only [evOp, ho] at he
  split at he
  · rename_i i j v h1 h2 h3
    have hv := rd_ok hf hg h3
    split at he
    · rename_i k k' n
      simp only [Option.some.injEq] at he
      subst he
      have hv : a.eval x = _ := hv
      exact Good.same h (u := .int k (k.wrap n)) (by simp [execOp, ho, hv, convert, underlying, h1, h2, Conv.intToInt]) rfl
    · rename_i l
      simp only [Option.some.injEq] at he
      subst he
      obtain ⟨h4, h5⟩ := hv
      exact Good.same h (u := .string (bsOf l)) (by simp [execOp, ho, h4, convert, underlying, h1, h2]) ⟨rfl, h5⟩
    · rename_i k n
      split at he
      · rename_i hn
        simp only [Option.some.injEq] at he
        subst he
        have hv : a.eval x = _ := hv
        refine Good.same h (u := .string (bsOf [n])) ?_ ⟨rfl, by simp; omega⟩
        have henc : Utf8.encode (n : Int) = bsOf [n] := by
          have hval : Utf8.valid (n : Int) = true := by unfold Utf8.valid; simp; omega
          unfold Utf8.encode
          simp [hval, bsOf, hn]
        have hv' : a.eval x = .int k (n : Int) := hv
        simp [execOp, ho, hv', convert, underlying, h1, h2, Conv.intToString, henc]
      · cases he
    · rename_i e l
      split at he
      · rename_i hu
        obtain ⟨hu, hlen⟩ := hu
        simp only [Option.some.injEq] at he
        subst he
        obtain ⟨h4, h5⟩ := hv
        have hr := run_bytes_of_string (P := P) w src dst e (bsOf l) h1 h2 (isU8_ok hu)
        rw [bsOf_size] at hr
        generalize hcap : grownCap w l.length 0 e = cap at hr
        have hge : l.length ≤ cap := by rw [← hcap]; exact grownCap_ge w l.length 0 e
        have hsz : (bytesRow (bsOf l) cap).size = cap := by unfold bytesRow; rw [Array.size_append, Array.size_map, Array.size_replicate, bsOf_size]; simp [bsOf]; omega
        have hcells : ∀ (σ : Mp) (j : Nat) (x : AV), (writeN .leaf 0 (l.map byteA)).get j = some x → j < l.length ∧ ∃ v, (bytesRow (bsOf l) cap)[0 + j]? = some v ∧ VR E σ x v := by
          intro σ j x hj
          rcases writeN_get hj with ⟨_, h7⟩ | ⟨_, h7⟩
          · rw [Nat.sub_zero] at h7
            obtain ⟨hlt, h8⟩ := List.getElem?_eq_some_iff.1 h7
            have hlt' : j < l.length := by simpa using hlt
            have h9 := h5 _ (List.getElem_mem hlt')
            refine ⟨hlt', .int .u8 (l[j] : Int), ?_, ?_⟩
            · unfold bytesRow
              rw [Nat.zero_add, Array.getElem?_append_left (by simp [bsOf]; exact hlt')]
              simp [bsOf, hlt']
              omega
            · rw [← h8]; simp [byteA, VR]
          · cases h7
        have hn := h.pushed (.cells true (writeN .leaf 0 (l.map byteA)) l.length) cap (.cells (bytesRow (bsOf l) cap) e ((bytesRow (bsOf l) cap).size, (bytesRow (bsOf l) cap).size + 1)) (w' := w.drew.alloc (.cells (bytesRow (bsOf l) cap) e ((bytesRow (bsOf l) cap).size, (bytesRow (bsOf l) cap).size + 1))) ⟨rfl, rfl, rfl⟩ rfl fun hq => ⟨_, e, _, hq, by simp [hsz], hge, hcells _, fun hh => by cases hh⟩
        refine ⟨.slice (some ⟨w.heap.size, 0, none⟩) l.length cap, _, _, by simp only [execOp, ho, h4]; simp [hr], ⟨_, cap, Mp.on_same _ _ _, rfl, Nat.le_refl _, hge, ?_, by simp⟩, hn.1, hn.2⟩
        rw [← hcap]
        exact grownCap_le_maxLen w _ _ _ (by unfold maxLen; omega)
      · cases he
    · rename_i e
      split at he
      · rename_i hu
        simp only [Option.some.injEq] at he
        subst he
        have hv : a.eval x = _ := hv
        exact Good.same h (u := .string (bsOf [])) (by simp [execOp, ho, hv, convert, underlying, h1, h2, isU8_ok hu, Conv.bytesToString, bsOf]; rfl) ⟨rfl, by simp⟩
      · cases he
    · rename_i e b q n c
      split at he
      · rename_i hu
        split at he
        · rename_i cs h4
          split at he
          · rename_i l h5
            simp only [Option.some.injEq] at he
            subst he
            obtain ⟨lc, cap, h6, h7, _⟩ := hv
            obtain ⟨vs, h8, h9, h10⟩ := h.load h6 h4
            obtain ⟨h11, h12⟩ := mapM_bytes h5 h8
            have hlen : (l.map UInt8.ofNat).length = n := by rw [List.length_map, ← h9, h12, List.length_map]
            have hr := run_convert_bytes_back (P := P) w src dst e ⟨lc.g, lc.d + q, none⟩ cap (l.map UInt8.ofNat) h1 (isU8_ok hu) h2 (fun j hj => by
              rw [Addr.add_lit]
              apply h10
              rw [h12, List.getElem?_map]
              have hj' : j < l.length := by simpa using hj
              rw [List.getElem?_eq_getElem hj']
              have := h11 _ (List.getElem_mem hj')
              simp
              omega)
            rw [hlen] at hr
            exact Good.same h (u := .string (bsOf l)) (by simp only [execOp, ho, h7]; simp [hr, bsOf]) ⟨rfl, h11⟩
          · cases he
        · cases he
      · cases he
    · cases he
  · cases he
end
end Go.Proofs.YtofdflmobdinaaaGreatDoor
