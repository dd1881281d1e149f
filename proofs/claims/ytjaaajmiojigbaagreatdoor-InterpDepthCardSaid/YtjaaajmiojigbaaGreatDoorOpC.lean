/- Append. -/
import Derived.Test.YtjaaajmiojigbaaGreatDoorOpB
namespace Go.Proofs.YtjaaajmiojigbaaGreatDoor
open Go Go.RowKit
variable {E : Env} {X : Ctx}

section
variable {P : Program} {base : Nat} {ρ : Mp} {s s' : St} {w : World} {tm : Tr AV} {a : Act} {o : Oper} {r : ARes}

theorem run_app_room {t u ty e : TypeId} {i : TypeInfo} {du : TypeDesc} (ht : P.underlying t = some (.slice e)) (hi : P.info? e = some i) (hu : P.underlying u = some du) (hd : ∀ k, du ≠ .int k)
    {ba : Option Addr} {n cap m : Nat} {y : Value} {news : Array Value} (hl : (Builtin.lenOf y).run P w = .ok m w) (hf : (Builtin.firstCells i.size m y).run P w = .ok news w) (hroom : n + m ≤ cap) :
    (Builtin.append_ #[t, u] ty #[.slice ba n cap, y]).run P w = ((match ba with | some ad => storeCells (ad.add (n * i.size)) news.toList | none => pure () : Sem Unit).run P w).andThen fun _ w' => .ok (.slice ba (n + m) cap) w' := by
  have hz : (match du with | .int _ => true | _ => false) = false := by
    cases du <;> first | rfl | exact (hd _ rfl).elim
  cases ba with
  | none => simp [Builtin.append_, underlying, ht, hu, hz, sizeOf, typeInfo, hi, hl, hf, hroom]
  | some ad => simp [Builtin.append_, underlying, ht, hu, hz, sizeOf, typeInfo, hi, hl, hf, hroom]

theorem run_app_grow {t u ty e : TypeId} {i : TypeInfo} {zv : Value} {du : TypeDesc} (ht : P.underlying t = some (.slice e)) (hi : P.info? e = some i) (hzv : i.zero = some zv) (hu : P.underlying u = some du) (hd : ∀ k, du ≠ .int k)
    {ba : Option Addr} {n cap m : Nat} {y : Value} {news olds : Array Value} (hl : (Builtin.lenOf y).run P w = .ok m w) (hf : (Builtin.firstCells i.size m y).run P w.drew = .ok news w.drew) (hfo : (Builtin.firstCells i.size n (.slice ba n cap)).run P w.drew = .ok olds w.drew)
    (hroom : cap < n + m) (h63 : n + m ≤ 1000000) (hfit : (n + m) * i.bytes ≤ 1000000000) :
    (Builtin.append_ #[t, u] ty #[.slice ba n cap, y]).run P w =
      .ok (.slice (some ⟨w.heap.size, 0, none⟩) (n + m) (grownCap w (n + m) cap e)) (w.drew.alloc (.cells (olds ++ news ++ Builtin.zeroCells zv.cells (grownCap w (n + m) cap e - (n + m))) e)) := by
  have hz : (match du with | .int _ => true | _ => false) = false := by
    cases du <;> first | rfl | exact (hd _ rfl).elim
  have hn : ¬ (n + m ≤ cap) := by omega
  have h63' : ¬ (9223372036854775807 < ((n : Int) + (m : Int))) := by omega
  have h48 : Builtin.nextslicecap (n + m) cap * i.bytes ≤ 281474976710656 := growslice_fits hroom (by omega)
  have h48' : ¬ (281474976710656 < Builtin.nextslicecap (n + m) cap * i.bytes) := by omega
  simp [Builtin.append_, underlying, ht, hu, hz, sizeOf, typeInfo, zeroValue, hi, hzv, hl, hn, h63', h48', Question.forced, hf, hfo, newRow, grownCap]

theorem cell_of_heap {w w' : World} (h : w'.heap = w.heap) (ad : Addr) : w'.cell? ad = w.cell? ad := by simp [World.cell?, h]

theorem newsA_ok {du : TypeDesc} {sz m : Nat} {y : AV} {cs : List AV} {v : Value} (hq : newsA s du sz y = some (m, cs)) (h : HR E base ρ s w) (hv : VR E ρ y v) :
    ∃ news : Array Value, (Builtin.lenOf v).run P w = .ok m w ∧ VRs E ρ cs news.toList ∧ (∀ w' : World, w'.heap = w.heap → (Builtin.firstCells sz m v).run P w' = .ok news w') ∧ ∀ k, du ≠ .int k := by
  unfold newsA at hq
  split at hq
  · simp only [Option.some.injEq, Prod.mk.injEq] at hq
    obtain ⟨rfl, rfl⟩ := hq
    rw [show v = _ from hv]
    exact ⟨#[], by simp [Builtin.lenOf], rfl, fun w' _ => by simp [Builtin.firstCells], by simp⟩
  · simp only [Option.some.injEq, Prod.mk.injEq] at hq
    obtain ⟨rfl, rfl⟩ := hq
    obtain ⟨ad, c, rfl⟩ := hv
    refine ⟨#[], by simp [Builtin.lenOf], rfl, fun w' _ => ?_, by simp⟩
    cases ad with
    | none => simp [Builtin.firstCells]
    | some ad =>
      have := run_loadCells_list (P := P) w' ad [] (by simp)
      simp only [List.length_nil] at this
      simp [Builtin.firstCells, this]
  · rename_i b q n c z
    split at hq
    · rename_i cs' hl
      simp only [Option.some.injEq, Prod.mk.injEq] at hq
      obtain ⟨rfl, rfl⟩ := hq
      obtain ⟨l, cap, h1, rfl, _⟩ := hv
      obtain ⟨vs, h2, h3, h4⟩ := h.load h1 hl
      refine ⟨vs.toArray, by simp [Builtin.lenOf], by simpa using h2, fun w' hw => ?_, by simp⟩
      have := run_loadCells_list (P := P) w' ⟨l.g, l.d + q, none⟩ vs (fun j u hj => by rw [cell_of_heap hw, Addr.add_lit]; exact h4 j u hj)
      rw [h3] at this
      simp only [Builtin.firstCells]
      exact this
    · cases hq
  · rename_i l
    simp only [Option.some.injEq, Prod.mk.injEq] at hq
    obtain ⟨rfl, rfl⟩ := hq
    obtain ⟨rfl, h2⟩ := hv
    refine ⟨(bsOf l).data.map fun b => .int .u8 b.toNat, by simp [Builtin.lenOf, bsOf_size], ?_, fun w' _ => ?_, by simp⟩
    · have hb : ∀ l : List Nat, (∀ x ∈ l, x < 256) → VRs E ρ (l.map byteA) (l.map fun n => Value.int .u8 ((UInt8.ofNat n).toNat : Int)) := by
        intro l
        induction l with
        | nil => intro _; rfl
        | cons x r ih =>
          intro hx
          have := hx x (by simp)
          refine ⟨_, _, rfl, ?_, ih fun y hy => hx y (by simp [hy])⟩
          show _ = _
          simp
          omega
      simpa [bsOf, Function.comp_def] using hb l h2
    · have hex : (bsOf l).extract 0 l.length = bsOf l := by rw [bsOf_extract]; simp
      simp [Builtin.firstCells, hex]
  · cases hq

/-- Cells written in place, the block grown. -/
theorem HR.fill (h : HR E base ρ s w) {b q k : Nat} {vs : Tr AV} {cs : List AV} {xs : List Value} {l : Loc} (hb : s.H.get b = some (.cells false vs k)) (hl : ρ b = some l) (hx : VRs E ρ cs xs) (hone : cs.all AV.one = true) (hle : q + cs.length ≤ l.m) :
    ∃ w', (storeCells ⟨l.g, l.d + q, none⟩ xs).run P w = .ok () w' ∧ HR E base ρ ⟨s.H.set b (.cells false (writeN vs q cs) (max k (q + cs.length))), s.nx, s.hi⟩ w' ∧ Turn ρ s w ρ ⟨s.H.set b (.cells false (writeN vs q cs) (max k (q + cs.length))), s.nx, s.hi⟩ w' := by
  obtain ⟨arr, e, fr, h1, h2, h3, h4, h5⟩ := h.at hb hl
  obtain ⟨hbase, rfl⟩ := h5 rfl
  have h2 := h2 rfl
  have hlen := hx.length
  have hrun := run_storeCells_at (P := P) l.g (l.d + q) e xs 0 arr w h1 (by omega) (hx.one hone)
  rw [Nat.add_zero] at hrun
  refine ⟨_, hrun, h.turn hb hl rfl ⟨rfl, rfl, rfl⟩ (by simp [World.setRow]) (fun g hg => setRow_other w l.g g _ hg) ⟨_, e, (0, 0), setRow_heap w l.g arr _ e _ h1, ?_, by omega, fun j x hj => ?_, fun _ => ⟨hbase, rfl⟩⟩⟩
  · simp; omega
  · rcases writeN_get hj with ⟨h6, h7⟩ | ⟨h6, h7⟩
    · obtain ⟨v, h8, h9⟩ := hx.get h7
      have hlt : j - q < xs.length := (List.getElem?_eq_some_iff.1 h8).1
      refine ⟨by omega, v, ?_, h9⟩
      rw [List.getElem?_toArray, List.append_assoc, List.getElem?_append_right (by simp; omega), List.getElem?_append_left (by simp; omega)]
      simp only [List.length_take, Array.length_toList]
      rw [show l.d + j - min (l.d + q) arr.size = j - q by omega]
      exact h8
    · obtain ⟨h8, v, h9, h10⟩ := h4 j x h7
      refine ⟨by omega, v, ?_, h10⟩
      rw [List.getElem?_toArray]
      rcases h6 with h6 | h6
      · rw [List.append_assoc, List.getElem?_append_left (by simp; omega), List.getElem?_take_of_lt (by omega)]
        simpa using h9
      · rw [List.getElem?_append_right (by simp; omega), List.getElem?_drop]
        simp only [List.length_append, List.length_take, Array.length_toList]
        rw [show l.d + q + xs.length + (l.d + j - (min (l.d + q) arr.size + xs.length)) = l.d + j by omega]
        simpa using h9
end
end Go.Proofs.YtjaaajmiojigbaaGreatDoor
