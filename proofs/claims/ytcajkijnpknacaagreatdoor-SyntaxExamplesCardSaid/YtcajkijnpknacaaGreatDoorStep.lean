/- One step of the parser, over its state: parenthesis, skipComment. -/
import Derived.Test.YtcajkijnpknacaaGreatDoorClose
import Derived.Test.YtcajkijnpknacaaGreatDoorShelf
import Derived.Lib.IndexBytes
import Derived.Lib.IndexLaws
namespace Go.Proofs.YtcajkijnpknacaaGreatDoor
open Go.RowKit

/-- The bytes of a text. -/
def bytes (s : ByteArray) : List UInt8 := s.data.toList
theorem bytes_len (s : ByteArray) : (bytes s).length = s.size := by rw [bytes, Array.length_toList]; rfl
theorem bytes_get (s : ByteArray) (i : Nat) (h : i < s.size) : (bytes s)[i]'(by rw [bytes_len]; exact h) = s[i] := rfl

def Lens (pos : Nat) (st : Stack) : Prop := st ≠ [] ∧ st.length ≤ 41 ∧ ∀ x ∈ st, x.2.len ≤ pos
theorem Lens.mono {p q : Nat} {st : Stack} (h : Lens p st) (hq : p ≤ q) : Lens q st := ⟨h.1, h.2.1, fun x hx => Nat.le_trans (h.2.2 x hx) hq⟩
theorem Lens.addTop {p q : Nat} {st : Stack} (h : Lens p st) (hq : p < q) {k : Int} {t : List UInt8} {kids : Fr} {o : Nat} : Lens q (addTop k t kids o st) := by
  obtain ⟨h1, h2, h3⟩ := h
  cases st with
  | nil => exact (h1 rfl).elim
  | cons x st =>
    obtain ⟨a, l⟩ := x
    refine ⟨by simp [Go.Proofs.YtcajkijnpknacaaGreatDoor.addTop], by simpa [Go.Proofs.YtcajkijnpknacaaGreatDoor.addTop] using h2, fun y hy => ?_⟩
    rcases List.mem_cons.1 hy with rfl | hy
    · have := h3 (a, l) (by simp)
      simp only [Fr.len_app, Fr.len] at this ⊢
      omega
    · have := h3 y (by simp [hy]); omega

/-- What a step comes to: it goes on at a later position with the same result, or the text is at fault. -/
def Stepped (base pb : Nat) (s : ByteArray) (pos : Nat) (R : Res) (w : World) (e : Ending) (w' : World) : Prop :=
  Below base w w' ∧ ((e = .returned (.tuple #[]) ∧ ∃ F' pos' st', PState w' F' base pb s pos' st' ∧ pos < pos' ∧ pos' ≤ s.size ∧ Lens pos' st' ∧ go ((bytes s).drop pos') pos' .plain st' = R) ∨
    ∃ k o, e = .panicked (faultOf k o) ∧ R = .error (k, o))

theorem go_plain {s : List UInt8} {pos : Nat} {st : Stack} (h : pos < s.length) : go (s.drop pos) pos .plain st = match act s[pos] pos st with
    | .ok (m, st') => go (s.drop (pos + 1)) (pos + 1) m st'
    | .error e => .error e := by
  rw [drop_at h]; rfl

theorem Below.drewN' {B : Nat} {w w' : World} {m : Nat} (h : w' = w.drewN m) : Below B w w' := by rw [h]; exact ⟨rfl, rfl, rfl, Nat.le_refl _, fun _ _ => rfl⟩

theorem PS.ownOpen {w : World} {F : Fixed} {base pb : Nat} {s : ByteArray} {pos : Nat} {st : Stack} {ob cap : Nat} {cur : Array Value} {cvs : List Value} (h : PS w F base pb s pos st ob cap cur cvs) :
    w.ownsRow base 64 4 (.slice (some ⟨ob, 0, none⟩) st.length cap) st.length (stCells st cvs) :=
  ⟨stCells_len h.ok.len, .inr ⟨ob, cap, cur, rfl, h.bo, h.ho, h.hle, h.hcap, h.hcs, h.cells⟩⟩

theorem PS.pushed {w w' : World} {F : Fixed} {base pb : Nat} {s : ByteArray} {pos : Nat} {st : Stack} {ob cap : Nat} {cur : Array Value} {cvs : List Value} (h : PS w F base pb s pos st ob cap cur cvs) (hne : st ≠ []) {g c2 : Nat}
    (hA : Pushed w w' base pb ob st.length s pos (stCells st cvs) g c2) : PState w' F base pb s (pos + 1) ((pos, .nil) :: st) ∧ Below base w w' := by
  have hgp : g ≠ pb := by
    rcases hA.lies with rfl | e
    · exact Ne.symm h.hpo
    · have := h.lp; omega
  have hfg : ∀ j, ¬ F g j := fun j hf => by
    rcases hA.lies with rfl | e
    · exact h.fo j hf
    · have := h.fw g j hf; omega
  have hx : Fix F w w' := fun b j hf => World.cell?_of_block (hA.other b (h.fw b j hf) (by rintro rfl; exact h.fp j hf) (by rintro rfl; exact h.fo j hf))
  obtain ⟨hown1, hown2⟩ := hA.own
  rcases hown2 with ⟨e, _⟩ | ⟨g', c', cur', e, hb, hg, h1, h2, h3, h4⟩
  · cases e
  injection e with e1 _ e3
  injection e1 with e1
  injection e1 with e1
  subst e1 e3
  have hk : kindOf st = 3 := by
    cases st with
    | nil => exact (hne rfl).elim
    | cons => rfl
  refine ⟨⟨g, c2, cur', .slice none 0 0 :: cvs, hA.head, hg, h3, h1, h2, ?_, ⟨⟨⟨[], World.ownsRow_nil _ _ _ _, rfl⟩, fun b e => by simp [Value.ownBlock] at e⟩, fun u _ b e => by simp [Value.ownBlock] at e, h.ok.turn hx (fun _ _ h => h) (fun u hu b e => ⟨hA.other b (StOk.lt e h.ok hu) ?_ ?_, fun _ h => h⟩)⟩, Ne.symm hgp, h.bp, hb, h.fp, hfg, ?_, Nat.le_trans h.bw hA.size, fun b j hf => Nat.lt_of_lt_of_le (h.fw b j hf) hA.size, h.fb⟩, ?_⟩
  · simp only [stCells, hk, List.length_cons]
    exact h4
  · rintro rfl
    exact (h.far u hu).1 e
  · rintro rfl
    exact (h.far u hu).2 e
  · intro u hu
    rcases List.mem_cons.1 hu with rfl | hu
    · simp [Value.ownBlock]
    · refine ⟨(h.far u hu).1, fun e => ?_⟩
      rcases hA.lies with rfl | e'
      · exact (h.far u hu).2 e
      · have := StOk.lt e h.ok hu; omega
  · exact ⟨hA.os, hA.tape, hA.output, hA.size, fun b hb => hA.other b (Nat.lt_of_lt_of_le hb h.bw) (by have := h.bp; omega) (by have := h.bo; omega)⟩

theorem beq_int_false {a b : Int} (h : ¬ a = b) : (a == b) = false := by simpa using h
theorem beq_int_true {a b : Int} (h : a = b) : (a == b) = true := by simpa using h

theorem paren_step {w : World} {F : Fixed} {base pb : Nat} {s : ByteArray} {pos : Nat} {st : Stack} (h : PState w F base pb s pos st) (hL : Lens pos st) (hlt : pos < s.size) (hs : s.size ≤ 65536) (hc : (s[pos].toNat : Int) = 40 ∨ (s[pos].toNat : Int) = 41) :
    Calls Tryz.prog 53 #[.pointer (some ⟨pb, 0, none⟩)] w (Stepped base pb s pos (go ((bytes s).drop pos) pos .plain st) w) := by
  have hlt' : pos < (bytes s).length := by rw [bytes_len]; exact hlt
  rw [go_plain hlt']
  obtain ⟨ob, cap, cur, cvs, h⟩ := h
  obtain ⟨hL1, hL2, hL3⟩ := hL
  rcases hc with hc | hc
  · have hb : bt (bytes s)[pos] = 40 := hc
    cases st with
    | nil => exact (hL1 rfl).elim
    | cons x st =>
      by_cases hd : 40 ≤ st.length
      · refine (paren_deep w pb ob st.length cap pos s h.p0 h.p1 (by simpa using h.p2) hlt hs (beq_int_true hc) hd (by rw [List.length_cons] at hL2; omega)).mono ?_
        rintro e w' ⟨rfl, m, hm⟩
        refine ⟨Below.drewN' hm, .inr ⟨9, pos, rfl, ?_⟩⟩
        rw [act_deep hb (by rw [List.length_cons]; omega)]
      · refine (paren_open w base pb ob st.length cap pos s _ (Lib.hid (by simpa using h.hp)) (by simpa using h.ownOpen) h.bw h.hpo hlt hs (beq_int_true hc) (by omega)).mono ?_
        rintro e w' ⟨rfl, g, c2, hA⟩
        obtain ⟨h1, h2⟩ := h.pushed hL1 hA
        refine ⟨h2, .inl ⟨rfl, F, pos + 1, _, h1, by omega, by omega, ⟨by simp, by simp at hL2 ⊢; omega, fun y hy => ?_⟩, ?_⟩⟩
        · rcases List.mem_cons.1 hy with rfl | hy
          · exact Nat.zero_le _
          · have := hL3 y hy; omega
        · rw [act_open hb (by rw [List.length_cons]; omega)]
  · have hb : bt (bytes s)[pos] = 41 := hc
    cases st with
    | nil => exact (hL1 rfl).elim
    | cons x st =>
      cases st with
      | nil =>
        refine (paren_none w pb ob cap pos s h.p0 h.p1 (by simpa using h.p2) hlt hs (beq_int_false (by omega))).mono ?_
        rintro e w' ⟨rfl, m, hm⟩
        refine ⟨Below.drewN' hm, .inr ⟨2, pos, rfl, ?_⟩⟩
        rw [act_none hb]
      | cons y st =>
        obtain ⟨p, l⟩ := x
        obtain ⟨p', l'⟩ := y
        have hcl := h.ok.len
        match cvs, hcl with
        | cv :: cv' :: cvs, _ =>
          have hl' := hL3 (p', l') (by simp)
          refine (paren_close h hlt hs (beq_int_false (by omega)) (by simp at hL2; omega) (by simp at hl'; omega)).mono ?_
          rintro e w' ⟨rfl, ⟨F', h1⟩, h2⟩
          refine ⟨h2, .inl ⟨rfl, F', pos + 1, _, h1, by omega, by omega, ⟨by simp, by simp at hL2 ⊢; omega, fun y hy => ?_⟩, ?_⟩⟩
          · rcases List.mem_cons.1 hy with rfl | hy
            · simp only [Fr.len_app, Fr.len] at hl' ⊢
              omega
            · have := hL3 y (by simp [hy]); omega
          · rw [act_close hb]
end Go.Proofs.YtcajkijnpknacaaGreatDoor
