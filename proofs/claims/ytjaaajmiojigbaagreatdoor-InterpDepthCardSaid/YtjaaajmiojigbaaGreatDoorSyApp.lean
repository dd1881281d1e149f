/- Appending to rows of unknown length; what becomes data. -/
import Derived.Test.YtjaaajmiojigbaaGreatDoorSyOk
namespace Go.Proofs.YtjaaajmiojigbaaGreatDoor
open Go Go.RowKit
variable {E : Env} {X : Ctx}

section
variable {P : Program} {base : Nat} {ρ : Mp} {s s' : St} {w : World} {tm : Tr AV} {a : Act} {o : Oper} {r : ARes}

theorem DRr.flat {fz : Nat → Option Obj} {z : Nat} : ∀ {rs : List (List D)} {arr : Array Value} {d : Nat}, DRr fz z rs arr d → DRc fz rs.flatten arr d ∧ rs.flatten.length = rs.length * z
  | [], _, _, _ => ⟨True.intro, by simp⟩
  | r :: rs, arr, d, ⟨h1, h2, h3⟩ => by
    obtain ⟨h4, h5⟩ := DRr.flat h3
    refine ⟨?_, by simp only [List.flatten_cons, List.length_append, List.length_cons, h5, h1, Nat.succ_mul]; omega⟩
    have key : ∀ (cs : List D) (q : Nat), DRc fz cs arr q → d + z = q + cs.length → DRc fz (cs ++ rs.flatten) arr q := by
      intro cs
      induction cs with
      | nil => intro q _ hq; simp at hq; rw [← hq]; exact h4
      | cons c cs ih => intro q ⟨hc1, hc2⟩ hq; exact ⟨hc1, ih (q + 1) hc2 (by simp at hq; omega)⟩
    exact key r d h2 (by omega)
theorem DRc.of {fz : Nat → Option Obj} : ∀ {cs : List D} {arr : Array Value} {d : Nat}, (∀ (j : Nat) (c : D), cs[j]? = some c → ∃ u, arr[d + j]? = some u ∧ DR fz c u) → DRc fz cs arr d
  | [], _, _, _ => True.intro
  | c :: cs, arr, d, h => ⟨by simpa using h 0 c rfl, DRc.of fun j x hj => by
      obtain ⟨u, h1, h2⟩ := h (j + 1) x (by simpa using hj)
      exact ⟨u, by rw [← h1]; congr 1; omega, h2⟩⟩
theorem DRr.of {fz : Nat → Option Obj} {z : Nat} : ∀ {rs : List (List D)} {arr : Array Value} {d : Nat}, (∀ r ∈ rs, r.length = z) → DRc fz rs.flatten arr d → DRr fz z rs arr d
  | [], _, _, _, _ => True.intro
  | r :: rs, arr, d, hz, h => by
    have hr := hz r List.mem_cons_self
    refine ⟨hr, DRc.of fun j c hj => h.get (j := j) (by rw [List.flatten_cons, List.getElem?_append_left (List.getElem?_eq_some_iff.1 hj).1]; exact hj), DRr.of (fun r' h' => hz r' (List.mem_cons_of_mem _ h')) (DRc.of fun j c hj => ?_)⟩
    obtain ⟨u, h1, h2⟩ := h.get (j := z + j) (c := c) (by rw [List.flatten_cons, List.getElem?_append_right (by omega), show z + j - r.length = j by omega]; exact hj)
    exact ⟨u, by rw [← h1]; congr 1; omega, h2⟩

noncomputable def litA (c : D) : AV := .sx (.lit c)
theorem litA_vr {c : D} {u : Value} (h : DR ρ.fz c u) : VR E ρ (litA c) u := ⟨c, rfl, h⟩
theorem lits_vrs : ∀ {cs : List D} {us : List Value}, us.length = cs.length → (∀ (j : Nat) (c : D), cs[j]? = some c → ∃ u, us[j]? = some u ∧ DR ρ.fz c u) → VRs E ρ (cs.map litA) us
  | [], us, hl, _ => by simp at hl; subst hl; rfl
  | c :: cs, us, hl, h => by
    cases us with
    | nil => simp at hl
    | cons u us =>
      obtain ⟨u', h1, h2⟩ := h 0 c rfl
      simp at h1
      subst h1
      exact ⟨u, _, rfl, litA_vr h2, lits_vrs (by simpa using hl) fun j x hj => by simpa using h (j + 1) x (by simpa using hj)⟩
theorem lits_one (cs : List D) : (cs.map litA).all AV.one = true := by
  rw [List.all_eq_true]
  intro x hx
  obtain ⟨c, _, rfl⟩ := List.mem_map.1 hx
  rfl

theorem toSXs_ok : ∀ {vs : List AV} {es : List SX} {us : List Value}, toSXs vs = some es → VRs E ρ vs us → ∃ ds, dens E.val es = some ds ∧ ds.length = us.length ∧ ∀ (j : Nat) (c : D), ds[j]? = some c → ∃ u, us[j]? = some u ∧ DR ρ.fz c u
  | [], es, us, h, hv => by
    simp only [toSXs, Option.some.injEq] at h
    subst h
    rw [show us = [] from hv]
    exact ⟨[], rfl, rfl, by simp⟩
  | v :: vs, es, us, h, hv => by
    obtain ⟨u, us', rfl, h1, h2⟩ := hv
    simp only [toSXs] at h
    split at h
    · rename_i e es' h3 h4
      simp only [Option.some.injEq] at h
      subst h
      obtain ⟨d, h5, h6⟩ := toSX_ok h1 h3
      obtain ⟨ds, h7, h8, h9⟩ := toSXs_ok h4 h2
      refine ⟨d :: ds, by simp only [dens, h5, h7, Option.bind_some], by simp [h8], fun j c hj => ?_⟩
      cases j with
      | zero => simp at hj; subst hj; exact ⟨u, rfl, h6⟩
      | succ j => simpa using h9 j c (by simpa using hj)
    · cases h

theorem dens_take {F : Nat → D} : ∀ {es : List SX} {ds : List D} (k : Nat), dens F es = some ds → dens F (es.take k) = some (ds.take k) ∧ dens F (es.drop k) = some (ds.drop k)
  | [], ds, k, h => by
    simp only [dens, Option.some.injEq] at h
    subst h
    simp [dens]
  | e :: es, ds, 0, h => ⟨by simp [dens], by simpa using h⟩
  | e :: es, ds, k + 1, h => by
    simp only [dens] at h
    obtain ⟨d, h1, h2⟩ := Option.bind_eq_some_iff.1 h
    obtain ⟨ds', h3, h4⟩ := Option.bind_eq_some_iff.1 h2
    simp only [Option.some.injEq] at h4
    subst h4
    obtain ⟨h5, h6⟩ := dens_take k h3
    exact ⟨by simp only [List.take_succ_cons, dens, h1, h5, Option.bind_some], by simpa using h6⟩

/-- Rows of cells: as many as told. -/
theorem mkRows_ok {z : Nat} : ∀ (n : Nat) {es : List SX} {ds : List D} {acc : SX} {rows0 : List (List D)}, dens E.val es = some ds → ds.length = n * z → den E.val acc = some (.sl rows0) →
    ∃ rows, den E.val (mkRows z n es acc) = some (.sl (rows0 ++ rows)) ∧ rows.flatten = ds ∧ rows.length = n ∧ ∀ r ∈ rows, r.length = z
  | 0, es, ds, acc, rows0, h1, h2, h3 => ⟨[], by simp only [mkRows, List.append_nil]; exact h3, by simp at h2; simp [h2], rfl, by simp⟩
  | n + 1, es, ds, acc, rows0, h1, h2, h3 => by
    obtain ⟨h4, h5⟩ := dens_take z h1
    rw [Nat.succ_mul] at h2
    obtain ⟨rows, h6, h7, h8, h9⟩ := mkRows_ok (z := z) n (acc := .snoc acc (es.take z)) (rows0 := rows0 ++ [ds.take z]) h5 (by simp; omega) (by simp only [den, h3, h4, Option.bind_some, snocD])
    refine ⟨ds.take z :: rows, by simp only [mkRows, h6, List.append_assoc, List.singleton_append], by rw [List.flatten_cons, h7, List.take_append_drop], by simp [h8], fun r hr => ?_⟩
    rcases List.mem_cons.1 hr with rfl | hr
    · simp; omega
    · exact h9 r hr

theorem catS_ok {F : Nat → D} {e1 : SX} {a : List (List D)} (h1 : den F e1 = some (.sl a)) : ∀ {e2 : SX} {b : List (List D)}, den F e2 = some (.sl b) → den F (catS e1 e2) = some (.sl (a ++ b))
  | .nilS, b, h => by
    simp only [den, Option.some.injEq, D.sl.injEq] at h
    subst h
    simpa [catS] using h1
  | .snoc c r, b, h => by
    simp only [den] at h
    obtain ⟨x, h3, h4⟩ := Option.bind_eq_some_iff.1 h
    obtain ⟨y, h5, h6⟩ := Option.bind_eq_some_iff.1 h4
    unfold snocD at h6
    split at h6
    · rename_i rows row
      simp only [Option.some.injEq, D.sl.injEq] at h6
      subst h6
      simp only [catS, den, catS_ok h1 h3, h5, Option.bind_some, snocD, List.append_assoc]
    · cases h6
  | .var i, b, h => by simp only [catS, den] at h ⊢; simp only [h1, h, Option.bind_some, catD]
  | .int _ _, b, h => by simp [den] at h
  | .bool _, b, h => by simp [den] at h
  | .str _, b, h => by simp [den] at h
  | .len x, b, h => by show (den F e1).bind _ = _; rw [h1, Option.bind_some, h]; rfl
  | .cell x i j, b, h => by show (den F e1).bind _ = _; rw [h1, Option.bind_some, h]; rfl
  | .byte x i, b, h => by show (den F e1).bind _ = _; rw [h1, Option.bind_some, h]; rfl
  | .bin op x y, b, h => by show (den F e1).bind _ = _; rw [h1, Option.bind_some, h]; rfl
  | .not x, b, h => by show (den F e1).bind _ = _; rw [h1, Option.bind_some, h]; rfl
  | .neg x, b, h => by show (den F e1).bind _ = _; rw [h1, Option.bind_some, h]; rfl
  | .conv k x, b, h => by show (den F e1).bind _ = _; rw [h1, Option.bind_some, h]; rfl
  | .sub x l q, b, h => by show (den F e1).bind _ = _; rw [h1, Option.bind_some, h]; rfl
  | .cat x y, b, h => by show (den F e1).bind _ = _; rw [h1, Option.bind_some, h]; rfl
  | .lit d, b, h => by show (den F e1).bind _ = _; rw [h1, Option.bind_some, h]; rfl

theorem lenLit_ok {F : Nat → D} : ∀ {e : SX} {n : Nat} {rows : List (List D)}, lenLit e = some n → den F e = some (.sl rows) → rows.length = n
  | .nilS, n, rows, h, hd => by
    simp only [lenLit, den, Option.some.injEq, D.sl.injEq] at h hd
    subst hd; subst h; rfl
  | .snoc c r, n, rows, h, hd => by
    simp only [lenLit] at h
    split at h
    · rename_i m hm
      simp only [Option.some.injEq] at h
      subst h
      simp only [den] at hd
      obtain ⟨x, h3, h4⟩ := Option.bind_eq_some_iff.1 hd
      obtain ⟨y, h5, h6⟩ := Option.bind_eq_some_iff.1 h4
      unfold snocD at h6
      split at h6
      · simp only [Option.some.injEq, D.sl.injEq] at h6
        subst h6
        simp [lenLit_ok hm h3]
      · cases h6
    · cases h
  | .var _, _, _, h, _ => by simp [lenLit] at h
  | .int _ _, _, _, h, _ => by simp [lenLit] at h
  | .bool _, _, _, h, _ => by simp [lenLit] at h
  | .str _, _, _, h, _ => by simp [lenLit] at h
  | .len _, _, _, h, _ => by simp [lenLit] at h
  | .cell .., _, _, h, _ => by simp [lenLit] at h
  | .byte .., _, _, h, _ => by simp [lenLit] at h
  | .bin .., _, _, h, _ => by simp [lenLit] at h
  | .not _, _, _, h, _ => by simp [lenLit] at h
  | .neg _, _, _, h, _ => by simp [lenLit] at h
  | .conv .., _, _, h, _ => by simp [lenLit] at h
  | .sub .., _, _, h, _ => by simp [lenLit] at h
  | .cat .., _, _, h, _ => by simp [lenLit] at h
  | .lit _, _, _, h, _ => by simp [lenLit] at h
theorem fitsS_ok (hx : XOk E X) {e : SX} {rows : List (List D)} (hd : den E.val e = some (.sl rows)) (h : fitsS X e = true) : rows.length ≤ 1000000 := by
  unfold fitsS at h
  split at h
  · rename_i n hn
    rw [lenLit_ok hn hd]
    simpa using h
  · have := holds_ok hx h
    simp only [den, hd, Option.bind_some, lenD, binD, if_true, Option.some.injEq, D.bool.injEq, decide_eq_true_eq] at this
    omega
theorem someS_ok (hx : XOk E X) {e : SX} {rows : List (List D)} (hd : den E.val e = some (.sl rows)) (h : someS X e = true) : 0 < rows.length := by
  unfold someS at h
  split at h
  · rename_i n hn
    rw [lenLit_ok hn hd]
    simpa using h
  · have := holds_ok hx h
    simp only [den, hd, Option.bind_some, lenD, binD, if_true, Option.some.injEq, D.bool.injEq, decide_eq_true_eq] at this
    omega

/-- A block of rows becomes frozen. -/
def Mp.freeze (ρ : Mp) (g : Nat) (o : Obj) : Mp := ⟨ρ.at_, fun x => if x = g then some o else ρ.fz x⟩
theorem HR.freeze (h : HR E base ρ s w) {b : Nat} {o : AO} {l : Loc} {ob : Obj} (hb : s.H.get b = some o) (hl : ρ b = some l) (hw : o.wr) (hob : w.heap[l.g]? = some ob) :
    Ext ρ (ρ.freeze l.g ob) ∧ ∀ z e, OR E base (ρ.freeze l.g ob) w l (.row z e) → HR E base (ρ.freeze l.g ob) (s.rowed b z e) w ∧ Turn ρ s w (ρ.freeze l.g ob) (s.rowed b z e) w := by
  have hx : Ext ρ (ρ.freeze l.g ob) := ⟨fun _ _ h => h, fun g o' hg => by
    show (if g = l.g then some ob else ρ.fz g) = some o'
    rw [if_neg fun e => by have := h.fzap b o l hb hw hl; rw [← e, hg] at this; cases this]
    exact hg⟩
  refine ⟨hx, fun z e hor => ⟨⟨fun b' o' hb' => ?_, fun b1 b2 o1 o2 l1 l2 hb1 hb2 hn hw1 hl1 hl2 => ?_, h.fresh, h.base, fun g o' hg => ?_, fun b' o' l' hb' hw' hl' => ?_⟩, ⟨hx, ⟨Nat.le_refl _, .inl rfl⟩, rfl, rfl, rfl, Nat.le_refl _, fun _ _ _ => rfl, fun b' o' l' hb' hl' => ?_, fun _ _ _ => rfl, fun g o' hg => ?_⟩⟩⟩
  · rcases Tr.get_set hb' with ⟨rfl, rfl⟩ | ⟨_, h2⟩
    · exact ⟨l, hl, hor⟩
    · obtain ⟨l', h1, h3⟩ := h.objs b' o' h2
      exact ⟨l', h1, h3.mono hx rfl⟩
  · rcases Tr.get_set hb1 with ⟨rfl, rfl⟩ | ⟨h1, h2⟩
    · exact (show False from hw1).elim
    · rcases Tr.get_set hb2 with ⟨rfl, rfl⟩ | ⟨h3, h4⟩
      · exact h.apart b1 b2 o1 o l1 l2 h2 hb hn hw1 hl1 hl2
      · exact h.apart b1 b2 o1 o2 l1 l2 h2 h4 hn hw1 hl1 hl2
  · have hg : (if g = l.g then some ob else ρ.fz g) = some o' := hg
    split at hg
    · rename_i e; rw [e, hob]; exact hg
    · exact h.frz g o' hg
  · rcases Tr.get_set hb' with ⟨rfl, rfl⟩ | ⟨h1, h2⟩
    · exact (show False from hw').elim
    · show (if l'.g = l.g then some ob else ρ.fz l'.g) = none
      rw [if_neg fun e => h.apart b b' o o' l l' hb h2 (Ne.symm h1) hw hl hl' e.symm]
      exact h.fzap b' o' l' h2 hw' hl'
  · rcases Tr.get_set hb' with ⟨rfl, rfl⟩ | ⟨h1, h2⟩
    · exact .inr ⟨b', o, l', hb, hl', rfl, fun hw' => (show False from hw').elim⟩
    · exact .inr ⟨b', o', l', h2, hl', rfl, id⟩
  · have hg : (if g = l.g then some ob else ρ.fz g) = some o' := hg
    split at hg
    · rename_i e; exact .inr (.inr ⟨b, o, l, hb, hw, hl, e.symm⟩)
    · exact .inl hg

theorem roA_ok (h : HR E base ρ s w) {v : AV} {u : Value} {e : SX} (hv : VR E ρ v u) (hf : roA s v = some e) : ∃ d, den E.val e = some d ∧ DR ρ.fz d u := by
  unfold roA at hf
  split at hf
  · rename_i b e0 z
    split at hf
    · rename_i z' e' hb
      split at hf
      · rename_i hc
        obtain ⟨rfl, hs⟩ := hc
        simp only [Option.some.injEq] at hf
        subst hf
        obtain rfl := SX.same_eq hs
        obtain ⟨l, cap, rows, h1, h2, rfl, h3, h4, h5⟩ := hv
        obtain ⟨arr, T, fr, rows', h6, _, h7, h8⟩ := h.at hb h1
        rw [h2] at h7
        simp only [Option.some.injEq, D.sl.injEq] at h7
        subst h7
        exact ⟨_, h2, some ⟨l.g, l.d, none⟩, cap, rfl, h3, h4, .inr ⟨l.g, l.d, arr, T, fr, z, rfl, h6, h8⟩⟩
      · cases hf
    · cases hf
  · rename_i b n c z
    split at hf
    · rename_i z' e' hb
      split at hf
      · rename_i hc
        obtain ⟨rfl, hs⟩ := hc
        simp only [Option.some.injEq] at hf
        subst hf
        obtain ⟨l, cap, h1, rfl, h3, h4, h5, h6⟩ := hv
        obtain ⟨arr, T, fr, rows, h7, _, h8, h9⟩ := h.at hb h1
        have hn := lenLit_ok hs h8
        exact ⟨_, h8, some ⟨l.g, l.d + 0, none⟩, cap, by rw [hn], by omega, h5, .inr ⟨l.g, l.d, arr, T, fr, z, rfl, h7, h9⟩⟩
      · cases hf
    · cases hf
  · exact toSX_ok hv hf

/-- A slice whose block is frozen reads as rows. -/
theorem frz1_ok (h : HR E base ρ s w) {v : AV} {u : Value} {e : SX} (hv : VR E ρ v u) (hf : frz1 s v = some (e, s')) :
    ∃ σ, Ext ρ σ ∧ σ.at_ = ρ.at_ ∧ HR E base σ s' w ∧ Turn ρ s w σ s' w ∧ ∃ d, den E.val e = some d ∧ DR σ.fz d u := by
  unfold frz1 at hf
  split at hf
  · rename_i e1 he
    simp only [Option.some.injEq, Prod.mk.injEq] at hf
    obtain ⟨rfl, rfl⟩ := hf
    obtain ⟨d, h1, h2⟩ := roA_ok h hv he
    exact ⟨ρ, .refl _, rfl, h, Turn.refl h, d, h1, h2⟩
  rename_i hro
  clear hro
  split at hf
  · rename_i b e0 z
    split at hf
    · rename_i z' e' hb
      split at hf
      · rename_i hc
        obtain ⟨rfl, hs⟩ := hc
        simp only [Option.some.injEq, Prod.mk.injEq] at hf
        obtain ⟨rfl, rfl⟩ := hf
        obtain rfl := SX.same_eq hs
        obtain ⟨l, cap, rows, h1, h2, rfl, h3, h4, h5⟩ := hv
        obtain ⟨hbase, arr, T, rows', h6, h7, h8, h9, h10⟩ := h.at hb h1
        rw [h2] at h7
        simp only [Option.some.injEq, D.sl.injEq] at h7
        subst h7
        obtain ⟨hx, hfr⟩ := h.freeze hb h1 True.intro h6
        have hfz : (ρ.freeze l.g (.cells arr T (0, 0))).fz l.g = some (.cells arr T (0, 0)) := by
          show (if l.g = l.g then _ else _) = _
          rw [if_pos rfl]
        obtain ⟨hr, ht⟩ := hfr z e0 ⟨arr, T, (0, 0), rows, hfz, h6, h2, h10.mono hx.fz⟩
        exact ⟨_, hx, rfl, hr, ht, _, h2, some ⟨l.g, l.d, none⟩, cap, rfl, h3, h4, .inr ⟨l.g, l.d, arr, T, (0, 0), z, rfl, hfz, h10.mono hx.fz⟩⟩
      · cases hf
    · cases hf
  · rename_i b n c z
    split at hf
    · rename_i vs k cs hb hld
      split at hf
      · rename_i es hes
        simp only [Option.some.injEq, Prod.mk.injEq] at hf
        obtain ⟨rfl, rfl⟩ := hf
        obtain ⟨l, cap, h1, rfl, h3, h4, h5, h6⟩ := hv
        obtain ⟨us, h7, h8, h9⟩ := h.load h1 hld
        obtain ⟨arr, T, fr, g1, g2, g3, g4, g5⟩ := h.at hb h1
        obtain ⟨ds, k1, k2, k3⟩ := toSXs_ok hes h7
        obtain ⟨rows, k4, k5, k6, k7⟩ := mkRows_ok (E := E) (z := z) n k1 (by omega) (acc := .nilS) (rows0 := []) rfl
        obtain ⟨hx, hfr⟩ := h.freeze hb h1 rfl g1
        have hfz : (ρ.freeze l.g (.cells arr T fr)).fz l.g = some (.cells arr T fr) := by
          show (if l.g = l.g then _ else _) = _
          rw [if_pos rfl]
        rw [List.nil_append] at k4
        have hrows : DRr ρ.fz z rows arr l.d := DRr.of k7 (DRc.of fun j c hj => by
          rw [k5] at hj
          obtain ⟨u, k8, k9⟩ := k3 j c hj
          have k10 := h9 j u k8
          rw [cell_of_row w _ _ _ _ _ g1, Nat.add_zero] at k10
          exact ⟨u, k10, k9⟩)
        obtain ⟨hr, ht⟩ := hfr z (mkRows z n es .nilS) ⟨arr, T, fr, rows, hfz, g1, k4, hrows.mono hx.fz⟩
        exact ⟨_, hx, rfl, hr, ht, _, k4, some ⟨l.g, l.d + 0, none⟩, cap, by simp [k6], by omega, h5, .inr ⟨l.g, l.d, arr, T, fr, z, rfl, hfz, hrows.mono hx.fz⟩⟩
      · cases hf
    · cases hf
  · cases hf

theorem frzL_ok : ∀ {vs : List AV} {ρ : Mp} {s s' : St} {us : List Value} {es : List SX}, HR E base ρ s w → VRs E ρ vs us → frzL s vs = some (es, s') →
    ∃ σ, Ext ρ σ ∧ σ.at_ = ρ.at_ ∧ HR E base σ s' w ∧ Turn ρ s w σ s' w ∧ ∃ ds, dens E.val es = some ds ∧ ds.length = us.length ∧ ∀ (j : Nat) (c : D), ds[j]? = some c → ∃ u, us[j]? = some u ∧ DR σ.fz c u
  | [], ρ, s, s', us, es, h, hv, hf => by
    simp only [frzL, Option.some.injEq, Prod.mk.injEq] at hf
    obtain ⟨rfl, rfl⟩ := hf
    rw [show us = [] from hv]
    exact ⟨ρ, .refl _, rfl, h, Turn.refl h, [], rfl, rfl, by simp⟩
  | v :: vs, ρ, s, s', us, es, h, hv, hf => by
    obtain ⟨u, us', rfl, h1, h2⟩ := hv
    simp only [frzL] at hf
    split at hf
    · rename_i e s1 he
      split at hf
      · rename_i es' s2 hes
        simp only [Option.some.injEq, Prod.mk.injEq] at hf
        obtain ⟨rfl, rfl⟩ := hf
        obtain ⟨σ, hx, ha, hr, ht, d, h3, h4⟩ := frz1_ok h h1 he
        obtain ⟨τ, hx', ha', hr', ht', ds, h5, h6, h7⟩ := frzL_ok hr (h2.mono hx) hes
        refine ⟨τ, hx.trans hx', ha'.trans ha, hr', ht.trans ht', d :: ds, by simp only [dens, h3, h5, Option.bind_some], by simp [h6], fun j c hj => ?_⟩
        cases j with
        | zero => simp at hj; subst hj; exact ⟨u, rfl, h4.mono hx'.fz⟩
        | succ j => simpa using h7 j c (by simpa using hj)
      · cases hf
    · cases hf

/-- What is appended: rows, and how the machine reads them. -/
theorem srcSy_ok (hx : XOk E X) (h : HR E base ρ s w) {y : AV} {v : Value} {z : Nat} {e : SX} (hv : VR E ρ y v) (hq : srcSy X s z y = some (e, s')) :
    ∃ σ, Ext ρ σ ∧ σ.at_ = ρ.at_ ∧ HR E base σ s' w ∧ Turn ρ s w σ s' w ∧ ∃ (rows : List (List D)) (news : Array Value), den E.val e = some (.sl rows) ∧ (∀ r ∈ rows, r.length = z) ∧ (Builtin.lenOf v).run P w = .ok rows.length w ∧
      (∀ w' : World, w'.heap = w.heap → (Builtin.firstCells z rows.length v).run P w' = .ok news w') ∧ news.size = rows.length * z ∧ (∀ (j : Nat) (c : D), rows.flatten[j]? = some c → ∃ u, news[j]? = some u ∧ DR σ.fz c u) := by
  have cells : ∀ (g d : Nat) (arr : Array Value) (T : TypeId) (fr : Nat × Nat) (rows : List (List D)) (fz : Nat → Option Obj), w.heap[g]? = some (.cells arr T fr) → DRr fz z rows arr d → ∃ news : Array Value,
      (∀ w' : World, w'.heap = w.heap → (loadCells ⟨g, d, none⟩ (rows.length * z)).run P w' = .ok news w') ∧ news.size = rows.length * z ∧ (∀ (j : Nat) (c : D), rows.flatten[j]? = some c → ∃ u, news[j]? = some u ∧ DR fz c u) := by
    intro g d arr T fr rows fz hg hr
    obtain ⟨h1, h2⟩ := hr.flat
    have hex : ∀ (cs : List D) (q : Nat), DRc fz cs arr q → ∃ us : List Value, us.length = cs.length ∧ (∀ (j : Nat) (u : Value), us[j]? = some u → arr[q + j]? = some u) ∧ ∀ (j : Nat) (c : D), cs[j]? = some c → ∃ u, us[j]? = some u ∧ DR fz c u := by
      intro cs
      induction cs with
      | nil => intro q _; exact ⟨[], rfl, by simp, by simp⟩
      | cons c cs ih =>
        intro q ⟨⟨u, k1, k2⟩, k3⟩
        obtain ⟨us, k4, k5, k6⟩ := ih (q + 1) k3
        refine ⟨u :: us, by simp [k4], fun j x hj => ?_, fun j x hj => ?_⟩
        · cases j with
          | zero => simp at hj; subst hj; exact k1
          | succ j => have := k5 j x (by simpa using hj); rw [← this]; congr 1; omega
        · cases j with
          | zero => simp at hj; subst hj; exact ⟨u, rfl, k2⟩
          | succ j => simpa using k6 j x (by simpa using hj)
    obtain ⟨us, k1, k2, k3⟩ := hex _ _ h1
    refine ⟨us.toArray, fun w' hw => ?_, by simp; omega, fun j c hj => ?_⟩
    · have := run_loadCells_list (P := P) w' ⟨g, d, none⟩ us (fun j v hj => by rw [cell_of_heap hw, Addr.add_lit, cell_of_row w _ _ _ _ _ hg]; exact k2 j v hj)
      rw [k1, h2] at this
      exact this
    · obtain ⟨u, k4, k5⟩ := k3 j c hj
      exact ⟨u, by simpa using k4, k5⟩
  unfold srcSy at hq
  split at hq
  · rename_i e0
    split at hq
    · rename_i hk
      simp only [Option.some.injEq, Prod.mk.injEq] at hq
      obtain ⟨rfl, rfl⟩ := hq
      obtain ⟨d, h1, h2⟩ := hv
      obtain ⟨rows, rfl, hz⟩ := row_kind hx h1 hk
      obtain ⟨ad, cap, rfl, h3, h4, h5⟩ := dr_rows h2 hz
      refine ⟨ρ, .refl _, rfl, h, Turn.refl h, rows, ?_⟩
      rcases h5 with rfl | ⟨g, d, arr, T, fr, rfl, h6, h7⟩
      · refine ⟨#[], h1, hz, by simp [Builtin.lenOf], fun w' _ => ?_, by simp, by simp⟩
        cases ad with
        | none => simp [Builtin.firstCells]
        | some ad =>
          have := run_loadCells_list (P := P) w' ad [] (by simp)
          simp only [List.length_nil] at this
          simp [Builtin.firstCells, this]
      · obtain ⟨news, k1, k2, k3⟩ := cells g d arr T fr rows ρ.fz (h.frz _ _ h6) h7
        exact ⟨news, h1, hz, by simp [Builtin.lenOf], fun w' hw => by simp only [Builtin.firstCells]; exact k1 w' hw, k2, k3⟩
    · cases hq
  · rename_i b e0 z'
    split at hq
    · rename_i z'' e' hb
      split at hq
      · rename_i hc
        obtain ⟨rfl, rfl, hs⟩ := hc
        simp only [Option.some.injEq, Prod.mk.injEq] at hq
        obtain ⟨rfl, rfl⟩ := hq
        obtain rfl := SX.same_eq hs
        obtain ⟨l, cap, rows, h1, h2, rfl, h3, h4, h5⟩ := hv
        obtain ⟨hbase, arr, T, rows', h6, h7, h8, h9, h10⟩ := h.at hb h1
        rw [h2] at h7
        simp only [Option.some.injEq, D.sl.injEq] at h7
        subst h7
        obtain ⟨news, k1, k2, k3⟩ := cells l.g l.d arr T (0, 0) rows ρ.fz h6 h10
        refine ⟨ρ, .refl _, rfl, h, Turn.refl h, rows, news, h2, fun r hr => ?_, by simp [Builtin.lenOf], fun w' hw => by simp only [Builtin.firstCells]; exact k1 w' hw, k2, k3⟩
        obtain ⟨i, hi⟩ := List.getElem?_of_mem hr
        exact (h10.get hi).1
      · cases hq
    · cases hq
  · rename_i b o n c z'
    split at hq
    · rename_i hz
      subst hz
      split at hq
      · rename_i cs hld
        split at hq
        · rename_i es s1 hes
          simp only [Option.some.injEq, Prod.mk.injEq] at hq
          obtain ⟨rfl, rfl⟩ := hq
          obtain ⟨l, cap, h1, rfl, h3, h4, h5, h6⟩ := hv
          obtain ⟨us, h7, h8, h9⟩ := h.load h1 hld
          obtain ⟨σ, hx', ha, hr, ht, ds, k1, k2, k3⟩ := frzL_ok h h7 hes
          obtain ⟨rows, k4, k5, k6, k7⟩ := mkRows_ok (E := E) (z := z') n k1 (by omega) (acc := .nilS) (rows0 := []) rfl
          refine ⟨σ, hx', ha, hr, ht, rows, us.toArray, by simpa using k4, k7, by simp [Builtin.lenOf, k6], fun w' hw => ?_, by simp [h8, k6], fun j c hj => ?_⟩
          · have := run_loadCells_list (P := P) w' ⟨l.g, l.d + o, none⟩ us (fun j v hj => by rw [cell_of_heap hw, Addr.add_lit]; exact h9 j v hj)
            rw [h8] at this
            simp only [Builtin.firstCells, k6]
            exact this
          · rw [k5] at hj
            obtain ⟨u, k8, k9⟩ := k3 j c hj
            exact ⟨u, by simpa using k8, k9⟩
        · cases hq
      · cases hq
    · cases hq
  · cases hq

theorem DR.one {fz : Nat → Option Obj} {d : D} {u : Value} (h : DR fz d u) : u.oneCell' = true := by
  cases d with
  | int k n => rw [show u = _ from h]; rfl
  | bool b => rw [show u = _ from h]; rfl
  | str l => rw [h.1]; rfl
  | sl rows => obtain ⟨a, cap, rfl, _⟩ := h; rfl
  | any _ => exact h.elim

theorem DRc.congr {fz : Nat → Option Obj} : ∀ {cs : List D} {arr arr' : Array Value} {d d' : Nat}, DRc fz cs arr d → (∀ j, j < cs.length → arr'[d' + j]? = arr[d + j]?) → DRc fz cs arr' d'
  | [], _, _, _, _, _, _ => True.intro
  | c :: cs, arr, arr', d, d', ⟨⟨u, h1, h2⟩, h3⟩, h => ⟨⟨u, by have := h 0 (by simp); simp only [Nat.add_zero] at this; rw [this]; exact h1, h2⟩, DRc.congr h3 fun j hj => by
      have := h (j + 1) (by simp; omega)
      rw [show d' + 1 + j = d' + (j + 1) by omega, show d + 1 + j = d + (j + 1) by omega]
      exact this⟩
theorem DRr.congr {fz : Nat → Option Obj} {z : Nat} : ∀ {rs : List (List D)} {arr arr' : Array Value} {d d' : Nat}, DRr fz z rs arr d → (∀ j, j < rs.length * z → arr'[d' + j]? = arr[d + j]?) → DRr fz z rs arr' d'
  | [], _, _, _, _, _, _ => True.intro
  | r :: rs, arr, arr', d, d', ⟨h1, h2, h3⟩, h => by
    simp only [List.length_cons, Nat.succ_mul] at h
    exact ⟨h1, h2.congr fun j hj => h j (by omega), DRr.congr h3 fun j hj => by
      have := h (z + j) (by omega)
      rw [show d' + z + j = d' + (z + j) by omega, show d + z + j = d + (z + j) by omega]
      exact this⟩
theorem DRr.append {fz : Nat → Option Obj} {z : Nat} : ∀ {rs rs' : List (List D)} {arr : Array Value} {d : Nat}, DRr fz z rs arr d → DRr fz z rs' arr (d + rs.length * z) → DRr fz z (rs ++ rs') arr d
  | [], rs', arr, d, _, h => by simpa using h
  | r :: rs, rs', arr, d, ⟨h1, h2, h3⟩, h => ⟨h1, h2, DRr.append h3 (by rw [show d + z + rs.length * z = d + (r :: rs).length * z by rw [List.length_cons, Nat.succ_mul]; omega]; exact h)⟩

/-- Rows that grow: where they lie. -/
structure Dst (base : Nat) (ρ : Mp) (s : St) (w : World) (b : Nat) (l : Loc) (rows : List (List D)) (cap z : Nat) (xv : Value) : Prop where
  obj : ∃ o, s.H.get b = some o ∧ o.wr
  loc : ρ b = some l
  val : xv = .slice (some ⟨l.g, l.d, none⟩) rows.length cap
  le : rows.length ≤ cap ∧ cap ≤ maxLen ∧ cap * z ≤ l.m
  row : ∃ arr T, w.heap[l.g]? = some (.cells arr T (0, 0)) ∧ arr.size = l.d + l.m ∧ base ≤ l.g ∧ DRr ρ.fz z rows arr l.d

theorem dst_gsl (h : HR E base ρ s w) {b z : Nat} {e : SX} {xv : Value} (hv : VR E ρ (.gsl b e z) xv) (hb : s.H.get b = some (.seq z e)) : ∃ l rows cap, den E.val e = some (.sl rows) ∧ Dst base ρ s w b l rows cap z xv := by
  obtain ⟨l, cap, rows, h1, h2, rfl, h3, h4, h5⟩ := hv
  obtain ⟨hbase, arr, T, rows', h6, h7, h8, h9, h10⟩ := h.at hb h1
  rw [h2] at h7
  simp only [Option.some.injEq, D.sl.injEq] at h7
  subst h7
  exact ⟨l, rows, cap, h2, ⟨_, hb, True.intro⟩, h1, rfl, ⟨h3, h4, h5⟩, arr, T, h6, h8, hbase, h10⟩
theorem dst_cells (h : HR E base ρ s w) {b n c z k : Nat} {vs : Tr AV} {cs : List AV} {es : List SX} {xv : Value} (hv : VR E ρ (.slice b 0 n c z) xv) (hb : s.H.get b = some (.cells false vs k)) (hld : s.load b 0 (n * z) = some cs) (hes : toSXs cs = some es) :
    ∃ l rows cap, den E.val (mkRows z n es .nilS) = some (.sl rows) ∧ Dst base ρ s w b l rows cap z xv := by
  obtain ⟨l, cap, h1, rfl, h3, h4, h5, h6⟩ := hv
  obtain ⟨us, h7, h8, h9⟩ := h.load h1 hld
  obtain ⟨arr, T, fr, g1, g2, g3, g4, g5⟩ := h.at hb h1
  obtain ⟨hbase, rfl⟩ := g5 rfl
  obtain ⟨ds, k1, k2, k3⟩ := toSXs_ok hes h7
  obtain ⟨rows, k4, k5, k6, k7⟩ := mkRows_ok (E := E) (z := z) n k1 (by omega) (acc := .nilS) (rows0 := []) rfl
  refine ⟨l, rows, cap, by simpa using k4, ⟨_, hb, rfl⟩, h1, by simp [k6], ⟨by omega, h5, by omega⟩, arr, T, g1, g2 rfl, hbase, DRr.of k7 (DRc.of fun j c hj => ?_)⟩
  rw [k5] at hj
  obtain ⟨u, k8, k9⟩ := k3 j c hj
  have k10 := h9 j u k8
  rw [cell_of_row w _ _ _ _ _ g1, Nat.add_zero] at k10
  exact ⟨u, k10, k9⟩

theorem toList_get {arr : Array Value} {j : Nat} : arr.toList[j]? = arr[j]? := by simp

/-- Rows appended to rows. -/
theorem grow_ok {t u ty e : TypeId} {i : TypeInfo} {zv : Value} {du : TypeDesc} {b cap : Nat} {l : Loc} {rx ry : List (List D)} {xv yv : Value} {news : Array Value} {ex : SX} (hd : Dst base ρ s w b l rx cap i.size xv)
    (ht : P.underlying t = some (.slice e)) (hi : P.info? e = some i) (hzv : i.zero = some zv) (hzs0 : zv.cells.size = i.size) (hu : P.underlying u = some du) (hnd : ∀ k, du ≠ .int k) (h : HR E base ρ s w) (hby : i.bytes ≤ 1000) (hfit : rx.length + ry.length ≤ 1000000)
    (hl : (Builtin.lenOf yv).run P w = .ok ry.length w) (hf : ∀ w' : World, w'.heap = w.heap → (Builtin.firstCells i.size ry.length yv).run P w' = .ok news w') (hns : news.size = ry.length * i.size) (hnz : ∀ r ∈ ry, r.length = i.size)
    (hnews : ∀ (j : Nat) (c : D), ry.flatten[j]? = some c → ∃ u, news[j]? = some u ∧ DR ρ.fz c u) (hone : ∀ u ∈ news.toList, u.oneCell' = true) (hden : den E.val ex = some (.sl (rx ++ ry))) :
    ∃ uu σ w', (Builtin.append_ #[t, u] ty #[xv, yv]).run P w = .ok uu w' ∧ VR E σ (.gsl s.nx ex i.size) uu ∧ HR E base σ (St.new (s.del b) (.seq i.size ex)) w' ∧ Turn ρ s w σ (St.new (s.del b) (.seq i.size ex)) w' := by
  obtain ⟨⟨ob, hb, hwr⟩, hloc, rfl, ⟨hle, hcm, hcz⟩, arr, T, g1, g2, hbase, hrows⟩ := hd
  have hylen : (ry.flatten).length = ry.length * i.size := by
    have : ∀ (l : List (List D)), (∀ r ∈ l, r.length = i.size) → l.flatten.length = l.length * i.size := by
      intro l
      induction l with
      | nil => intro _; simp
      | cons r rs ih => intro hz; simp only [List.flatten_cons, List.length_append, List.length_cons, Nat.succ_mul, ih fun r' hr => hz r' (List.mem_cons_of_mem _ hr), hz r List.mem_cons_self]; omega
    exact this ry hnz
  have hnl : news.toList.length = news.size := Array.length_toList
  have hxz : rx.length * i.size ≤ cap * i.size := Nat.mul_le_mul_right _ hle
  have hynews : ∀ (arr' : Array Value) (q : Nat), (∀ j, j < ry.length * i.size → arr'[q + j]? = news[j]?) → DRr ρ.fz i.size ry arr' q := fun arr' q hq => DRr.of hnz (DRc.of fun j c hj => by
    obtain ⟨u, k1, k2⟩ := hnews j c hj
    exact ⟨u, by rw [hq j (by rw [← hylen]; exact (List.getElem?_eq_some_iff.1 hj).1)]; exact k1, k2⟩)
  have hsum : (rx ++ ry).length = rx.length + ry.length := List.length_append
  by_cases hin : rx.length + ry.length ≤ cap
  · have hr := run_app_room (ty := ty) (ba := some ⟨l.g, l.d, none⟩) (n := rx.length) (cap := cap) ht hi hu hnd hl (hf w rfl) hin
    have hmul : (rx.length + ry.length) * i.size ≤ cap * i.size := Nat.mul_le_mul_right _ hin
    rw [Nat.add_mul] at hmul
    have hrun := run_storeCells_at (P := P) l.g (l.d + rx.length * i.size) T news.toList 0 arr w g1 (by omega) hone
    rw [Nat.add_zero] at hrun
    simp only [Addr.add_lit, hrun, Result.andThen_ok] at hr
    refine ⟨_, ρ.on s.nx l, _, hr, ⟨l, cap, _, Mp.on_same _ _ _, hden, by rw [hsum], by rw [hsum]; exact hin, hcm, hcz⟩, h.move (o' := .seq i.size ex) (l' := l) hb hloc hwr ⟨rfl, rfl, rfl⟩ (by simp [World.setRow]) (fun g _ hg => setRow_other w l.g g _ hg) (.inl rfl) hbase
      ⟨hbase, _, T, _, setRow_heap w l.g arr _ T _ g1, hden, ?_, ?_, ?_⟩⟩
    · simp; omega
    · rw [hsum, Nat.add_mul]; omega
    · refine DRr.append (hrows.congr fun j hj => ?_) (hynews _ _ fun j hj => ?_)
      · rw [List.getElem?_toArray, List.append_assoc, List.getElem?_append_left (by simp; omega), List.getElem?_take_of_lt (by omega), toList_get]
      · rw [List.getElem?_toArray, List.append_assoc, List.getElem?_append_right (by simp; omega), List.getElem?_append_left (by simp; omega)]
        simp only [List.length_take, Array.length_toList]
        rw [show l.d + rx.length * i.size + j - min (l.d + rx.length * i.size) arr.size = j by omega, toList_get]
  · have hz2 : ∃ olds : List Value, olds.length = rx.length * i.size ∧ (∀ (j : Nat) (u : Value), olds[j]? = some u → arr[l.d + j]? = some u) := ⟨(arr.toList.drop l.d).take (rx.length * i.size), by simp; omega, fun j u hj => by
      rw [List.getElem?_take] at hj
      split at hj
      · rw [List.getElem?_drop] at hj; simpa using hj
      · cases hj⟩
    obtain ⟨olds, ho1, ho2⟩ := hz2
    have hfo : (Builtin.firstCells i.size rx.length (.slice (some ⟨l.g, l.d, none⟩) rx.length cap)).run P w.drew = .ok olds.toArray w.drew := by
      have := run_loadCells_list (P := P) w.drew ⟨l.g, l.d, none⟩ olds (fun j u hj => by rw [cell_of_heap (w := w) (w' := w.drew) rfl, Addr.add_lit, cell_of_row w _ _ _ _ _ g1]; exact ho2 j u hj)
      rw [ho1] at this
      simp only [Builtin.firstCells]
      exact this
    have hr := run_app_grow (ty := ty) ht hi hzv hu hnd hl (hf w.drew rfl) hfo (by omega) hfit (Nat.le_trans (Nat.mul_le_mul hfit hby) (by omega))
    have hge := grownCap_ge w (rx.length + ry.length) cap e
    have hlm := grownCap_le_maxLen w (rx.length + ry.length) cap e (by unfold maxLen; omega)
    generalize grownCap w (rx.length + ry.length) cap e = nc at hr hge hlm
    have hzc : (Builtin.zeroCells zv.cells (nc - (rx.length + ry.length))).size = (nc - (rx.length + ry.length)) * zv.cells.size := by unfold Builtin.zeroCells; simp
    have hmv := h.move (o' := .seq i.size ex) (l' := ⟨w.heap.size, 0, (olds.toArray ++ news ++ Builtin.zeroCells zv.cells (nc - (rx.length + ry.length))).size⟩) (w' := w.drew.alloc (.cells (olds.toArray ++ news ++ Builtin.zeroCells zv.cells (nc - (rx.length + ry.length))) e)) hb hloc hwr ⟨rfl, rfl, rfl⟩ (by simp) (fun g hg _ => heap_alloc_old w.drew _ g hg) (.inr (Nat.le_refl _)) h.base
      ⟨h.base, _, e, _, heap_alloc_new w.drew _, hden, by simp, ?_, ?_⟩
    · refine ⟨_, _, _, hr, ⟨_, nc, _, Mp.on_same _ _ _, hden, by rw [hsum], by rw [hsum]; exact hge, hlm, ?_⟩, hmv.1, hmv.2⟩
      have hzs : zv.cells.size = i.size := hzs0
      simp only [Array.size_append, hzc, hns, List.size_toArray, ho1, hzs]
      have : nc * i.size = rx.length * i.size + ry.length * i.size + (nc - (rx.length + ry.length)) * i.size := by rw [← Nat.add_mul, ← Nat.add_mul]; congr 1; omega
      omega
    · rw [hsum, Nat.add_mul]
      simp only [Array.size_append, List.size_toArray, ho1, hns]
      omega
    · have hget1 : ∀ j, j < rx.length * i.size → (olds.toArray ++ news ++ Builtin.zeroCells zv.cells (nc - (rx.length + ry.length)))[0 + j]? = arr[l.d + j]? := fun j hj => by
        have hlt : j < olds.length := by omega
        have h1 : olds[j]? = some olds[j] := List.getElem?_eq_getElem hlt
        rw [ho2 j _ h1, Nat.zero_add, Array.append_assoc, Array.getElem?_append_left (by simpa using hlt)]
        simp [hlt]
      have hget2 : ∀ j, j < ry.length * i.size → (olds.toArray ++ news ++ Builtin.zeroCells zv.cells (nc - (rx.length + ry.length)))[0 + rx.length * i.size + j]? = news[j]? := fun j hj => by
        rw [Array.append_assoc, Array.getElem?_append_right (by simp; omega), Array.getElem?_append_left (by simp; omega)]
        congr 1
        simp; omega
      exact DRr.append (hrows.congr hget1) (hynews _ _ hget2)
end
end Go.Proofs.YtjaaajmiojigbaaGreatDoor
