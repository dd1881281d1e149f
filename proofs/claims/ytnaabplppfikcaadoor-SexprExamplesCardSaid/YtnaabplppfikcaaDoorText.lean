/- Texts of nodes, plainly: what the reader makes of them. -/
import Derived.Test.YtnaabplppfikcaaDoorTree
namespace Go.Proofs.YtnaabplppfikcaaDoor

/-- The text of a string in quotes. -/
def esc : List UInt8 → List UInt8
  | [] => []
  | c :: r => if c = 34 ∨ c = 92 then 92 :: c :: esc r else c :: esc r
def quote (t : List UInt8) : List UInt8 := 34 :: (esc t ++ [34])

/-- No word goes on here. -/
def Stops (s : List UInt8) : Prop := ∀ c r, s = c :: r → wordB (bt c) = false
theorem Stops.nil : Stops [] := fun _ _ h => by cases h
theorem Stops.cons {c : UInt8} {r : List UInt8} (h : wordB (bt c) = false) : Stops (c :: r) := fun _ _ e => by cases e; exact h

/-- A word is read to its end. -/
theorem go_wordrun : ∀ (t rest : List UInt8) (pos start : Nat) (acc : List UInt8) (st : Stack), (∀ c ∈ t, wordB (bt c) = true) → go (t ++ rest) pos (.word start acc) st = go rest (pos + t.length) (.word start (acc ++ t)) st
  | [], rest, pos, start, acc, st, _ => by simp
  | c :: t, rest, pos, start, acc, st, h => by
    rw [List.cons_append, go, if_pos (h c (by simp)), go_wordrun t rest _ _ _ _ (fun x hx => h x (by simp [hx]))]
    simp [Nat.add_assoc, Nat.add_comm 1]
theorem go_wordend {rest : List UInt8} {pos start : Nat} {acc : List UInt8} {p : Nat} {l : Fr} {st : Stack} (hs : Stops rest) (hl : acc.length ≤ 24) : go rest pos (.word start acc) ((p, l) :: st) = go rest pos .plain ((p, l.app (.cons 1 acc .nil start .nil)) :: st) := by
  cases rest with
  | nil => simp [go, wordAt, hl, addTop]
  | cons c r => simp [go, wordAt, hl, addTop, hs c r rfl]
theorem go_word {t rest : List UInt8} {pos p : Nat} {l : Fr} {st : Stack} (h0 : t ≠ []) (h : ∀ c ∈ t, wordB (bt c) = true) (hl : t.length ≤ 24) (hs : Stops rest) :
    go (t ++ rest) pos .plain ((p, l) :: st) = go rest (pos + t.length) .plain ((p, l.app (.cons 1 t .nil pos .nil)) :: st) := by
  cases t with
  | nil => exact absurd rfl h0
  | cons c t =>
    rw [List.cons_append, go, act_word (h c (by simp))]
    simp only []
    rw [go_wordrun t rest _ _ _ _ (fun x hx => h x (by simp [hx])), go_wordend hs (by simpa using hl)]
    simp [Nat.add_assoc, Nat.add_comm 1]

theorem bt34 : bt 34 = 34 := rfl
theorem bt92 : bt 92 = 92 := rfl
theorem bt_eq {c : UInt8} {n : Nat} (hn : n < 256) : bt c = (n : Int) ↔ c = UInt8.ofNat n := by
  constructor
  · intro h
    have h1 : c.toNat = n := by unfold bt at h; omega
    rw [← h1]; simp
  · intro h
    subst h
    unfold bt
    simp; omega

theorem go_backslash (rest : List UInt8) (pos start : Nat) (acc : List UInt8) (st : Stack) : go (92 :: rest) pos (.text start acc) st = go rest (pos + 1) (.escape start acc) st := by simp [go, bt, stringB]
/-- A quoted text is read to its end. -/
theorem go_escrun : ∀ (t rest : List UInt8) (pos start : Nat) (acc : List UInt8) (st : Stack), (∀ c ∈ t, stringB (bt c) = true) → go (esc t ++ rest) pos (.text start acc) st = go rest (pos + (esc t).length) (.text start (acc ++ t)) st
  | [], rest, pos, start, acc, st, _ => by simp [esc]
  | c :: t, rest, pos, start, acc, st, h => by
    have ih := fun pos acc => go_escrun t rest pos start acc st (fun x hx => h x (by simp [hx]))
    by_cases hc : c = 34 ∨ c = 92
    · simp only [esc, if_pos hc, List.cons_append]
      rw [go_backslash, go, if_pos (by rcases hc with rfl | rfl <;> decide), ih]
      simp [Nat.add_assoc, Nat.add_comm 2]
    · simp only [esc, if_neg hc, List.cons_append]
      have h34 : ¬ bt c = 34 := fun e => hc (.inl ((bt_eq (n := 34) (by omega)).1 e))
      have h92 : ¬ bt c = 92 := fun e => hc (.inr ((bt_eq (n := 92) (by omega)).1 e))
      rw [go, if_neg (by simpa using h34), if_pos (h c (by simp)), if_neg (by simpa using h92), ih]
      simp [Nat.add_assoc, Nat.add_comm 1]
theorem go_quote {t rest : List UInt8} {pos p : Nat} {l : Fr} {st : Stack} (h : ∀ c ∈ t, stringB (bt c) = true) (hl : t.length ≤ 2000) :
    go (quote t ++ rest) pos .plain ((p, l) :: st) = go rest (pos + (quote t).length) .plain ((p, l.app (.cons 2 t .nil pos .nil)) :: st) := by
  unfold quote
  rw [List.cons_append, go, act_text bt34]
  simp only []
  rw [List.append_assoc, go_escrun t _ _ _ _ _ h, List.singleton_append, go, if_pos (by rfl), List.nil_append, if_pos hl]
  simp [addTop, Nat.add_assoc, Nat.add_comm 1]

/-- What stands between nodes. -/
def Sep (s : List UInt8) : Prop := (∀ rest pos st, go (s ++ rest) pos .plain st = go rest (pos + s.length) .plain st) ∧ Stops s
theorem Sep.nil : Sep [] := ⟨fun _ _ _ => by simp, Stops.nil⟩

/-- The texts of a row of nodes that is nested in d lists at most. -/
def TxtF (Q : List UInt8 → Prop) : Fr → Nat → List UInt8 → Prop
  | .nil, _, s => Q s
  | .cons k t c _ r, d, s => ∃ sep s1 s2, s = sep ++ (s1 ++ s2) ∧ Q sep ∧ TxtF Q r d s2 ∧ Stops s2 ∧
      ((k = 1 ∧ s1 = t ∧ t ≠ [] ∧ (∀ x ∈ t, wordB (bt x) = true) ∧ t.length ≤ 24 ∧ c = .nil) ∨ (k = 2 ∧ s1 = quote t ∧ (∀ x ∈ t, stringB (bt x) = true) ∧ t.length ≤ 2000 ∧ c = .nil) ∨
       (k = 3 ∧ t = [] ∧ 0 < d ∧ ∃ body, s1 = 40 :: (body ++ [41]) ∧ TxtF Q c (d - 1) body))

theorem stops_append {a b : List UInt8} (ha : Stops a) (hb : Stops b) : Stops (a ++ b) := by
  cases a with
  | nil => exact hb
  | cons c r => exact fun x y e => by cases e; exact ha c r rfl

/-- What the reader makes of a text. -/
theorem go_txt {Q : List UInt8 → Prop} (hQ : ∀ s, Q s → Sep s) : ∀ (l : Fr) (d : Nat) (s : List UInt8), TxtF Q l d s → ∀ (rest : List UInt8) (pos p : Nat) (acc : Fr) (st : Stack), Stops rest → st.length + d ≤ 40 →
    ∃ l', l'.eqf l = true ∧ go (s ++ rest) pos .plain ((p, acc) :: st) = go rest (pos + s.length) .plain ((p, acc.app l') :: st)
  | .nil, d, s, h, rest, pos, p, acc, st, hr, hd => ⟨.nil, rfl, by rw [Fr.app_nil]; exact (hQ s h).1 rest pos _⟩
  | .cons k t c o r, d, s, h, rest, pos, p, acc, st, hr, hd => by
    obtain ⟨sep, s1, s2, rfl, hsep, hr2, hst, hk⟩ := h
    have hst2 := stops_append hst hr
    have key : ∃ c', c'.eqf c = true ∧ go (s1 ++ (s2 ++ rest)) (pos + sep.length) .plain ((p, acc) :: st) = go (s2 ++ rest) (pos + sep.length + s1.length) .plain ((p, acc.app (.cons k t c' (pos + sep.length : Nat) .nil)) :: st) := by
      rcases hk with ⟨rfl, rfl, h0, h1, h2, rfl⟩ | ⟨rfl, rfl, h1, h2, rfl⟩ | ⟨rfl, rfl, h0, body, rfl, hb⟩
      · exact ⟨.nil, rfl, go_word h0 h1 h2 hst2⟩
      · exact ⟨.nil, rfl, go_quote h1 h2⟩
      · obtain ⟨c', hc', hgo⟩ := go_txt hQ c (d - 1) body hb (41 :: (s2 ++ rest)) (pos + sep.length + 1) (pos + sep.length) .nil ((p, acc) :: st) (Stops.cons (by decide)) (by simp; omega)
        refine ⟨c', hc', ?_⟩
        rw [List.cons_append, go, act_open (by rfl) (by simp; omega)]
        simp only [List.append_assoc, List.singleton_append]
        rw [hgo, go, act_close (by rfl)]
        simp only [Fr.app]
        congr 1
        simp; omega
    obtain ⟨c', hc', hgo⟩ := key
    obtain ⟨r', hr', hgo2⟩ := go_txt hQ r d s2 hr2 rest (pos + sep.length + s1.length) p (acc.app (.cons k t c' (pos + sep.length : Nat) .nil)) st hr hd
    refine ⟨.cons k t c' (pos + sep.length : Nat) r', by simp [Fr.eqf, hc', hr'], ?_⟩
    rw [List.append_assoc, List.append_assoc, (hQ sep hsep).1, hgo, hgo2, Fr.app_assoc]
    simp only [Fr.app, List.length_append]
    congr 1
    omega

/-- One node. -/
theorem go_node {Q : List UInt8 → Prop} (hQ : ∀ s, Q s → Sep s) {k o : Int} {t : List UInt8} {c : Fr} {d : Nat} {s : List UInt8} (h : TxtF Q (.cons k t c o .nil) d s) (rest : List UInt8) (pos p : Nat) (acc : Fr) (st : Stack) (hr : Stops rest) (hd : st.length + d ≤ 40) :
    ∃ c' o', c'.eqf c = true ∧ go (s ++ rest) pos .plain ((p, acc) :: st) = go rest (pos + s.length) .plain ((p, acc.app (.cons k t c' o' .nil)) :: st) := by
  obtain ⟨l', h1, h2⟩ := go_txt hQ _ d s h rest pos p acc st hr hd
  match l', h1 with
  | .cons k' t' c' o' .nil, h1 =>
    simp only [Fr.eqf, Bool.and_true, Bool.and_eq_true, beq_iff_eq] at h1
    obtain ⟨⟨rfl, rfl⟩, h3⟩ := h1
    exact ⟨c', o', h3, h2⟩
  | .cons _ _ _ _ (.cons _ _ _ _ _), h1 => simp [Fr.eqf] at h1
  | .nil, h1 => simp [Fr.eqf] at h1

/-- One node whose text begins here: its offset is told. -/
theorem go_node1 {Q : List UInt8 → Prop} (hQ : ∀ s, Q s → Sep s) {k : Int} {t : List UInt8} {c : Fr} {d : Nat} {s1 : List UInt8}
    (hk : (k = 1 ∧ s1 = t ∧ t ≠ [] ∧ (∀ x ∈ t, wordB (bt x) = true) ∧ t.length ≤ 24 ∧ c = .nil) ∨ (k = 2 ∧ s1 = quote t ∧ (∀ x ∈ t, stringB (bt x) = true) ∧ t.length ≤ 2000 ∧ c = .nil) ∨ (k = 3 ∧ t = [] ∧ 0 < d ∧ ∃ body, s1 = 40 :: (body ++ [41]) ∧ TxtF Q c (d - 1) body))
    (rest : List UInt8) (pos p : Nat) (acc : Fr) (st : Stack) (hr : Stops rest) (hd : st.length + d ≤ 40) :
    ∃ c', c'.eqf c = true ∧ go (s1 ++ rest) pos .plain ((p, acc) :: st) = go rest (pos + s1.length) .plain ((p, acc.app (.cons k t c' (pos : Nat) .nil)) :: st) := by
  rcases hk with ⟨rfl, rfl, h0, h1, h2, rfl⟩ | ⟨rfl, rfl, h1, h2, rfl⟩ | ⟨rfl, rfl, h0, body, rfl, hb⟩
  · exact ⟨.nil, rfl, go_word h0 h1 h2 hr⟩
  · exact ⟨.nil, rfl, go_quote h1 h2⟩
  · obtain ⟨c', hc', hgo⟩ := go_txt hQ c (d - 1) body hb (41 :: rest) (pos + 1) pos .nil ((p, acc) :: st) (Stops.cons (by decide)) (by simp; omega)
    refine ⟨c', hc', ?_⟩
    rw [List.cons_append, go, act_open (by rfl) (by simp; omega)]
    simp only [List.append_assoc, List.singleton_append]
    rw [hgo, go, act_close (by rfl)]
    simp only [Fr.app]
    congr 1
    simp; omega

theorem end_open {pos p : Nat} {l : Fr} {st : Stack} (h : st ≠ []) : go [] pos .plain ((p, l) :: st) = .error (2, pos) := by
  cases st with
  | nil => exact absurd rfl h
  | cons x r => simp [go, endOf]

/-- A quoted text that breaks off. -/
theorem esc_cut : ∀ (t : List UInt8) (m pos start : Nat) (acc : List UInt8) (st : Stack), (∀ c ∈ t, stringB (bt c) = true) → ∃ o, go ((esc t).take m) pos (.text start acc) st = .error (2, o)
  | [], m, pos, start, acc, st, _ => ⟨pos, by simp [esc, go]⟩
  | c :: t, 0, pos, start, acc, st, _ => ⟨pos, by simp [go]⟩
  | c :: t, m + 1, pos, start, acc, st, h => by
    have ih := fun m pos acc => esc_cut t m pos start acc st (fun x hx => h x (by simp [hx]))
    by_cases hc : c = 34 ∨ c = 92
    · simp only [esc, if_pos hc, List.take_succ_cons]
      cases m with
      | zero => exact ⟨pos, by rw [go_backslash]; simp [go]⟩
      | succ m =>
        rw [List.take_succ_cons, go_backslash, go, if_pos (by rcases hc with rfl | rfl <;> decide)]
        exact ih m _ _
    · simp only [esc, if_neg hc, List.take_succ_cons]
      have h34 : ¬ bt c = 34 := fun e => hc (.inl ((bt_eq (n := 34) (by omega)).1 e))
      have h92 : ¬ bt c = 92 := fun e => hc (.inr ((bt_eq (n := 92) (by omega)).1 e))
      rw [go, if_neg (by simpa using h34), if_pos (h c (by simp)), if_neg (by simpa using h92)]
      exact ih m _ _

/-- Between nodes: nothing or one space. -/
def Gap (s : List UInt8) : Prop := s = [] ∨ s = [32]
theorem Gap.sep {s : List UInt8} (h : Gap s) : Sep s := by
  rcases h with rfl | rfl
  · exact Sep.nil
  · exact ⟨fun rest pos st => by rw [List.singleton_append, go, act_space (.inl (by rfl))]; rfl, Stops.cons (by decide)⟩
theorem stops_take {s : List UInt8} (h : Stops s) (m : Nat) : Stops (s.take m) := by
  cases s with
  | nil => simpa using Stops.nil
  | cons c r => cases m with
    | zero => exact Stops.nil
    | succ m => exact Stops.cons (h c r rfl)

/-- A text that breaks off inside an open list is no complete text. -/
theorem txt_cut : ∀ (l : Fr) (d : Nat) (s : List UInt8), TxtF Gap l d s → ∀ (m pos p : Nat) (acc : Fr) (st : Stack), st ≠ [] → st.length + d ≤ 40 → ∃ o, go (s.take m) pos .plain ((p, acc) :: st) = .error (2, o)
  | .nil, d, s, h, m, pos, p, acc, st, hst, hd => by
    rcases (show Gap s from h) with rfl | rfl
    · exact ⟨_, by rw [List.take_nil]; exact end_open hst⟩
    · cases m with
      | zero => exact ⟨_, end_open hst⟩
      | succ m => exact ⟨_, by rw [List.take_succ_cons, List.take_nil, go, act_space (.inl (by rfl))]; exact end_open hst⟩
  | .cons k t c o r, d, s, h, m, pos, p, acc, st, hst, hd => by
    obtain ⟨sep, s1, s2, rfl, hsep, hr2, hs2, hk⟩ := h
    by_cases hm : m ≤ sep.length
    · rw [List.take_append_of_le_length hm]
      rcases (show Gap sep from hsep) with rfl | rfl
      · exact ⟨_, by rw [List.take_nil]; exact end_open hst⟩
      · cases m with
        | zero => exact ⟨_, end_open hst⟩
        | succ m => exact ⟨_, by rw [List.take_succ_cons, List.take_nil, go, act_space (.inl (by rfl))]; exact end_open hst⟩
    · obtain ⟨m', rfl⟩ : ∃ m', m = sep.length + m' := ⟨m - sep.length, by omega⟩
      rw [List.take_length_add_append, hsep.sep.1]
      by_cases hm1 : m' ≤ s1.length
      · rw [List.take_append_of_le_length hm1]
        rcases hk with ⟨rfl, rfl, h0, h1, h2, rfl⟩ | ⟨rfl, rfl, h1, h2, rfl⟩ | ⟨rfl, rfl, h0, body, rfl, hb⟩
        · by_cases hz : m' = 0
          · subst hz; exact ⟨_, end_open hst⟩
          · have hw := go_word (t := s1.take m') (rest := []) (pos := pos + sep.length) (p := p) (l := acc) (st := st) (by intro e; have := congrArg List.length e; simp at this; rcases this with h | h; exact hz h; exact h0 h) (fun x hx => h1 x (List.mem_of_mem_take hx)) (by simp; omega) Stops.nil
            rw [List.append_nil] at hw
            exact ⟨_, by rw [hw]; exact end_open hst⟩
        · by_cases hf : m' = (quote t).length
          · have hw := go_quote (t := t) (rest := []) (pos := pos + sep.length) (p := p) (l := acc) (st := st) h1 h2
            rw [List.append_nil] at hw
            exact ⟨_, by rw [hf, List.take_length, hw]; exact end_open hst⟩
          · cases m' with
            | zero => exact ⟨_, end_open hst⟩
            | succ m' =>
              have hl : (quote t).length = (esc t).length + 2 := by simp [quote]
              unfold quote
              rw [List.take_succ_cons, go, act_text bt34]
              simp only []
              rw [List.take_append_of_le_length (by omega)]
              exact esc_cut t m' _ _ _ _ h1
        · cases m' with
          | zero => exact ⟨_, end_open hst⟩
          | succ m' =>
            rw [List.take_succ_cons, go, act_open (by rfl) (by simp; omega)]
            simp only []
            by_cases hmb : m' ≤ body.length
            · rw [List.take_append_of_le_length hmb]
              exact txt_cut c (d - 1) body hb m' _ _ _ _ (by simp) (by simp; omega)
            · have hf : m' = (body ++ [41]).length := by simp at hm1 ⊢; omega
              rw [hf, List.take_length]
              obtain ⟨c', _, hgo⟩ := go_txt (fun s hs => Gap.sep hs) c (d - 1) body hb [41] (pos + sep.length + 1) (pos + sep.length) .nil ((p, acc) :: st) (Stops.cons (by decide)) (by simp; omega)
              exact ⟨_, by rw [hgo, go, act_close (by rfl)]; exact end_open hst⟩
      · obtain ⟨m2, rfl⟩ : ∃ m2, m' = s1.length + m2 := ⟨m' - s1.length, by omega⟩
        rw [List.take_length_add_append]
        obtain ⟨c', o', _, hgo⟩ := go_node (fun s hs => Gap.sep hs) (k := k) (o := o) (t := t) (c := c) (d := d) (s := s1) ⟨[], s1, [], by simp, .inl rfl, .inl rfl, Stops.nil, hk⟩ (s2.take m2) (pos + sep.length) p acc st (stops_take hs2 m2) hd
        rw [hgo]
        exact txt_cut r d s2 hr2 m2 _ _ _ _ hst hd

/-- The text that FormatNode writes: the nodes with one space between them. -/
def Fr.join : Fr → Bool → List UInt8
  | .nil, _ => []
  | .cons k t c _ r, first => (if first then [] else [32]) ++ ((if k = 1 then t else if k = 2 then quote t else 40 :: (c.join true ++ [41])) ++ r.join false)
end Go.Proofs.YtnaabplppfikcaaDoor
