/- The plain reader of parenthesized text, byte by byte: no program in sight. -/
namespace Go.Proofs.YtcajkijnpknacaaGreatDoor

/-- A row of nodes: kind, text, children, offset; then the nodes behind it. -/
inductive Fr where
  | nil : Fr
  | cons (k : Int) (t : List UInt8) (kids : Fr) (o : Int) (rest : Fr) : Fr

def Fr.len : Fr → Nat
  | .nil => 0
  | .cons _ _ _ _ r => r.len + 1

def Fr.app : Fr → Fr → Fr
  | .nil, b => b
  | .cons k t c o r, b => .cons k t c o (r.app b)

def Fr.size : Fr → Nat
  | .nil => 0
  | .cons _ _ c _ r => c.size + r.size + 1

theorem Fr.app_nil (a : Fr) : a.app .nil = a := by
  induction a with
  | nil => rfl
  | cons k t c o r _ ih => simp [Fr.app, ih]

theorem Fr.app_assoc (a b c : Fr) : (a.app b).app c = a.app (b.app c) := by
  induction a with
  | nil => rfl
  | cons k t c o r _ ih => simp [Fr.app, ih]

theorem Fr.len_app (a b : Fr) : (a.app b).len = a.len + b.len := by
  induction a with
  | nil => simp [Fr.app, Fr.len]
  | cons k t c o r _ ih => simp [Fr.app, Fr.len, ih]; omega

theorem Fr.len_le_size (a : Fr) : a.len ≤ a.size := by
  induction a with
  | nil => simp [Fr.len]
  | cons k t c o r _ ih => simp [Fr.len, Fr.size]; omega

/- The bytes. -/
def letterB (c : Int) : Bool := (decide (97 ≤ c) && decide (c ≤ 122)) || (decide (65 ≤ c) && decide (c ≤ 90))
def digitB (c : Int) : Bool := decide (48 ≤ c) && decide (c ≤ 57)
def wordB (c : Int) : Bool := letterB c || digitB c || c == 95 || c == 45
def stringB (c : Int) : Bool := decide (32 ≤ c) && decide (c ≤ 126)

theorem letterB_iff (c : Int) : letterB c = true ↔ (97 ≤ c ∧ c ≤ 122) ∨ (65 ≤ c ∧ c ≤ 90) := by simp [letterB]
theorem digitB_iff (c : Int) : digitB c = true ↔ 48 ≤ c ∧ c ≤ 57 := by simp [digitB]
theorem wordB_iff (c : Int) : wordB c = true ↔ (97 ≤ c ∧ c ≤ 122) ∨ (65 ≤ c ∧ c ≤ 90) ∨ (48 ≤ c ∧ c ≤ 57) ∨ c = 95 ∨ c = 45 := by
  simp [wordB, letterB, digitB, or_assoc]
theorem stringB_iff (c : Int) : stringB c = true ↔ 32 ≤ c ∧ c ≤ 126 := by simp [stringB]

/-- The number of a byte. -/
def bt (c : UInt8) : Int := (c.toNat : Int)

/-- The lists that are open, the innermost first: offset and nodes so far. -/
abbrev Stack := List (Nat × Fr)

def addTop (k : Int) (t : List UInt8) (kids : Fr) (o : Nat) : Stack → Stack
  | [] => []
  | (p, l) :: st => (p, l.app (.cons k t kids (o : Int) .nil)) :: st

/-- What the reader is in the middle of. -/
inductive Mode where
  | plain : Mode
  | comment : Mode
  | word (start : Nat) (acc : List UInt8) : Mode
  | text (start : Nat) (acc : List UInt8) : Mode
  | escape (start : Nat) (acc : List UInt8) : Mode

abbrev Res := Except (Int × Nat) Fr

/-- A byte outside words, strings and comments. -/
def act (c : UInt8) (pos : Nat) (st : Stack) : Except (Int × Nat) (Mode × Stack) :=
  if bt c == 32 || bt c == 10 then .ok (.plain, st)
  else if bt c == 59 then .ok (.comment, st)
  else if bt c == 40 then (if st.length ≤ 40 then .ok (.plain, (pos, .nil) :: st) else .error (9, pos))
  else if bt c == 41 then
    match st with
    | (p, l) :: b :: r => .ok (.plain, addTop 3 [] l p (b :: r))
    | _ => .error (2, pos)
  else if bt c == 34 then .ok (.text pos [], st)
  else if wordB (bt c) then .ok (.word pos [c], st)
  else .error (2, pos)

def endOf (pos : Nat) : Stack → Res
  | [(_, l)] => .ok l
  | _ => .error (2, pos)

def wordAt (start : Nat) (acc : List UInt8) (st : Stack) : Except (Int × Nat) Stack :=
  if acc.length ≤ 24 then .ok (addTop 1 acc .nil start st) else .error (4, start)

/-- The reader: the bytes that are left, the position, what it is in, the open lists. -/
def go : List UInt8 → Nat → Mode → Stack → Res
  | [], pos, .plain, st => endOf pos st
  | [], pos, .comment, st => endOf pos st
  | [], pos, .word start acc, st =>
    match wordAt start acc st with
    | .ok st' => endOf pos st'
    | .error e => .error e
  | [], pos, .text _ _, _ => .error (2, pos)
  | [], pos, .escape _ _, _ => .error (2, pos - 1)
  | c :: rest, pos, .plain, st =>
    match act c pos st with
    | .ok (m, st') => go rest (pos + 1) m st'
    | .error e => .error e
  | c :: rest, pos, .comment, st => if bt c == 10 then go rest (pos + 1) .plain st else go rest (pos + 1) .comment st
  | c :: rest, pos, .word start acc, st =>
    if wordB (bt c) then go rest (pos + 1) (.word start (acc ++ [c])) st
    else
      match wordAt start acc st with
      | .ok st' =>
        match act c pos st' with
        | .ok (m, st'') => go rest (pos + 1) m st''
        | .error e => .error e
      | .error e => .error e
  | c :: rest, pos, .text start acc, st =>
    if bt c == 34 then (if acc.length ≤ 2000 then go rest (pos + 1) .plain (addTop 2 acc .nil start st) else .error (4, start))
    else if stringB (bt c) then
      (if bt c == 92 then go rest (pos + 1) (.escape start acc) st else go rest (pos + 1) (.text start (acc ++ [c])) st)
    else .error (2, pos)
  | c :: rest, pos, .escape start acc, st =>
    if bt c == 34 || bt c == 92 then go rest (pos + 1) (.text start (acc ++ [c])) st else .error (2, pos - 1)

def parse (s : List UInt8) : Res := if s.length ≤ 65536 then go s 0 .plain [(0, .nil)] else .error (4, 0)

/- What a byte outside words, strings and comments does. -/
theorem act_space {c : UInt8} {pos : Nat} {st : Stack} (h : bt c = 32 ∨ bt c = 10) : act c pos st = .ok (.plain, st) := by
  rcases h with h | h <;> simp [act, h]
theorem act_comment {c : UInt8} {pos : Nat} {st : Stack} (h : bt c = 59) : act c pos st = .ok (.comment, st) := by simp [act, h]
theorem act_open {c : UInt8} {pos : Nat} {st : Stack} (h : bt c = 40) (hd : st.length ≤ 40) : act c pos st = .ok (.plain, (pos, .nil) :: st) := by simp [act, h, hd]
theorem act_deep {c : UInt8} {pos : Nat} {st : Stack} (h : bt c = 40) (hd : ¬ st.length ≤ 40) : act c pos st = .error (9, pos) := by simp [act, h, hd]
theorem act_close {c : UInt8} {pos p p' : Nat} {l l' : Fr} {st : Stack} (h : bt c = 41) : act c pos ((p, l) :: (p', l') :: st) = .ok (.plain, (p', l'.app (.cons 3 [] l p .nil)) :: st) := by simp [act, h, addTop]
theorem act_none {c : UInt8} {pos : Nat} {x : Nat × Fr} (h : bt c = 41) : act c pos [x] = .error (2, pos) := by simp [act, h]
theorem act_text {c : UInt8} {pos : Nat} {st : Stack} (h : bt c = 34) : act c pos st = .ok (.text pos [], st) := by simp [act, h]
theorem act_word {c : UInt8} {pos : Nat} {st : Stack} (h : wordB (bt c) = true) : act c pos st = .ok (.word pos [c], st) := by
  have := (wordB_iff (bt c)).1 h
  have h1 : ¬ bt c = 32 := by omega
  have h2 : ¬ bt c = 10 := by omega
  have h3 : ¬ bt c = 59 := by omega
  have h4 : ¬ bt c = 40 := by omega
  have h5 : ¬ bt c = 41 := by omega
  have h6 : ¬ bt c = 34 := by omega
  simp [act, h1, h2, h3, h4, h5, h6, h]
theorem act_bad {c : UInt8} {pos : Nat} {st : Stack} (h : wordB (bt c) = false) (h1 : ¬ bt c = 32) (h2 : ¬ bt c = 10) (h3 : ¬ bt c = 59) (h4 : ¬ bt c = 40) (h5 : ¬ bt c = 41) (h6 : ¬ bt c = 34) : act c pos st = .error (2, pos) := by
  simp [act, h1, h2, h3, h4, h5, h6, h]

/- The reader's steps, one by one. -/
section
variable {s : List UInt8} {pos : Nat} {st : Stack}

theorem go_end (h : s.length ≤ pos) : go (s.drop pos) pos .plain st = endOf pos st := by
  rw [List.drop_of_length_le h]; rfl

theorem drop_at (h : pos < s.length) : s.drop pos = s[pos] :: s.drop (pos + 1) := List.drop_eq_getElem_cons h

/-- A word is finished: the byte behind it is no word's, or the text ends. -/
theorem go_word_done (start : Nat) (acc : List UInt8) (h : ∀ hl : pos < s.length, wordB (bt s[pos]) = false) :
    go (s.drop pos) pos (.word start acc) st = match wordAt start acc st with
      | .ok st' => go (s.drop pos) pos .plain st'
      | .error e => .error e := by
  by_cases hl : pos < s.length
  · rw [drop_at hl]
    simp only [go, h hl, Bool.false_eq_true, if_false]
  · rw [List.drop_of_length_le (by omega)]
    simp only [go]

theorem go_word_more (start : Nat) (acc : List UInt8) (hl : pos < s.length) (h : wordB (bt s[pos]) = true) :
    go (s.drop pos) pos (.word start acc) st = go (s.drop (pos + 1)) (pos + 1) (.word start (acc ++ [s[pos]])) st := by
  rw [drop_at hl]
  simp only [go, h, if_true]

theorem go_comment_more (hl : pos < s.length) (h : (bt s[pos] == 10) = false) :
    go (s.drop pos) pos .comment st = go (s.drop (pos + 1)) (pos + 1) .comment st := by
  rw [drop_at hl]
  simp only [go, h, Bool.false_eq_true, if_false]

theorem go_comment_done (h : ∀ hl : pos < s.length, (bt s[pos] == 10) = true) :
    go (s.drop pos) pos .comment st = go (s.drop pos) pos .plain st := by
  by_cases hl : pos < s.length
  · rw [drop_at hl]
    simp only [go, h hl, if_true, act, Bool.or_true]
  · rw [List.drop_of_length_le (by omega)]
    simp only [go]
end
end Go.Proofs.YtcajkijnpknacaaGreatDoor
