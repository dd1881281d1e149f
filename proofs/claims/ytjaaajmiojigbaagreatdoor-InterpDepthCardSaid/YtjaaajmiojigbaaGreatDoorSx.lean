/- Symbolic terms, the data that they mean, and the kinds of such data. No program in sight. -/
import Derived.Test.YtjaaajmiojigbaaGreatDoorTrie
import Derived.Calls
namespace Go.Proofs.YtjaaajmiojigbaaGreatDoor
open Go

/-- Data: numbers, truths, strings, rows of elements (each element a list of cells). -/
inductive D where
  | int (k : IntKind) (n : Int)
  | bool (b : Bool)
  | str (l : List Nat)
  | sl (rows : List (List D))
  | any (v : Value)
  deriving Inhabited

/-- Terms over unknown data. -/
inductive SX where
  | var (i : Nat)
  | int (k : IntKind) (n : Int)
  | bool (b : Bool)
  | str (l : List Nat)
  | len (a : SX)
  | cell (a i : SX) (j : Nat)
  | byte (a i : SX)
  | bin (op : BinOp) (a b : SX)
  | not (a : SX)
  | neg (a : SX)
  | conv (k : IntKind) (a : SX)
  | sub (a lo hi : SX)
  | nilS
  | snoc (a : SX) (row : List SX)
  | cat (a b : SX)
  | lit (d : D)
  deriving Inhabited

/-- What is unknown; what the tables in package variables hold. -/
structure Env where
  val : Nat → D
  tab : Nat → Option D

noncomputable def lessB : List Nat → List Nat → Bool
  | _, [] => false
  | [], _ :: _ => true
  | a :: x, b :: y => decide (a < b) || (a == b && lessB x y)

def lenD : D → Option D
  | .str l => some (.int .i64 l.length)
  | .sl rows => some (.int .i64 rows.length)
  | _ => none
def cellD (j : Nat) : D → D → Option D
  | .sl rows, .int _ (.ofNat i) => match rows[i]? with
    | some row => row[j]?
    | none => none
  | _, _ => none
def byteD : D → D → Option D
  | .str l, .int _ (.ofNat i) => match l[i]? with
    | some c => some (.int .u8 (c : Int))
    | none => none
  | _, _ => none
noncomputable def binD (op : BinOp) : D → D → Option D
  | .int k a, .int k' b => if k = k' then
      match op with
      | .add => some (.int k (k.wrap (a + b)))
      | .sub => some (.int k (k.wrap (a - b)))
      | .mul => some (.int k (k.wrap (a * b)))
      | .quo => if b = 0 then none else some (.int k (k.wrap (a.tdiv b)))
      | .rem => if b = 0 then none else some (.int k (a.tmod b))
      | .eql => some (.bool (a == b))
      | .neq => some (.bool (a != b))
      | .lss => some (.bool (decide (a < b)))
      | .leq => some (.bool (decide (a ≤ b)))
      | .gtr => some (.bool (decide (b < a)))
      | .geq => some (.bool (decide (b ≤ a)))
      | _ => none
      else none
  | .str a, .str b =>
    match op with
    | .add => some (.str (a ++ b))
    | .eql => some (.bool (a == b))
    | .neq => some (.bool (!(a == b)))
    | .lss => some (.bool (lessB a b))
    | .leq => some (.bool (lessB a b || a == b))
    | .gtr => some (.bool (!(lessB a b || a == b)))
    | .geq => some (.bool (!lessB a b))
    | _ => none
  | .bool a, .bool b =>
    match op with
    | .eql => some (.bool (a == b))
    | .neq => some (.bool (!(a == b)))
    | _ => none
  | _, _ => none
def notD : D → Option D
  | .bool b => some (.bool (!b))
  | _ => none
def negD : D → Option D
  | .int k n => some (.int k (k.wrap (0 - n)))
  | _ => none
def convD (k : IntKind) : D → Option D
  | .int _ n => some (.int k (k.wrap n))
  | _ => none
def subD : D → D → D → Option D
  | .sl rows, .int _ (.ofNat lo), .int _ (.ofNat hi) => if lo ≤ hi ∧ hi ≤ rows.length then some (.sl ((rows.take hi).drop lo)) else none
  | .str l, .int _ (.ofNat lo), .int _ (.ofNat hi) => if lo ≤ hi ∧ hi ≤ l.length then some (.str ((l.take hi).drop lo)) else none
  | _, _, _ => none
def snocD : D → List D → Option D
  | .sl rows, row => some (.sl (rows ++ [row]))
  | _, _ => none
def catD : D → D → Option D
  | .sl a, .sl b => some (.sl (a ++ b))
  | _, _ => none

mutual
/-- What a term means. -/
noncomputable def den (E : Nat → D) : SX → Option D
  | .var i => some (E i)
  | .int k n => some (.int k n)
  | .bool b => some (.bool b)
  | .str l => some (.str l)
  | .len a => (den E a).bind lenD
  | .cell a i j => (den E a).bind fun x => (den E i).bind fun y => cellD j x y
  | .byte a i => (den E a).bind fun x => (den E i).bind fun y => byteD x y
  | .bin op a b => (den E a).bind fun x => (den E b).bind fun y => binD op x y
  | .not a => (den E a).bind notD
  | .neg a => (den E a).bind negD
  | .conv k a => (den E a).bind (convD k)
  | .sub a lo hi => (den E a).bind fun x => (den E lo).bind fun y => (den E hi).bind fun z => subD x y z
  | .nilS => some (.sl [])
  | .snoc a row => (den E a).bind fun x => (dens E row).bind fun r => snocD x r
  | .cat a b => (den E a).bind fun x => (den E b).bind fun y => catD x y
  | .lit d => some d
noncomputable def dens (E : Nat → D) : List SX → Option (List D)
  | [] => some []
  | a :: r => (den E a).bind fun x => (dens E r).bind fun xs => some (x :: xs)
end

mutual
/-- A test that says yes to equal terms alone. -/
noncomputable def SX.same : SX → SX → Bool
  | .var i, .var j => i == j
  | .int k n, .int k' n' => decide (k = k') && decide (n = n')
  | .bool a, .bool b => a == b
  | .str a, .str b => a == b
  | .len a, .len b => SX.same a b
  | .cell a i j, .cell b i' j' => j == j' && SX.same i i' && SX.same a b
  | .byte a i, .byte b i' => SX.same i i' && SX.same a b
  | .bin op a b, .bin op' a' b' => decide (op = op') && SX.same a a' && SX.same b b'
  | .not a, .not b => SX.same a b
  | .neg a, .neg b => SX.same a b
  | .conv k a, .conv k' b => decide (k = k') && SX.same a b
  | .sub a lo hi, .sub a' lo' hi' => SX.same lo lo' && SX.same hi hi' && SX.same a a'
  | .nilS, .nilS => true
  | .snoc a r, .snoc b r' => SX.same a b && SX.sames r r'
  | .cat a b, .cat a' b' => SX.same a a' && SX.same b b'
  | _, _ => false
noncomputable def SX.sames : List SX → List SX → Bool
  | [], [] => true
  | a :: as, b :: bs => SX.same a b && SX.sames as bs
  | _, _ => false
end

mutual
theorem SX.same_eq : ∀ {a b : SX}, SX.same a b = true → a = b
  | .var _, b, h => by cases b <;> simp_all [SX.same]
  | .int _ _, b, h => by cases b <;> simp_all [SX.same]
  | .bool _, b, h => by cases b <;> simp_all [SX.same]
  | .str _, b, h => by cases b <;> simp_all [SX.same]
  | .nilS, b, h => by cases b <;> simp_all [SX.same]
  | .lit _, b, h => by cases b <;> simp [SX.same] at h
  | .len a, b, h => by
    cases b with
    | len c => rw [SX.same_eq (a := a) (b := c) (by simpa [SX.same] using h)]
    | _ => simp [SX.same] at h
  | .not a, b, h => by
    cases b with
    | not c => rw [SX.same_eq (a := a) (b := c) (by simpa [SX.same] using h)]
    | _ => simp [SX.same] at h
  | .neg a, b, h => by
    cases b with
    | neg c => rw [SX.same_eq (a := a) (b := c) (by simpa [SX.same] using h)]
    | _ => simp [SX.same] at h
  | .conv k a, b, h => by
    cases b with
    | conv k' c =>
      simp only [SX.same, Bool.and_eq_true, decide_eq_true_eq] at h
      rw [h.1, SX.same_eq (a := a) (b := c) h.2]
    | _ => simp [SX.same] at h
  | .cell a i j, b, h => by
    cases b with
    | cell c i' j' =>
      simp only [SX.same, Bool.and_eq_true, beq_iff_eq] at h
      rw [h.1.1, SX.same_eq (a := i) (b := i') h.1.2, SX.same_eq (a := a) (b := c) h.2]
    | _ => simp [SX.same] at h
  | .byte a i, b, h => by
    cases b with
    | byte c i' =>
      simp only [SX.same, Bool.and_eq_true] at h
      rw [SX.same_eq (a := i) (b := i') h.1, SX.same_eq (a := a) (b := c) h.2]
    | _ => simp [SX.same] at h
  | .bin op a b, c, h => by
    cases c with
    | bin op' a' b' =>
      simp only [SX.same, Bool.and_eq_true, decide_eq_true_eq] at h
      rw [h.1.1, SX.same_eq (a := a) (b := a') h.1.2, SX.same_eq (a := b) (b := b') h.2]
    | _ => simp [SX.same] at h
  | .sub a lo hi, c, h => by
    cases c with
    | sub a' lo' hi' =>
      simp only [SX.same, Bool.and_eq_true] at h
      rw [SX.same_eq (a := lo) (b := lo') h.1.1, SX.same_eq (a := hi) (b := hi') h.1.2, SX.same_eq (a := a) (b := a') h.2]
    | _ => simp [SX.same] at h
  | .snoc a r, c, h => by
    cases c with
    | snoc a' r' =>
      simp only [SX.same, Bool.and_eq_true] at h
      rw [SX.same_eq (a := a) (b := a') h.1, SX.sames_eq (as := r) (bs := r') h.2]
    | _ => simp [SX.same] at h
  | .cat a b, c, h => by
    cases c with
    | cat a' b' =>
      simp only [SX.same, Bool.and_eq_true] at h
      rw [SX.same_eq (a := a) (b := a') h.1, SX.same_eq (a := b) (b := b') h.2]
    | _ => simp [SX.same] at h
theorem SX.sames_eq : ∀ {as bs : List SX}, SX.sames as bs = true → as = bs
  | [], bs, h => by cases bs <;> simp_all [SX.sames]
  | a :: as, bs, h => by
    cases bs with
    | nil => simp [SX.sames] at h
    | cons b bs =>
      simp only [SX.sames, Bool.and_eq_true] at h
      rw [SX.same_eq (a := a) (b := b) h.1, SX.sames_eq (as := as) (bs := bs) h.2]
end

/-- Kinds of data; an element of a row of kind sl T has the cells that the table lists under T. -/
inductive Kd where
  | int (k : IntKind)
  | bool
  | str
  | sl (T : Nat)
  deriving DecidableEq

/-- The longest string and the longest row that a kind allows. -/
def maxRow : Nat := 1000000
mutual
def HasK (kt : List (List Kd)) : D → Kd → Prop
  | .int k _, c => c = .int k
  | .bool _, c => c = .bool
  | .str l, c => c = .str ∧ l.length ≤ maxRow
  | .sl rows, c => ∃ T, c = .sl T ∧ rows.length ≤ maxRow ∧ HasKr kt rows (kt.getD T [])
  | .any _, _ => False
def HasKc (kt : List (List Kd)) : List D → List Kd → Prop
  | [], ks => ks = []
  | c :: cs, ks => ∃ k r, ks = k :: r ∧ HasK kt c k ∧ HasKc kt cs r
def HasKr (kt : List (List Kd)) : List (List D) → List Kd → Prop
  | [], _ => True
  | r :: rs, ks => HasKc kt r ks ∧ HasKr kt rs ks
end

noncomputable def kndC (vk : List Kd) (kt : List (List Kd)) : SX → Option Kd
  | .var i => vk[i]?
  | .int k _ => some (.int k)
  | .bool _ => some .bool
  | .str l => if l.length ≤ maxRow then some .str else none
  | .len _ => some (.int .i64)
  | .cell a _ j => match kndC vk kt a with
    | some (.sl T) => (kt.getD T [])[j]?
    | _ => none
  | .byte _ _ => some (.int .u8)
  | .bin op a _ => match op with
    | .add | .sub | .mul | .quo | .rem => match kndC vk kt a with
      | some (.int k) => some (.int k)
      | _ => none
    | .eql | .neq | .lss | .leq | .gtr | .geq => some .bool
    | _ => none
  | .not _ => some .bool
  | .neg a => kndC vk kt a
  | .conv k _ => some (.int k)
  | .sub a _ _ => kndC vk kt a
  | _ => none

theorem HasKc.get {kt : List (List Kd)} : ∀ {cs : List D} {ks : List Kd} {j : Nat} {c : D}, HasKc kt cs ks → cs[j]? = some c → ∃ k, ks[j]? = some k ∧ HasK kt c k
  | [], _, _, _, _, h => by simp at h
  | x :: cs, ks, 0, c, ⟨k, r, h1, h2, _⟩, h => by
    simp at h
    subst h
    exact ⟨k, by rw [h1]; rfl, h2⟩
  | x :: cs, ks, j + 1, c, ⟨k, r, h1, _, h3⟩, h => by
    obtain ⟨k', h4, h5⟩ := h3.get (j := j) (by simpa using h)
    exact ⟨k', by rw [h1]; simpa using h4, h5⟩
theorem HasKc.length {kt : List (List Kd)} : ∀ {cs : List D} {ks : List Kd}, HasKc kt cs ks → cs.length = ks.length
  | [], _, h => by rw [show _ = [] from h]; rfl
  | x :: cs, ks, ⟨k, r, h1, _, h3⟩ => by rw [h1, List.length_cons, List.length_cons, h3.length]
theorem HasKr.get {kt : List (List Kd)} : ∀ {rows : List (List D)} {ks : List Kd} {i : Nat} {row : List D}, HasKr kt rows ks → rows[i]? = some row → HasKc kt row ks
  | [], _, _, _, _, h => by simp at h
  | r :: rs, ks, 0, row, ⟨h1, _⟩, h => by simp at h; subst h; exact h1
  | r :: rs, ks, i + 1, row, ⟨_, h2⟩, h => h2.get (i := i) (by simpa using h)
theorem HasKr.of {kt : List (List Kd)} : ∀ {rows : List (List D)} {ks : List Kd}, (∀ row ∈ rows, HasKc kt row ks) → HasKr kt rows ks
  | [], _, _ => True.intro
  | r :: rs, ks, h => ⟨h r List.mem_cons_self, HasKr.of fun row hr => h row (List.mem_cons_of_mem _ hr)⟩
theorem HasKr.mem {kt : List (List Kd)} {rows : List (List D)} {ks : List Kd} (h : HasKr kt rows ks) : ∀ row ∈ rows, HasKc kt row ks := fun row hr => by
  obtain ⟨i, hi⟩ := List.getElem?_of_mem hr
  exact h.get hi

theorem HasK.fn {kt : List (List Kd)} {k : Kd} : ∀ {d : D}, HasK kt d k → ∀ {T}, k = .sl T → ∃ rows, d = .sl rows ∧ HasKr kt rows (kt.getD T [])
  | .int _ _, h, T, e => by rw [show k = _ from h] at e; cases e
  | .bool _, h, T, e => by rw [show k = _ from h] at e; cases e
  | .str _, ⟨h, _⟩, T, e => by rw [show k = _ from h] at e; cases e
  | .sl rows, ⟨T', h1, _, h2⟩, T, e => by
    rw [h1] at e
    cases e
    exact ⟨rows, rfl, h2⟩
  | .any _, h, T, e => h.elim
theorem HasK.int {kt : List (List Kd)} {d : D} {k : IntKind} (h : HasK kt d (.int k)) : ∃ n, d = .int k n := by
  cases d with
  | int k' n => cases h; exact ⟨n, rfl⟩
  | bool _ => cases h
  | str _ => cases h.1
  | sl _ => obtain ⟨T, h, _⟩ := h; cases h
  | any _ => exact h.elim
theorem HasK.bool {kt : List (List Kd)} {d : D} (h : HasK kt d .bool) : ∃ b, d = .bool b := by
  cases d with
  | int k' n => cases h
  | bool b => exact ⟨b, rfl⟩
  | str _ => cases h.1
  | sl _ => obtain ⟨T, h, _⟩ := h; cases h
  | any _ => exact h.elim
theorem HasK.str {kt : List (List Kd)} {d : D} (h : HasK kt d .str) : ∃ l, d = .str l ∧ l.length ≤ maxRow := by
  cases d with
  | int k' n => cases h
  | bool b => cases h
  | str l => exact ⟨l, rfl, h.2⟩
  | sl _ => obtain ⟨T, h, _⟩ := h; cases h
  | any _ => exact h.elim

theorem knd_ok {E : Nat → D} {vk : List Kd} {kt : List (List Kd)} (hv : ∀ i k, vk[i]? = some k → HasK kt (E i) k) : ∀ (e : SX) (d : D) (k : Kd), den E e = some d → kndC vk kt e = some k → HasK kt d k
  | .var i, d, k, h, hk => by
    simp only [den, Option.some.injEq] at h
    subst h
    exact hv i k hk
  | .int _ _, d, k, h, hk => by
    simp only [den, kndC, Option.some.injEq] at h hk
    subst h; subst hk; rfl
  | .bool _, d, k, h, hk => by
    simp only [den, kndC, Option.some.injEq] at h hk
    subst h; subst hk; rfl
  | .str l, d, k, h, hk => by
    simp only [den, kndC, Option.some.injEq] at h hk
    split at hk
    · rename_i hl
      cases hk
      subst h
      exact ⟨rfl, hl⟩
    · cases hk
  | .len a, d, k, h, hk => by
    simp only [den, kndC, Option.some.injEq] at h hk
    obtain ⟨x, _, h2⟩ := Option.bind_eq_some_iff.1 h
    subst hk
    unfold lenD at h2
    split at h2 <;> cases h2 <;> rfl
  | .cell a i j, d, k, h, hk => by
    simp only [den] at h
    obtain ⟨x, h1, h2⟩ := Option.bind_eq_some_iff.1 h
    obtain ⟨y, _, h4⟩ := Option.bind_eq_some_iff.1 h2
    simp only [kndC] at hk
    split at hk
    · rename_i T hT
      obtain ⟨rows, rfl, h5⟩ := HasK.fn (knd_ok hv a x _ h1 hT) rfl
      unfold cellD at h4
      split at h4
      · rename_i e _
        cases e
        split at h4
        · rename_i row hr
          obtain ⟨k', h6, h7⟩ := (h5.get hr).get h4
          rw [hk] at h6
          cases h6
          exact h7
        · cases h4
      · cases h4
    · cases hk
  | .byte a i, d, k, h, hk => by
    simp only [den, kndC, Option.some.injEq] at h hk
    subst hk
    obtain ⟨x, _, h2⟩ := Option.bind_eq_some_iff.1 h
    obtain ⟨y, _, h4⟩ := Option.bind_eq_some_iff.1 h2
    unfold byteD at h4
    split at h4
    · split at h4
      · cases h4; rfl
      · cases h4
    · cases h4
  | .bin op a b, d, k, h, hk => by
    simp only [den] at h
    obtain ⟨x, h1, h2⟩ := Option.bind_eq_some_iff.1 h
    obtain ⟨y, _, h4⟩ := Option.bind_eq_some_iff.1 h2
    have ia : ∀ k, kndC vk kt a = some k → HasK kt x k := fun k hk => knd_ok hv a x k h1 hk
    unfold binD at h4
    split at h4
    · rename_i k1 n1 k2 n2
      split at h4
      · cases op <;> simp only [kndC] at hk <;> simp only at h4 <;> (try (split at h4)) <;> first | (cases h4; done) | (cases hk; done) | (simp only [Option.some.injEq] at h4 hk; subst h4; subst hk; rfl) | (simp only [Option.some.injEq] at h4; subst h4; (split at hk) <;> first | (cases hk; done) | (rename_i k2 hk2; cases hk; have hq := ia _ hk2; cases hq; rfl))
      · cases h4
    · cases op <;> simp only [kndC] at hk <;> simp only at h4 <;> first | (cases h4; done) | (cases hk; done) | (simp only [Option.some.injEq] at h4 hk; subst h4; subst hk; rfl) | (simp only [Option.some.injEq] at h4; subst h4; (split at hk) <;> first | (cases hk; done) | (rename_i k2 hk2; cases hk; cases (ia _ hk2).1))
    · cases op <;> simp only [kndC] at hk <;> simp only at h4 <;> first | (cases h4; done) | (cases hk; done) | (simp only [Option.some.injEq] at h4 hk; subst h4; subst hk; rfl)
    · cases h4
  | .not a, d, k, h, hk => by
    simp only [den, kndC, Option.some.injEq] at h hk
    subst hk
    obtain ⟨x, _, h2⟩ := Option.bind_eq_some_iff.1 h
    unfold notD at h2
    split at h2
    · cases h2; rfl
    · cases h2
  | .neg a, d, k, h, hk => by
    simp only [den, kndC] at h hk
    obtain ⟨x, h1, h2⟩ := Option.bind_eq_some_iff.1 h
    have ia := knd_ok hv a x k h1 hk
    unfold negD at h2
    split at h2
    · cases h2; exact ia
    · cases h2
  | .conv k' a, d, k, h, hk => by
    simp only [den, kndC, Option.some.injEq] at h hk
    subst hk
    obtain ⟨x, _, h2⟩ := Option.bind_eq_some_iff.1 h
    unfold convD at h2
    split at h2
    · cases h2; rfl
    · cases h2
  | .sub a lo hi, d, k, h, hk => by
    simp only [den, kndC] at h hk
    obtain ⟨x, h1, h2⟩ := Option.bind_eq_some_iff.1 h
    obtain ⟨y, _, h4⟩ := Option.bind_eq_some_iff.1 h2
    obtain ⟨z, _, h6⟩ := Option.bind_eq_some_iff.1 h4
    have ia := knd_ok hv a x k h1 hk
    unfold subD at h6
    split at h6
    · split at h6
      · cases h6
        obtain ⟨T, h7, h9, h8⟩ := ia
        exact ⟨T, h7, by rw [List.length_drop, List.length_take]; omega, .of fun row hr => h8.mem row (List.mem_of_mem_take (List.mem_of_mem_drop hr))⟩
      · cases h6
    · split at h6
      · cases h6; exact ⟨ia.1, by rw [List.length_drop, List.length_take]; have := ia.2; omega⟩
      · cases h6
    · cases h6
  | .nilS, d, k, h, hk => by simp [kndC] at hk
  | .snoc _ _, d, k, h, hk => by simp [kndC] at hk
  | .cat _ _, d, k, h, hk => by simp [kndC] at hk
  | .lit _, d, k, h, hk => by simp [kndC] at hk
end Go.Proofs.YtjaaajmiojigbaaGreatDoor
