/- What an abstract memory says of a world. -/
import Derived.Test.YtjaaajmiojigbaaGreatDoorEv
import Derived.Below
import Derived.Lib.Hide
import Derived.Laws.Append
import Derived.Laws.Rows
namespace Go.Proofs.YtjaaajmiojigbaaGreatDoor
open Go Go.RowKit
variable {E : Env} {X : Ctx}

/-- Where a block lies: its number in the world, the first of its cells, how many cells there are from it on. -/
structure Loc where
  g : Nat
  d : Nat
  m : Nat
/-- Where the blocks lie; the blocks that nobody turns any more, with what they hold. -/
structure Mp where
  at_ : Nat → Option Loc
  fz : Nat → Option Obj
instance : CoeFun Mp (fun _ => Nat → Option Loc) := ⟨Mp.at_⟩

def bsOf (l : List Nat) : ByteArray := ⟨(l.map UInt8.ofNat).toArray⟩

mutual
/-- A value of the world reads as a datum; the memory that it leads to is frozen. -/
def DR (fz : Nat → Option Obj) : D → Value → Prop
  | .int k n, v => v = .int k n
  | .bool b, v => v = .bool b
  | .str l, v => v = .string (bsOf l) ∧ ∀ x ∈ l, x < 256
  | .sl rows, v => ∃ a cap, v = .slice a rows.length cap ∧ rows.length ≤ cap ∧ cap ≤ maxLen ∧ (rows = [] ∨ ∃ g d arr T fr z, a = some ⟨g, d, none⟩ ∧ fz g = some (.cells arr T fr) ∧ DRr fz z rows arr d)
  | .any _, _ => False
def DRc (fz : Nat → Option Obj) : List D → Array Value → Nat → Prop
  | [], _, _ => True
  | c :: cs, arr, d => (∃ u, arr[d]? = some u ∧ DR fz c u) ∧ DRc fz cs arr (d + 1)
def DRr (fz : Nat → Option Obj) (z : Nat) : List (List D) → Array Value → Nat → Prop
  | [], _, _ => True
  | r :: rs, arr, d => r.length = z ∧ DRc fz r arr d ∧ DRr fz z rs arr (d + z)
end

/-- Only more becomes frozen. -/
def FExt (a b : Nat → Option Obj) : Prop := ∀ g o, a g = some o → b g = some o
theorem FExt.refl (a : Nat → Option Obj) : FExt a a := fun _ _ h => h
theorem FExt.trans {a b c : Nat → Option Obj} (h : FExt a b) (k : FExt b c) : FExt a c := fun g o hg => k g o (h g o hg)

mutual
theorem DR.mono {a b : Nat → Option Obj} (hx : FExt a b) : ∀ {d : D} {v : Value}, DR a d v → DR b d v
  | .int _ _, _, h => h
  | .bool _, _, h => h
  | .str _, _, h => h
  | .any _, _, h => h
  | .sl rows, _, ⟨ad, cap, h1, h2, h3, h4⟩ => ⟨ad, cap, h1, h2, h3, h4.imp id fun ⟨g, d, arr, T, fr, z, h5, h6, h7⟩ => ⟨g, d, arr, T, fr, z, h5, hx g _ h6, DRr.mono hx h7⟩⟩
theorem DRc.mono {a b : Nat → Option Obj} (hx : FExt a b) : ∀ {cs : List D} {arr : Array Value} {d : Nat}, DRc a cs arr d → DRc b cs arr d
  | [], _, _, _ => True.intro
  | _ :: _, _, _, ⟨⟨u, h1, h2⟩, h3⟩ => ⟨⟨u, h1, DR.mono hx h2⟩, DRc.mono hx h3⟩
theorem DRr.mono {a b : Nat → Option Obj} (hx : FExt a b) {z : Nat} : ∀ {rs : List (List D)} {arr : Array Value} {d : Nat}, DRr a z rs arr d → DRr b z rs arr d
  | [], _, _, _ => True.intro
  | _ :: _, _, _, ⟨h1, h2, h3⟩ => ⟨h1, DRc.mono hx h2, DRr.mono hx h3⟩
end

/-- What a package variable holds: data, or a value that is told whole. -/
def GR (fz : Nat → Option Obj) (d : D) (v : Value) : Prop := match d with
  | .any x => v = x
  | d => DR fz d v
theorem GR.mono {a b : Nat → Option Obj} (hx : FExt a b) {d : D} {v : Value} (h : GR a d v) : GR b d v := by
  cases d with
  | any x => exact h
  | _ => exact DR.mono hx h
theorem GR.dr {a : Nat → Option Obj} {d : D} {v : Value} (hn : ∀ x, d ≠ .any x) (h : GR a d v) : DR a d v := by
  cases d with
  | any x => exact absurd rfl (hn x)
  | _ => exact h
theorem GR.of {a : Nat → Option Obj} {d : D} {v : Value} (h : DR a d v) : GR a d v := by
  cases d with
  | any x => exact h.elim
  | _ => exact h

theorem DR.form {fz : Nat → Option Obj} {d : D} {u : Value} (h : DR fz d u) : (∃ k n, u = .int k n) ∨ (∃ b, u = .bool b) ∨ (∃ s, u = .string s) ∨ ∃ a n c, u = .slice a n c := by
  cases d with
  | int k n => exact .inl ⟨k, n, h⟩
  | bool b => exact .inr (.inl ⟨b, h⟩)
  | str l => exact .inr (.inr (.inl ⟨_, h.1⟩))
  | sl rows => obtain ⟨a, cap, h, _⟩ := h; exact .inr (.inr (.inr ⟨a, _, cap, h⟩))
  | any _ => exact h.elim
theorem DRc.get {fz : Nat → Option Obj} : ∀ {cs : List D} {arr : Array Value} {d j : Nat} {c : D}, DRc fz cs arr d → cs[j]? = some c → ∃ u, arr[d + j]? = some u ∧ DR fz c u
  | [], _, _, _, _, _, h => by simp at h
  | x :: cs, arr, d, 0, c, ⟨⟨u, h1, h2⟩, _⟩, h => by simp at h; subst h; exact ⟨u, h1, h2⟩
  | x :: cs, arr, d, j + 1, c, ⟨_, h3⟩, h => by
    obtain ⟨u, h4, h5⟩ := h3.get (j := j) (by simpa using h)
    exact ⟨u, by rw [← h4]; congr 1; omega, h5⟩
theorem DRr.get {fz : Nat → Option Obj} {z : Nat} : ∀ {rs : List (List D)} {arr : Array Value} {d i : Nat} {r : List D}, DRr fz z rs arr d → rs[i]? = some r → r.length = z ∧ DRc fz r arr (d + i * z)
  | [], _, _, _, _, _, h => by simp at h
  | x :: rs, arr, d, 0, r, ⟨h1, h2, _⟩, h => by simp at h; subst h; exact ⟨h1, by simpa using h2⟩
  | x :: rs, arr, d, i + 1, r, ⟨_, _, h3⟩, h => by
    obtain ⟨h4, h5⟩ := h3.get (i := i) (by simpa using h)
    refine ⟨h4, ?_⟩
    rw [show d + (i + 1) * z = d + z + i * z by rw [Nat.succ_mul]; omega]
    exact h5

mutual
/-- A value of the world is meant by an abstract one. -/
def VR (E : Env) (ρ : Mp) : AV → Value → Prop
  | .bool b, v => v = .bool b
  | .int k n, v => v = .int k n
  | .str l, v => v = .string (bsOf l) ∧ ∀ x ∈ l, x < 256
  | .nilPtr, v => v = .pointer none
  | .ptr b o, v => ∃ c, ρ b = some c ∧ v = .pointer (some ⟨c.g, c.d + o, none⟩)
  | .nilSlice, v => v = .slice none 0 0
  | .emptyS, v => ∃ a c, v = .slice a 0 c
  | .zeroS, v => ∃ a, v = .slice a 0 0
  | .slice b o n c z, v => ∃ l cap, ρ b = some l ∧ v = .slice (some ⟨l.g, l.d + o, none⟩) n cap ∧ n ≤ c ∧ c ≤ cap ∧ cap ≤ maxLen ∧ o + cap * z ≤ l.m
  | .nilMap, v => v = .map none
  | .map b, v => ∃ l, ρ b = some l ∧ v = .map (some l.g)
  | .fn f a b, v => ∃ xs ys, v = .func f (List.toArray xs) (List.toArray ys) ∧ VRs E ρ a xs ∧ VRs E ρ b ys
  | .nilFn, v => v = .nilFunc
  | .iface t x, v => ∃ y, v = .iface t y ∧ VR E ρ x y
  | .nilIface, v => v = .nilIface
  | .agg cs, v => ∃ xs, v = .agg (List.toArray xs) ∧ VRs E ρ cs xs
  | .tuple cs, v => ∃ xs, v = .tuple (List.toArray xs) ∧ VRs E ρ cs xs
  | .yieldF, v => ∃ l, v = .func (.yield l) #[] #[]
  | .sx e, v => ∃ d, den E.val e = some d ∧ DR ρ.fz d v
  | .gsl b e z, v => ∃ l cap rows, ρ b = some l ∧ den E.val e = some (.sl rows) ∧ v = .slice (some ⟨l.g, l.d, none⟩) rows.length cap ∧ rows.length ≤ cap ∧ cap ≤ maxLen ∧ cap * z ≤ l.m
  | .fp a i j, v => ∃ rows k n row arr T fr g q, den E.val a = some (.sl rows) ∧ den E.val i = some (.int k (n : Nat)) ∧ rows[n]? = some row ∧ ρ.fz g = some (.cells arr T fr) ∧ v = .pointer (some ⟨g, q + j, none⟩) ∧ DRc ρ.fz row arr q
def VRs (E : Env) (ρ : Mp) : List AV → List Value → Prop
  | [], vs => vs = []
  | a :: as, vs => ∃ x xs, vs = x :: xs ∧ VR E ρ a x ∧ VRs E ρ as xs
end

structure Ext (ρ σ : Mp) : Prop where
  map : ∀ b l, ρ b = some l → σ b = some l
  fz : FExt ρ.fz σ.fz
instance {ρ σ : Mp} : CoeFun (Ext ρ σ) (fun _ => ∀ b l, ρ b = some l → σ b = some l) := ⟨Ext.map⟩
theorem Ext.refl (ρ : Mp) : Ext ρ ρ := ⟨fun _ _ h => h, .refl _⟩
theorem Ext.trans {a b c : Mp} (h : Ext a b) (k : Ext b c) : Ext a c := ⟨fun x l hx => k x l (h x l hx), h.fz.trans k.fz⟩

mutual
theorem VR.mono {ρ σ : Mp} (hx : Ext ρ σ) : ∀ {a : AV} {v : Value}, VR E ρ a v → VR E σ a v
  | .bool _, _, h => h
  | .int _ _, _, h => h
  | .str _, _, h => h
  | .nilPtr, _, h => h
  | .ptr _ _, _, ⟨c, h1, h2⟩ => ⟨c, hx _ _ h1, h2⟩
  | .nilSlice, _, h => h
  | .emptyS, _, h => h
  | .zeroS, _, h => h
  | .slice .., _, ⟨l, cap, h1, h2⟩ => ⟨l, cap, hx _ _ h1, h2⟩
  | .nilMap, _, h => h
  | .map _, _, ⟨l, h1, h2⟩ => ⟨l, hx _ _ h1, h2⟩
  | .fn .., _, ⟨xs, ys, h1, h2, h3⟩ => ⟨xs, ys, h1, VRs.mono hx h2, VRs.mono hx h3⟩
  | .nilFn, _, h => h
  | .iface _ _, _, ⟨y, h1, h2⟩ => ⟨y, h1, VR.mono hx h2⟩
  | .nilIface, _, h => h
  | .agg _, _, ⟨xs, h1, h2⟩ => ⟨xs, h1, VRs.mono hx h2⟩
  | .tuple _, _, ⟨xs, h1, h2⟩ => ⟨xs, h1, VRs.mono hx h2⟩
  | .yieldF, _, h => h
  | .sx _, _, ⟨d, h1, h2⟩ => ⟨d, h1, h2.mono hx.fz⟩
  | .gsl .., _, ⟨l, cap, rows, h1, h2⟩ => ⟨l, cap, rows, hx _ _ h1, h2⟩
  | .fp .., _, ⟨rows, k, n, row, arr, T, fr, g, q, h1, h2, h3, h4, h5, h6⟩ => ⟨rows, k, n, row, arr, T, fr, g, q, h1, h2, h3, hx.fz _ _ h4, h5, h6.mono hx.fz⟩
theorem VRs.mono {ρ σ : Mp} (hx : Ext ρ σ) : ∀ {as : List AV} {vs : List Value}, VRs E ρ as vs → VRs E σ as vs
  | [], _, h => h
  | _ :: _, _, ⟨x, xs, h1, h2, h3⟩ => ⟨x, xs, h1, VR.mono hx h2, VRs.mono hx h3⟩
end

theorem VRs.length {ρ : Mp} : ∀ {as : List AV} {vs : List Value}, VRs E ρ as vs → vs.length = as.length
  | [], _, h => by rw [show _ = [] from h]; rfl
  | _ :: _, _, ⟨_, _, h1, _, h3⟩ => by rw [h1, List.length_cons, h3.length, List.length_cons]
theorem VRs.get {ρ : Mp} : ∀ {as : List AV} {vs : List Value} {i : Nat} {a : AV}, VRs E ρ as vs → as[i]? = some a → ∃ v, vs[i]? = some v ∧ VR E ρ a v
  | [], _, _, _, _, h => by simp at h
  | _ :: _, _, 0, _, ⟨x, xs, h1, h2, _⟩, h => by simp at h; subst h; exact ⟨x, by rw [h1]; rfl, h2⟩
  | _ :: _, _, i + 1, _, ⟨x, xs, h1, _, h3⟩, h => by
    obtain ⟨v, hv, hr⟩ := h3.get (i := i) (by simpa using h)
    exact ⟨v, by rw [h1]; simpa using hv, hr⟩
theorem VRs.append {ρ : Mp} : ∀ {as bs : List AV} {vs ws : List Value}, VRs E ρ as vs → VRs E ρ bs ws → VRs E ρ (as ++ bs) (vs ++ ws)
  | [], _, _, _, h, k => by rw [show _ = [] from h]; exact k
  | _ :: _, _, _, _, ⟨x, xs, h1, h2, h3⟩, k => ⟨x, xs ++ _, by rw [h1]; rfl, h2, h3.append k⟩
theorem VRs.take {ρ : Mp} : ∀ {as : List AV} {vs : List Value} (n : Nat), VRs E ρ as vs → VRs E ρ (as.take n) (vs.take n)
  | [], _, n, h => by rw [show _ = [] from h]; simp [VRs]
  | _ :: _, _, 0, _ => by simp [VRs]
  | _ :: _, _, n + 1, ⟨x, xs, h1, h2, h3⟩ => ⟨x, xs.take n, by rw [h1]; rfl, h2, h3.take n⟩
theorem VRs.drop {ρ : Mp} : ∀ {as : List AV} {vs : List Value} (n : Nat), VRs E ρ as vs → VRs E ρ (as.drop n) (vs.drop n)
  | [], _, n, h => by rw [show _ = [] from h]; simp [VRs]
  | _ :: _, _, 0, h => h
  | _ :: _, _, n + 1, ⟨x, xs, h1, _, h3⟩ => by rw [h1]; exact h3.drop n

/-- The temporaries. -/
structure FR (E : Env) (ρ : Mp) (tm : Tr AV) (tmps : Array Value) : Prop where
  get : ∀ t x, tm.get t = some x → ∃ v, tmps[t]? = some v ∧ VR E ρ x v

theorem FR.mono {ρ σ : Mp} {tm : Tr AV} {tmps : Array Value} (h : FR E ρ tm tmps) (hx : Ext ρ σ) : FR E σ tm tmps :=
  ⟨fun t x ht => let ⟨v, h1, h2⟩ := h.get t x ht; ⟨v, h1, h2.mono hx⟩⟩
theorem FR.put {ρ : Mp} {tm : Tr AV} {tmps : Array Value} (h : FR E ρ tm tmps) {d : Nat} {x : AV} {v : Value} (hd : d < tmps.size) (hv : VR E ρ x v) : FR E ρ (tm.set d x) (tmps.setIfInBounds d v) := by
  refine ⟨fun t y ht => ?_⟩
  rcases Tr.get_set ht with ⟨rfl, rfl⟩ | ⟨h1, h2⟩
  · exact ⟨v, by simp [hd], hv⟩
  · obtain ⟨u, h3, h4⟩ := h.get t y h2
    exact ⟨u, by rw [Array.getElem?_setIfInBounds_ne (Ne.symm h1)]; exact h3, h4⟩

/-- Entries of a map. -/
def EsR (E : Env) (ρ : Mp) : List (AV × AV) → List MapEntry → Prop
  | [], es => es = []
  | (k, v) :: r, es => ∃ e es', es = e :: es' ∧ VR E ρ k e.key ∧ VR E ρ v e.val ∧ EsR E ρ r es'
theorem EsR.mono {ρ σ : Mp} (hx : Ext ρ σ) : ∀ {as : List (AV × AV)} {es : List MapEntry}, EsR E ρ as es → EsR E σ as es
  | [], _, h => h
  | _ :: _, _, ⟨e, es, h1, h2, h3, h4⟩ => ⟨e, es, h1, h2.mono hx, h3.mono hx, h4.mono hx⟩

/-- One block. -/
def OR (E : Env) (base : Nat) (ρ : Mp) (w : World) (l : Loc) : AO → Prop
  | .cells ro vs n => ∃ arr e fr, w.heap[l.g]? = some (.cells arr e fr) ∧ (ro = false → arr.size = l.d + l.m) ∧ n ≤ l.m ∧
      (∀ j x, vs.get j = some x → j < n ∧ ∃ v, arr[l.d + j]? = some v ∧ VR E ρ x v) ∧ (ro = false → base ≤ l.g ∧ fr = (0, 0))
  | .map es => base ≤ l.g ∧ ∃ arr cl, w.heap[l.g]? = some (.map arr cl) ∧ EsR E ρ es arr.toList
  | .siter s pos => base ≤ l.g ∧ w.heap[l.g]? = some (.stringIter (bsOf s) pos) ∧ l.d = 0 ∧ ∀ x ∈ s, x < 256
  | .seq z e => base ≤ l.g ∧ ∃ arr T rows, w.heap[l.g]? = some (.cells arr T (0, 0)) ∧ den E.val e = some (.sl rows) ∧ arr.size = l.d + l.m ∧ rows.length * z ≤ l.m ∧ DRr ρ.fz z rows arr l.d
  | .row z e => ∃ arr T fr rows, ρ.fz l.g = some (.cells arr T fr) ∧ w.heap[l.g]? = some (.cells arr T fr) ∧ den E.val e = some (.sl rows) ∧ DRr ρ.fz z rows arr l.d

def AO.wr : AO → Prop
  | .cells ro _ _ => ro = false
  | .row _ _ => False
  | _ => True

theorem OR.mono {base : Nat} {ρ σ : Mp} {w w' : World} {l : Loc} {o : AO} (h : OR E base ρ w l o) (hx : Ext ρ σ) (hw : w'.heap[l.g]? = w.heap[l.g]?) : OR E base σ w' l o := by
  cases o with
  | cells ro vs n =>
    obtain ⟨arr, e, fr, h1, h2, h3, h4, h5⟩ := h
    exact ⟨arr, e, fr, hw.trans h1, h2, h3, fun j x hj => let ⟨a, v, b, c⟩ := h4 j x hj; ⟨a, v, b, c.mono hx⟩, h5⟩
  | map es =>
    obtain ⟨h0, arr, cl, h1, h2⟩ := h
    exact ⟨h0, arr, cl, hw.trans h1, h2.mono hx⟩
  | siter s pos => exact ⟨h.1, hw.trans h.2.1, h.2.2⟩
  | seq z e =>
    obtain ⟨h0, arr, T, rows, h1, h2, h3, h4, h5⟩ := h
    exact ⟨h0, arr, T, rows, hw.trans h1, h2, h3, h4, h5.mono hx.fz⟩
  | row z e =>
    obtain ⟨arr, T, fr, rows, h0, h1, h2, h3⟩ := h
    exact ⟨arr, T, fr, rows, hx.fz _ _ h0, hw.trans h1, h2, h3.mono hx.fz⟩
theorem OR.lt {base : Nat} {ρ : Mp} {w : World} {l : Loc} {o : AO} (h : OR E base ρ w l o) : l.g < w.heap.size := by
  have : (w.heap[l.g]?).isSome = true := by
    cases o with
    | cells ro vs n => obtain ⟨arr, e, fr, h1, _⟩ := h; rw [h1]; rfl
    | map es => obtain ⟨_, arr, cl, h1, _⟩ := h; rw [h1]; rfl
    | siter s pos => rw [h.2.1]; rfl
    | seq z e => obtain ⟨_, arr, T, rows, h1, _⟩ := h; rw [h1]; rfl
    | row z e => obtain ⟨arr, T, fr, rows, _, h1, _⟩ := h; rw [h1]; rfl
  simpa using this
theorem OR.base {base : Nat} {ρ : Mp} {w : World} {l : Loc} {o : AO} (h : OR E base ρ w l o) (hw : o.wr) : base ≤ l.g := by
  cases o with
  | cells ro vs n => obtain ⟨arr, e, fr, _, _, _, _, h5⟩ := h; exact (h5 hw).1
  | map es => exact h.1
  | siter s pos => exact h.1
  | seq z e => exact h.1
  | row z e => exact hw.elim

/-- The whole memory. -/
structure HR (E : Env) (base : Nat) (ρ : Mp) (s : St) (w : World) : Prop where
  objs : ∀ b o, s.H.get b = some o → ∃ l, ρ b = some l ∧ OR E base ρ w l o
  apart : ∀ b b' o o' l l', s.H.get b = some o → s.H.get b' = some o' → b ≠ b' → o.wr → ρ b = some l → ρ b' = some l' → l.g ≠ l'.g
  fresh : ρ s.nx = none ∧ ∀ b, s.hi ≤ b → ρ b = none
  base : base ≤ w.heap.size
  frz : ∀ g o, ρ.fz g = some o → w.heap[g]? = some o
  fzap : ∀ b o l, s.H.get b = some o → o.wr → ρ b = some l → ρ.fz l.g = none

/-- What a step may turn: blocks that are written in the abstract memory; nothing else that was there. -/
structure Turn (ρ : Mp) (s : St) (w : World) (σ : Mp) (s' : St) (w' : World) : Prop where
  ext : Ext ρ σ
  nx : s.hi ≤ s'.hi ∧ (s'.nx = s.nx ∨ s.hi ≤ s'.nx)
  os : w'.os = w.os
  tape : w'.tape = w.tape
  output : w'.output = w.output
  size : w.heap.size ≤ w'.heap.size
  block : ∀ g, g < w.heap.size → (∀ b o l, s.H.get b = some o → o.wr → ρ b = some l → l.g ≠ g) → w'.heap[g]? = w.heap[g]?
  from_ : ∀ b o l, s'.H.get b = some o → σ b = some l → w.heap.size ≤ l.g ∨ ∃ b0 o0 l0, s.H.get b0 = some o0 ∧ ρ b0 = some l0 ∧ l0.g = l.g ∧ (o.wr → o0.wr)
  old : ∀ b, b < s.hi → b ≠ s.nx → σ b = ρ b
  fzs : ∀ g o, σ.fz g = some o → ρ.fz g = some o ∨ w.heap.size ≤ g ∨ ∃ b o' l, s.H.get b = some o' ∧ o'.wr ∧ ρ b = some l ∧ l.g = g

theorem Turn.refl {base : Nat} {ρ : Mp} {s : St} {w : World} (_ : HR E base ρ s w) : Turn ρ s w ρ s w :=
  ⟨Ext.refl _, ⟨Nat.le_refl _, .inl rfl⟩, rfl, rfl, rfl, Nat.le_refl _, fun _ _ _ => rfl, fun b o l hb hl => .inr ⟨b, o, l, hb, hl, rfl, id⟩, fun _ _ _ => rfl, fun _ _ h => .inl h⟩
theorem Turn.trans {ρ σ τ : Mp} {s s' s'' : St} {w w' w'' : World} (h : Turn ρ s w σ s' w') (k : Turn σ s' w' τ s'' w'') : Turn ρ s w τ s'' w'' := by
  refine ⟨h.ext.trans k.ext, ⟨Nat.le_trans h.nx.1 k.nx.1, by have := h.nx; have := k.nx; omega⟩, k.os.trans h.os, k.tape.trans h.tape, k.output.trans h.output, Nat.le_trans h.size k.size, fun g hg hn => ?_, fun b o l hb hl => ?_, fun b hb hne => (k.old b (Nat.lt_of_lt_of_le hb h.nx.1) (by have := h.nx; omega)).trans (h.old b hb hne), fun g o hg => ?_⟩
  · rw [k.block g (Nat.lt_of_lt_of_le hg h.size) fun b o l hb hw hl e => ?_]
    · exact h.block g hg hn
    · rcases h.from_ b o l hb hl with h1 | ⟨b0, o0, l0, h1, h2, h3, h4⟩
      · omega
      · exact hn b0 o0 l0 h1 (h4 hw) h2 (h3.trans e)
  · rcases k.from_ b o l hb hl with h1 | ⟨b0, o0, l0, h1, h2, h3, h4⟩
    · exact .inl (Nat.le_trans h.size h1)
    · rcases h.from_ b0 o0 l0 h1 h2 with h5 | ⟨b1, o1, l1, h5, h6, h7, h8⟩
      · exact .inl (by omega)
      · exact .inr ⟨b1, o1, l1, h5, h6, h7.trans h3, fun hw => h8 (h4 hw)⟩
  · rcases k.fzs g o hg with h1 | h1 | ⟨b, o', l, h1, h2, h3, h4⟩
    · exact h.fzs g o h1
    · exact .inr (.inl (Nat.le_trans h.size h1))
    · rcases h.from_ b o' l h1 h3 with h5 | ⟨b0, o0, l0, h5, h6, h7, h8⟩
      · exact .inr (.inl (by omega))
      · exact .inr (.inr ⟨b0, o0, l0, h5, h8 h2, h6, h7.trans h4⟩)
theorem Turn.below {base : Nat} {ρ σ : Mp} {s s' : St} {w w' : World} (h : Turn ρ s w σ s' w') (hr : HR E base ρ s w) : Below base w w' :=
  ⟨h.os, h.tape, h.output, h.size, fun g hg => h.block g (Nat.lt_of_lt_of_le hg hr.base) fun b o l hb hw hl e => by
    obtain ⟨l', h1, h2⟩ := hr.objs b o hb
    rw [hl] at h1
    obtain rfl := Option.some.inj h1
    have := h2.base hw
    omega⟩

theorem HR.at {base : Nat} {ρ : Mp} {s : St} {w : World} (h : HR E base ρ s w) {b : Nat} {o : AO} {l : Loc} (hb : s.H.get b = some o) (hl : ρ b = some l) : OR E base ρ w l o := by
  obtain ⟨l', h1, h2⟩ := h.objs b o hb
  rw [hl] at h1
  obtain rfl := Option.some.inj h1
  exact h2

/-- Cells that are read. -/
theorem readN_get {vs : Tr AV} : ∀ {n o : Nat} {cs : List AV}, readN vs o n = some cs → cs.length = n ∧ ∀ j x, cs[j]? = some x → vs.get (o + j) = some x
  | 0, _, _, h => by simp [readN] at h; subst h; simp
  | n + 1, o, cs, h => by
    simp only [readN] at h
    cases h1 : vs.get o with
    | none => simp [h1] at h
    | some v =>
      cases h2 : readN vs (o + 1) n with
      | none => simp [h1, h2] at h
      | some r =>
        simp [h1, h2] at h
        subst h
        obtain ⟨h3, h4⟩ := readN_get h2
        refine ⟨by simp [h3], fun j x hj => ?_⟩
        cases j with
        | zero => simp at hj; rw [Nat.add_zero, h1, hj]
        | succ j => have := h4 j x (by simpa using hj); rw [← this]; congr 1; omega

/-- A list of values that a list of abstract ones means, one by one. -/
theorem VRs.of_get {ρ : Mp} : ∀ {as : List AV} (f : Nat → Option Value), (∀ j x, as[j]? = some x → ∃ v, f j = some v ∧ VR E ρ x v) → ∃ vs, VRs E ρ as vs ∧ ∀ j v, vs[j]? = some v → f j = some v
  | [], f, _ => ⟨[], rfl, by simp⟩
  | a :: as, f, h => by
    obtain ⟨v, hv, hr⟩ := h 0 a rfl
    obtain ⟨vs, h1, h2⟩ := VRs.of_get (as := as) (fun j => f (j + 1)) (fun j x hj => h (j + 1) x (by simpa using hj))
    refine ⟨v :: vs, ⟨v, vs, rfl, hr, h1⟩, fun j u hu => ?_⟩
    cases j with
    | zero => simp at hu; subst hu; exact hv
    | succ j => exact h2 j u (by simpa using hu)

theorem HR.load {base : Nat} {ρ : Mp} {s : St} {w : World} (h : HR E base ρ s w) {b o n : Nat} {cs : List AV} {l : Loc} (hl : ρ b = some l) (hs : s.load b o n = some cs) :
    ∃ vs, VRs E ρ cs vs ∧ vs.length = n ∧ ∀ j v, vs[j]? = some v → w.cell? ⟨l.g, l.d + o + j, none⟩ = some v := by
  unfold St.load at hs
  cases hb : s.H.get b with
  | none => simp [hb] at hs
  | some ob =>
    cases ob with
    | map _ => simp [hb] at hs
    | siter _ _ => simp [hb] at hs
    | seq _ _ => simp [hb] at hs
    | row _ _ => simp [hb] at hs
    | cells ro vs k =>
      simp only [hb] at hs
      obtain ⟨arr, e, fr, h1, h2, h3, h4, _⟩ := h.at hb hl
      obtain ⟨h5, h6⟩ := readN_get hs
      obtain ⟨us, h7, h8⟩ := VRs.of_get (E := E) (ρ := ρ) (as := cs) (fun j => arr[l.d + o + j]?) (fun j x hj => by
        obtain ⟨_, v, hv, hr⟩ := h4 (o + j) x (h6 j x hj)
        exact ⟨v, by rw [Nat.add_assoc]; exact hv, hr⟩)
      exact ⟨us, h7, h7.length.trans h5, fun j v hv => by rw [cell_of_row w _ _ _ _ _ h1]; exact h8 j v hv⟩
end Go.Proofs.YtjaaajmiojigbaaGreatDoor
