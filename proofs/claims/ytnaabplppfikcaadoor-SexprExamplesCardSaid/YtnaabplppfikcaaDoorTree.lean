/- Measures of rows of nodes, plainly. -/
import Derived.Test.YtnaabplppfikcaaDoorConv
namespace Go.Proofs.YtnaabplppfikcaaDoor
open Go.RowKit

def Fr.kidsum : Fr → Nat
  | .nil => 0
  | .cons _ _ c _ r => c.size + r.kidsum
theorem Fr.size_eq : ∀ l : Fr, l.size = l.len + l.kidsum
  | .nil => rfl
  | .cons k t c o r => by simp only [Fr.size, Fr.len, Fr.kidsum, Fr.size_eq r]; omega
theorem Fr.kidsum_app : ∀ a b : Fr, (a.app b).kidsum = a.kidsum + b.kidsum
  | .nil, b => by simp [Fr.app, Fr.kidsum]
  | .cons k t c o r, b => by simp only [Fr.app, Fr.kidsum, Fr.kidsum_app r b]; omega
theorem Fr.kidsum_take {l : Fr} {i : Nat} {k o : Int} {t : List UInt8} {c : Fr} (h : l.nth i = some (k, t, c, o)) : (l.take (i + 1)).kidsum = (l.take i).kidsum + c.size := by
  rw [Fr.take_succ h, Fr.kidsum_app]; simp [Fr.kidsum]
theorem Fr.kidsum_take_le : ∀ (l : Fr) (i : Nat), (l.take i).kidsum ≤ l.kidsum
  | .nil, _ => Nat.le_refl _
  | .cons k t c o r, 0 => Nat.zero_le _
  | .cons k t c o r, i + 1 => by have := Fr.kidsum_take_le r i; simp only [Fr.take, Fr.kidsum]; omega

def Fr.deep : Fr → Nat
  | .nil => 0
  | .cons k _ c _ r => max (c.deep + if k = 3 then 1 else 0) r.deep
theorem Fr.deep_app : ∀ a b : Fr, (a.app b).deep = max a.deep b.deep
  | .nil, b => by simp [Fr.app, Fr.deep]
  | .cons k t c o r, b => by simp only [Fr.app, Fr.deep, Fr.deep_app r b]; omega
theorem Fr.deep_take {l : Fr} {i : Nat} {k o : Int} {t : List UInt8} {c : Fr} (h : l.nth i = some (k, t, c, o)) : (l.take (i + 1)).deep = max (l.take i).deep (c.deep + if k = 3 then 1 else 0) := by
  rw [Fr.take_succ h, Fr.deep_app]; simp [Fr.deep]
theorem Fr.deep_le : ∀ l : Fr, l.deep ≤ l.size
  | .nil => Nat.le_refl _
  | .cons k t c o r => by
    have h1 := Fr.deep_le c
    have h2 := Fr.deep_le r
    simp only [Fr.deep, Fr.size]
    split <;> omega
theorem Fr.size_take_le : ∀ (l : Fr) (i : Nat), (l.take i).size ≤ l.size
  | .nil, _ => Nat.le_refl _
  | .cons k t c o r, 0 => Nat.zero_le _
  | .cons k t c o r, i + 1 => by have := Fr.size_take_le r i; simp only [Fr.take, Fr.size]; omega

/-- Equal but for offsets. -/
def Fr.eqf : Fr → Fr → Bool
  | .nil, .nil => true
  | .cons k t c _ r, .cons k' t' c' _ r' => (k == k') && (t == t') && c.eqf c' && r.eqf r'
  | _, _ => false
theorem Fr.eqf_refl : ∀ l : Fr, l.eqf l = true
  | .nil => rfl
  | .cons k t c o r => by simp [Fr.eqf, Fr.eqf_refl c, Fr.eqf_refl r]
theorem Fr.eqf_len : ∀ {a b : Fr}, a.eqf b = true → a.len = b.len
  | .nil, .nil, _ => rfl
  | .cons k t c _ r, .cons k' t' c' _ r', h => by
    simp only [Fr.eqf, Bool.and_eq_true] at h
    simp only [Fr.len, Fr.eqf_len h.2]
  | .nil, .cons _ _ _ _ _, h => by simp [Fr.eqf] at h
  | .cons _ _ _ _ _, .nil, h => by simp [Fr.eqf] at h
theorem Fr.eqf_at : ∀ {a b : Fr} {i : Nat} {k k' o o' : Int} {t t' : List UInt8} {c c' : Fr}, a.nth i = some (k, t, c, o) → b.nth i = some (k', t', c', o') → a.eqf b = true → ((k == k') && (t == t') && c.eqf c') = true
  | .cons k t c o r, .cons k' t' c' o' r', 0, _, _, _, _, _, _, _, _, h, h', e => by
    simp only [Fr.nth, Option.some.injEq, Prod.mk.injEq] at h h'
    obtain ⟨rfl, rfl, rfl, rfl⟩ := h
    obtain ⟨rfl, rfl, rfl, rfl⟩ := h'
    simp only [Fr.eqf, Bool.and_eq_true] at e
    simp [e.1]
  | .cons k t c o r, .cons k' t' c' o' r', i + 1, _, _, _, _, _, _, _, _, h, h', e => by
    simp only [Fr.eqf, Bool.and_eq_true] at e
    exact Fr.eqf_at (show r.nth i = _ from h) (show r'.nth i = _ from h') e.2
theorem Fr.eqf_app : ∀ {a b x y : Fr}, a.eqf b = true → x.eqf y = true → (a.app x).eqf (b.app y) = true
  | .nil, .nil, _, _, _, h => h
  | .cons k t c _ r, .cons k' t' c' _ r', _, _, h, h' => by
    simp only [Fr.eqf, Bool.and_eq_true] at h
    simp only [Fr.app, Fr.eqf, Bool.and_eq_true]
    exact ⟨h.1, Fr.eqf_app h.2 h'⟩
theorem Fr.eqf_next {a b : Fr} {i : Nat} {k k' o o' : Int} {t t' : List UInt8} {c c' : Fr} (h : a.nth i = some (k, t, c, o)) (h' : b.nth i = some (k', t', c', o')) (e : (a.take i).eqf (b.take i) = true) (e' : ((k == k') && (t == t') && c.eqf c') = true) : (a.take (i + 1)).eqf (b.take (i + 1)) = true := by
  rw [Fr.take_succ h, Fr.take_succ h']
  exact Fr.eqf_app e (by simp only [Fr.eqf, Bool.and_eq_true] at e' ⊢; exact ⟨e', trivial⟩)

/-- A reader of trees: it hands back a value and touches nothing that was there. -/
def Reads (w : World) (v : Value) (e : Ending) (w' : World) : Prop := e = .returned v ∧ w.grownBy w' none
end Go.Proofs.YtnaabplppfikcaaDoor
