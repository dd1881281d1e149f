/- Calls told once: what a closed run shows over a small memory serves in every memory that holds the same blocks, under other numbers. No program in sight. -/
import Derived.Test.YtjaaajmiojigbaaGreatDoorEx
namespace Go.Proofs.YtjaaajmiojigbaaGreatDoor
open Go

inductive OL where
  | cells (ro : Bool) (cs : List AV)
  | map (es : List (AV × AV))
/-- A call, the blocks that it may look at, its answer, and what it leaves (blocks that it wrote, new ones). -/
structure Told where
  f : FuncId
  args : List AV
  pre : List (Nat × OL)
  nx : Nat
  val : AV
  post : List (Nat × OL)

noncomputable def OL.ao : OL → AO
  | .cells ro cs => .cells ro (writeN .leaf 0 cs) cs.length
  | .map es => .map es
noncomputable def OL.wr : OL → Bool
  | .cells ro _ => !ro
  | .map _ => true

mutual
noncomputable def AV.ren (q : Nat → Option Nat) : AV → Option AV
  | .ptr b o => match q b with
    | some c => some (.ptr c o)
    | none => none
  | .slice b o n c z => match q b with
    | some d => some (.slice d o n c z)
    | none => none
  | .map b => match q b with
    | some c => some (.map c)
    | none => none
  | .fn f x y => match AV.rens q x, AV.rens q y with
    | some x', some y' => some (.fn f x' y')
    | _, _ => none
  | .iface t x => match AV.ren q x with
    | some x' => some (.iface t x')
    | none => none
  | .agg l => match AV.rens q l with
    | some l' => some (.agg l')
    | none => none
  | .tuple l => match AV.rens q l with
    | some l' => some (.tuple l')
    | none => none
  | .bool b => some (.bool b)
  | .int k n => some (.int k n)
  | .str l => some (.str l)
  | .nilPtr => some .nilPtr
  | .nilSlice => some .nilSlice
  | .emptyS => some .emptyS
  | .zeroS => some .zeroS
  | .nilMap => some .nilMap
  | .nilFn => some .nilFn
  | .nilIface => some .nilIface
  | .sx e => some (.sx e)
  | _ => none
noncomputable def AV.rens (q : Nat → Option Nat) : List AV → Option (List AV)
  | [] => some []
  | a :: r => match AV.ren q a, AV.rens q r with
    | some a', some r' => some (a' :: r')
    | _, _ => none
end
noncomputable def esRen (q : Nat → Option Nat) : List (AV × AV) → Option (List (AV × AV))
  | [] => some []
  | (a, b) :: r => match AV.ren q a, AV.ren q b, esRen q r with
    | some a', some b', some r' => some ((a', b') :: r')
    | _, _, _ => none
noncomputable def esSame : List (AV × AV) → List (AV × AV) → Bool
  | [], [] => true
  | (a, b) :: r, (c, d) :: t => AV.same a c && AV.same b d && esSame r t
  | _, _ => false
noncomputable def OL.ren (q : Nat → Option Nat) : OL → Option OL
  | .cells ro cs => match AV.rens q cs with
    | some cs' => some (.cells ro cs')
    | none => none
  | .map es => match esRen q es with
    | some es' => some (.map es')
    | none => none
noncomputable def held (s : St) (b : Nat) (o : OL) : Bool := match s.H.get b, o with
  | some (.cells r vs _), .cells ro cs => (ro || !r) && (match readN vs 0 cs.length with
    | some l => AV.sames l cs
    | none => false)
  | some (.map es), .map fs => esSame es fs
  | _, _ => false

noncomputable def mkH : List (Nat × OL) → Tr AO → Tr AO
  | [], H => H
  | (a, o) :: r, H => (mkH r H).set a o.ao
noncomputable def mkT : List (Nat × Nat) → Tr Nat
  | [] => .leaf
  | (a, b) :: r => (mkT r).set a b
noncomputable def Told.st (R : Told) : St := ⟨mkH R.pre .leaf, R.nx, R.nx⟩

/-- What the closed run must show. -/
noncomputable def toldRun (R : Told) (r : Option Resp) : Bool := match r with
  | some (.call v s') => AV.same v R.val && R.post.all (fun p => held s' p.1 p.2 && p.2.wr)
  | _ => false

mutual
noncomputable def AV.pair : AV → AV → List (Nat × Nat) → List (Nat × Nat)
  | .ptr a _, .ptr b _, l => (a, b) :: l
  | .slice a _ _ _ _, .slice b _ _ _ _, l => (a, b) :: l
  | .map a, .map b, l => (a, b) :: l
  | .iface _ x, .iface _ y, l => AV.pair x y l
  | .agg x, .agg y, l => AV.pairs x y l
  | .tuple x, .tuple y, l => AV.pairs x y l
  | _, _, l => l
noncomputable def AV.pairs : List AV → List AV → List (Nat × Nat) → List (Nat × Nat)
  | a :: r, b :: t, l => AV.pair a b (AV.pairs r t l)
  | _, _, l => l
end
noncomputable def assocN : List (Nat × Nat) → Nat → Nat
  | [], a => a
  | (b, c) :: r, a => if a = b then c else assocN r a

noncomputable def look (gs : Nat) (m : Tr Nat) (a : Nat) : Option Nat := if a < gs then some a else m.get a
noncomputable def look2 (q : Nat → Option Nat) (m : Tr Nat) (a : Nat) : Option Nat := match q a with
  | some b => some b
  | none => m.get a
noncomputable def countUp : Nat → List Nat → List (Nat × Nat)
  | _, [] => []
  | k, a :: r => (a, k) :: countUp (k + 1) r
noncomputable def invT (q : Nat → Option Nat) : List (Nat × OL) → Tr Nat
  | [] => .leaf
  | (a, _) :: r => match q a with
    | some b => (invT q r).set b a
    | none => invT q r
noncomputable def preOk (q : Nat → Option Nat) (inv : Tr Nat) (nx : Nat) (s : St) (p : Nat × OL) : Bool := match q p.1, OL.ren q p.2 with
  | some b, some o => Nat.blt p.1 nx && held s b o && (match inv.get b with
    | some c => Nat.beq c p.1
    | none => false)
  | _, _ => false
noncomputable def dropAll (q : Nat → Option Nat) : List (Nat × OL) → Tr AO → Tr AO
  | [], H => H
  | (a, o) :: r, H => match o.wr, q a with
    | true, some b => (dropAll q r H).del b
    | _, _ => dropAll q r H
noncomputable def renPost (q : Nat → Option Nat) : List (Nat × OL) → Option (List (Nat × OL))
  | [] => some []
  | (a, o) :: r => match q a, OL.ren q o, renPost q r with
    | some b, some o', some r' => some ((b, o') :: r')
    | _, _, _ => none
noncomputable def toldQ (gs : Nat) (R : Told) (s : St) (args : List AV) (q : Nat → Option Nat) (frs : List Nat) : Option (AV × St) :=
  match AV.rens q R.args with
  | none => none
  | some l => if (AV.sames l args && R.pre.all (preOk q (invT q R.pre) R.nx s) && Nat.ble gs R.nx) = true then
      match AV.ren (look2 q (mkT (countUp s.hi frs))) R.val, renPost (look2 q (mkT (countUp s.hi frs))) R.post with
      | some v, some ps => some (v, ⟨mkH ps (dropAll q R.pre s.H), if s.nx < s.hi then s.nx else s.hi + frs.length, s.hi + frs.length⟩)
      | _, _ => none
    else none
noncomputable def freshOf (q : Nat → Option Nat) : List (Nat × OL) → List Nat
  | [] => []
  | (a, _) :: r => match q a with
    | some _ => freshOf q r
    | none => a :: freshOf q r
noncomputable def preT (al : List (Nat × Nat)) : List (Nat × OL) → List (Nat × Nat)
  | [] => []
  | (a, _) :: r => (a, assocN al a) :: preT al r
/-- The call's answer, out of what was told. -/
noncomputable def toldA (gs : Nat) (R : Told) (args : List AV) (s : St) : Option (AV × St) :=
  toldQ gs R s args (look gs (mkT (preT (AV.pairs R.args args []) R.pre))) (freshOf (look gs (mkT (preT (AV.pairs R.args args []) R.pre))) R.post)
end Go.Proofs.YtjaaajmiojigbaaGreatDoor
