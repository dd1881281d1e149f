/- The evaluator's control: regions, code, calls. No program in sight. -/
import Derived.Test.YtjaaajmiojigbaaGreatDoorSy
namespace Go.Proofs.YtjaaajmiojigbaaGreatDoor
open Go

mutual
/-- A test that says yes to equal values alone. -/
noncomputable def AV.same : AV → AV → Bool
  | .bool a, .bool b => a == b
  | .int k a, .int j b => decide (k = j) && decide (a = b)
  | .str a, .str b => a == b
  | .nilPtr, .nilPtr => true
  | .ptr a b, .ptr c d => a == c && b == d
  | .nilSlice, .nilSlice => true
  | .emptyS, .emptyS => true
  | .zeroS, .zeroS => true
  | .slice a b c d e, .slice a' b' c' d' e' => a == a' && b == b' && c == c' && d == d' && e == e'
  | .nilMap, .nilMap => true
  | .map a, .map b => a == b
  | .sx a, .sx b => SX.same a b
  | .gsl b e z, .gsl b' e' z' => b == b' && z == z' && SX.same e e'
  | .fp a i j, .fp b i' j' => j == j' && SX.same i i' && SX.same a b
  | .nilFn, .nilFn => true
  | .fn (.func f) a b, .fn (.func g) c d => f == g && AV.sames a c && AV.sames b d
  | .nilIface, .nilIface => true
  | .iface t a, .iface u b => t == u && AV.same a b
  | .agg as, .agg bs => AV.sames as bs
  | .tuple as, .tuple bs => AV.sames as bs
  | _, _ => false
noncomputable def AV.sames : List AV → List AV → Bool
  | [], [] => true
  | a :: as, b :: bs => AV.same a b && AV.sames as bs
  | _, _ => false
end

inductive AX where
  | normal
  | exit (id : Nat)
  | ret
  deriving DecidableEq

inductive Req where
  | code (c : Code) (nt : Nat) (tm : Tr AV) (s : St)
  | call (f : FuncId) (args : List AV) (s : St)
inductive Resp where
  | code (x : AX) (tm : Tr AV) (s : St)
  | call (v : AV) (s : St)

noncomputable def putT (nt : Nat) (tm : Tr AV) (d : Option Nat) (v : AV) : Option (Tr AV) := match d with
  | some t => if t < nt then some (tm.set t v) else none
  | none => some tm

noncomputable def wantedA (X : Ctx) (ops : List Oper) (tm : Tr AV) (o : Oper) : Option Bool := match o.guard with
  | none => some true
  | some (j, want) => match ops[j]? with
    | some p => match p.dst with
      | some d => match nrmC X (tm.get d) with
        | some (.bool b) => some (b == want)
        | some (.tuple []) => some false
        | _ => none
      | none => none
    | none => none

/-- An operation, its call too. -/
noncomputable def opA (X : Ctx) (P : Program) (self : Req → Option Resp) (tm : Tr AV) (s : St) (o : Oper) : Option (AV × St) := match evX X P tm s o with
  | some (.val v s') => some (v, s')
  | some (.skip s') => some (.tuple [], s')
  | some (.enter f args s') => match self (.call f args s') with
    | some (.call v s'') => some (v, s'')
    | _ => none
  | none => none

noncomputable def runOps (X : Ctx) (P : Program) (self : Req → Option Resp) (ops : List Oper) (nt : Nat) (l : List Oper) : Tr AV → St → Option (Tr AV × St) :=
  List.rec (motive := fun _ => Tr AV → St → Option (Tr AV × St)) (fun tm s => some (tm, s)) (fun o _ ih tm s => match wantedA X ops tm o with
    | some true => match opA X P self tm s o with
      | some (v, s') => match putT nt tm o.dst v with
        | some tm' => ih tm' s'
        | none => none
      | none => none
    | some false => match putT nt tm o.dst (.tuple []) with
      | some tm' => ih tm' s
      | none => none
    | none => none) l
theorem runOps_nil (X : Ctx) (P : Program) (self : Req → Option Resp) (ops : List Oper) (nt : Nat) (tm : Tr AV) (s : St) : runOps X P self ops nt [] tm s = some (tm, s) := rfl
theorem runOps_cons (X : Ctx) (P : Program) (self : Req → Option Resp) (ops : List Oper) (nt : Nat) (o : Oper) (rest : List Oper) (tm : Tr AV) (s : St) : runOps X P self ops nt (o :: rest) tm s = (match wantedA X ops tm o with
    | some true => match opA X P self tm s o with
      | some (v, s') => match putT nt tm o.dst v with
        | some tm' => runOps X P self ops nt rest tm' s'
        | none => none
      | none => none
    | some false => match putT nt tm o.dst (.tuple []) with
      | some tm' => runOps X P self ops nt rest tm' s
      | none => none
    | none => none) := rfl

/-! Regions whose order is drawn: what each operation yields does not depend on the order. -/

inductive RK where
  | skip
  | pure
  | read
  | alloc (b : AO)
  | put (b : Nat) (o0 o1 : AO)
  | chain (B : St)
structure Rec where
  tm : Tr AV
  v : AV
  k : RK

noncomputable def isPureO (P : Program) : Op → Bool
  | .move _ | .assign _ | .pick .. | .build .. | .nilCheck _ | .binOp .. | .unOp .. | .makeInterface .. | .makeFunc .. | .slice .. | .fieldAddr .. | .field .. | .indexAddr .. | .index .. | .typeAssert .. | .extract .. => true
  | .convert src dst _ => match P.underlying src, P.underlying dst with
    | some (.slice _), _ => false
    | some _, some (.slice _) => false
    | some _, some _ => true
    | _, _ => false
  | .call c => match c.callee with
    | .builtin .max => true
    | .builtin .min => true
    | .builtin .len => match c.argTypes.toList with
      | t :: _ => match P.underlying t with
        | some (.map _ _) => false
        | some _ => true
        | none => false
      | [] => false
    | _ => false
  | _ => false
noncomputable def isAllocO (P : Program) : Op → Bool
  | .alloc _ | .box .. | .buildSlice .. | .makeMap .. | .makeSlice .. | .range .. => true
  | .convert src dst _ => match P.underlying src, P.underlying dst with
    | some .string, some (.slice _) => true
    | _, _ => false
  | _ => false
noncomputable def isReadO (P : Program) : Op → Bool
  | .load .. | .lookup .. => true
  | .convert src dst _ => match P.underlying src, P.underlying dst with
    | some (.slice _), some .string => true
    | _, _ => false
  | .call c => match c.callee with
    | .builtin .len => true
    | _ => false
  | _ => false

noncomputable def namesO (ops : List Oper) (o : Oper) : List Nat :=
  (o.op.operands.toList.filterMap fun | .tmp t => some t | _ => none) ++ (match o.guard with
    | some (j, _) => match ops[j]? with
      | some p => p.dst.toList
      | none => []
    | none => [])
noncomputable def restr (tm : Tr AV) : List Nat → Tr AV
  | [] => .leaf
  | t :: r => match tm.get t with
    | some v => (restr tm r).set t v
    | none => restr tm r

noncomputable def maskOf (ms : List Nat) (o : Oper) : Nat := (o.after.toList.filter (Region.binds .any)).foldl (fun s e => s ||| (2 ^ e.on ||| ms.getD e.on 0)) 0
noncomputable def masksA : List Oper → List Nat → List Nat
  | [], ms => ms
  | o :: r, ms => masksA r (ms ++ [maskOf ms o])
noncomputable def allI {α : Type} (f : Nat → α → Bool) : List α → Nat → Bool
  | [], _ => true
  | o :: r, i => f i o && allI f r (i + 1)
noncomputable def staticA (ops : List Oper) (ms : List Nat) : Bool :=
  allI (fun i o => ms.getD i 0 == maskOf ms o && o.after.toList.all (fun e => !Region.binds .any e || decide (e.on < i)) &&
    (match o.dst with
      | some d => allI (fun j p => decide (j = i) || !(p.dst == some d)) ops 0
      | none => true) &&
    (namesO ops o).all (fun t => allI (fun j p => !(p.dst == some t) || decide (j = i) || (ms.getD i 0).testBit j || (ms.getD j 0).testBit i) ops 0)) ops 0

noncomputable def cmOf (ms : List Nat) : Option Nat → Nat
  | none => 0
  | some c => ms.getD c 0 ||| 2 ^ c
noncomputable def addAl (m cm : Nat) (H : Tr AO) : List (Nat × Nat × AO) → Tr AO
  | [] => H
  | (j, b, ob) :: r => if m.testBit j && !cm.testBit j then (addAl m cm H r).set b ob else addAl m cm H r
noncomputable def isStoreO : Op → Bool
  | .store .. => true
  | _ => false
/-- A store, on the one block that it turns. -/
noncomputable def putA (X : Ctx) (P : Program) (tr : Tr AV) (o : Oper) (hi : Nat) (H : Tr AO) : Option (Nat × AO × AO) := match o.op with
  | .store _ a _ => match rd P tr a with
    | some (.ptr b _) => match H.get b with
      | some o0 => match evX X P tr ⟨Tr.set b o0 .leaf, hi, hi⟩ o with
        | some (.skip s') => if s'.hi = hi then (match s'.H.get b with
          | some o1 => some (b, o0, o1)
          | none => none) else none
        | _ => none
      | none => none
    | _ => none
  | _ => none

noncomputable def overC (m : Nat) : Option Nat → Bool
  | some c => m.testBit c
  | none => true
noncomputable def inWin (ms : List Nat) (pts : List (Nat × St)) (i : Nat) : Option Nat → Bool
  | some c => !(ms.getD c 0).testBit i && pts.all fun p => decide (p.1 ≤ c) || !(ms.getD i 0).testBit p.1
  | none => pts.all fun p => !(ms.getD i 0).testBit p.1

noncomputable def recA (X : Ctx) (P : Program) (self : Req → Option Resp) (ops : List Oper) (ms : List Nat) (N0 i : Nat) (o : Oper) (tr : Tr AV) (c : Option Nat) (B : St) (al : List (Nat × Nat × AO)) : Option Rec :=
  match wantedA X ops tr o with
  | none => none
  | some false => some ⟨tr, .tuple [], .skip⟩
  | some true =>
    if isPureO P o.op then match evX X P tr ⟨.leaf, 0, 0⟩ o with
      | some (.val v _) => some ⟨tr, v, .pure⟩
      | _ => none
    else if isAllocO P o.op then match evX X P tr ⟨.leaf, N0 + i, 0⟩ o with
      | some (.val v s') => match s'.H.get (N0 + i) with
        | some ob => some ⟨tr, v, .alloc ob⟩
        | none => none
      | _ => none
    else if isReadO P o.op then match evX X P tr ⟨addAl (ms.getD i 0) (cmOf ms c) B.H al, B.hi, B.hi⟩ o with
      | some (.val v _) => some ⟨tr, v, .read⟩
      | _ => none
    else if isStoreO o.op then match putA X P tr o B.hi (addAl (ms.getD i 0) (cmOf ms c) B.H al) with
      | some (b, o0, o1) => some ⟨tr, .tuple [], .put b o0 o1⟩
      | none => none
    else if overC (ms.getD i 0) c then match opA X P self tr ⟨addAl (ms.getD i 0) (cmOf ms c) B.H al, B.hi, B.hi⟩ o with
      | some (v, B') => some ⟨tr, v, .chain B'⟩
      | none => none
    else none

structure DEnd where
  recs : List Rec
  tm : Tr AV
  c : Option Nat
  B : St
  al : List (Nat × Nat × AO)
noncomputable def drawOps (X : Ctx) (P : Program) (self : Req → Option Resp) (ops : List Oper) (ms : List Nat) (N0 nt : Nat) : List Oper → Nat → List Rec → Tr AV → Option Nat → St → List (Nat × Nat × AO) → Option DEnd
  | [], _, acc, tm, c, B, al => some ⟨acc, tm, c, B, al⟩
  | o :: rest, i, acc, tm, c, B, al => match recA X P self ops ms N0 i o (restr tm (namesO ops o)) c B al with
    | none => none
    | some r => match putT nt tm o.dst r.v with
      | none => none
      | some tm' => match r.k with
        | .alloc ob => drawOps X P self ops ms N0 nt rest (i + 1) (acc ++ [r]) tm' c B ((i, N0 + i, ob) :: al)
        | .put b _ ob => drawOps X P self ops ms N0 nt rest (i + 1) (acc ++ [r]) tm' c B ((i, b, ob) :: al)
        | .chain B' => drawOps X P self ops ms N0 nt rest (i + 1) (acc ++ [r]) tm' (some i) B' al
        | _ => drawOps X P self ops ms N0 nt rest (i + 1) (acc ++ [r]) tm' c B al

noncomputable def ptsOf : List Rec → Nat → List (Nat × St)
  | [], _ => []
  | r :: rest, i => match r.k with
    | .chain B => (i, B) :: ptsOf rest (i + 1)
    | _ => ptsOf rest (i + 1)
noncomputable def delAll (H : Tr AO) : List Nat → Tr AO
  | [] => H
  | b :: r => (delAll H r).del b
/-- Blocks that a store beside the operation may turn. -/
noncomputable def exB (ms : List Nat) (i cm : Nat) : List Rec → Nat → List Nat
  | [], _ => []
  | r :: rest, f => match r.k with
    | .put b _ _ => if !(ms.getD i 0).testBit f && !cm.testBit f && !(ms.getD f 0).testBit i then b :: exB ms i cm rest (f + 1) else exB ms i cm rest (f + 1)
    | _ => exB ms i cm rest (f + 1)
noncomputable def chkRead (X : Ctx) (P : Program) (ms : List Nat) (al : List (Nat × Nat × AO)) (recs : List Rec) (pts : List (Nat × St)) (i : Nat) (o : Oper) (r : Rec) (c : Option Nat) (B : St) : Bool :=
  if inWin ms pts i c then
    match evX X P r.tm ⟨delAll (addAl (ms.getD i 0) (cmOf ms c) B.H al) (exB ms i (cmOf ms c) recs 0), B.hi, B.hi⟩ o with
    | some (.val u _) => AV.same u r.v
    | _ => false
  else true
noncomputable def cmpB (ms : List Nat) (i j : Nat) : Bool := (ms.getD i 0).testBit j || (ms.getD j 0).testBit i
/-- Stores stand in order with the chain, and with whatever else turns their block. -/
noncomputable def ordB (ms : List Nat) (N0 : Nat) (recs : List Rec) : Bool :=
  allI (fun i r => match r.k with
    | .put b _ _ => allI (fun j r' => decide (j = i) || (match r'.k with
      | .chain _ => cmpB ms i j
      | .put b' _ _ => !(b' == b) || cmpB ms i j
      | .alloc _ => !(N0 + j == b) || (ms.getD i 0).testBit j
      | _ => true)) recs 0
    | _ => true) recs 0
noncomputable def isNoneAt (H : Tr AO) (b : Nat) : Bool := match H.get b with
  | some _ => false
  | none => true
noncomputable def passB (X : Ctx) (P : Program) (ops : List Oper) (ms : List Nat) (N0 : Nat) (al : List (Nat × Nat × AO)) (pts : List (Nat × St)) (B0 : St) (recs : List Rec) : Bool :=
  ordB ms N0 recs && allI (fun i r => match r.k with
    | .read => match ops[i]? with
      | some o => chkRead X P ms al recs pts i o r none B0 && pts.all (fun p => chkRead X P ms al recs pts i o r (some p.1) p.2)
      | none => false
    | .alloc _ => isNoneAt B0.H (N0 + i) && pts.all (fun p => (cmOf ms (some p.1)).testBit i || isNoneAt p.2.H (N0 + i))
    | _ => true) recs 0

noncomputable def drawA (X : Ctx) (P : Program) (self : Req → Option Resp) (ops : List Oper) (nt : Nat) (tm : Tr AV) (s : St) : Option (Tr AV × St) :=
  if staticA ops (masksA ops []) then
    match drawOps X P self ops (masksA ops []) s.hi nt ops 0 [] tm none ⟨s.H, s.hi + ops.length, s.hi + ops.length⟩ [] with
    | none => none
    | some e => if passB X P ops (masksA ops []) s.hi e.al (ptsOf e.recs 0) ⟨s.H, s.hi + ops.length, s.hi + ops.length⟩ e.recs then
        some (e.tm, ⟨addAl (2 ^ ops.length - 1) (cmOf (masksA ops []) e.c) e.B.H e.al, e.B.hi, e.B.hi⟩)
      else none
  else none

noncomputable def resultsA (P : Program) (tm : Tr AV) (s : St) : List ResultVar → Option (List AV)
  | [] => some []
  | .tmp t :: r => match tm.get t, resultsA P tm s r with
    | some v, some vs => some (v :: vs)
    | _, _ => none
  | .cell a t :: r => match tm.get a with
    | some p => match s.loadVar P t p, resultsA P tm s r with
      | some v, some vs => some (v :: vs)
      | _, _ => none
    | none => none
noncomputable def oneOf : List AV → AV
  | [v] => v
  | vs => .tuple vs

noncomputable def argsT : Nat → List AV → Tr AV → Tr AV
  | _, [], t => t
  | i, v :: r, t => argsT (i + 1) r (t.set i v)

/-- What the evaluator is told: of calls; of blocks of code; whether it may enter functions by itself. -/
structure Lib where
  call : FuncId → List AV → St → Option (AV × St)
  blk : Nat → Nat → Tr AV → St → Option (AX × Tr AV × St)
  inl : Bool

noncomputable def stepA (X : Ctx) (P : Program) (lib : Lib) (self : Req → Option Resp) : Req → Option Resp
  | .code c nt tm s => match c with
    | .skip => some (.code .normal tm s)
    | .label _ => some (.code .normal tm s)
    | .region _ ops false => match runOps X P self ops.toList nt ops.toList tm s with
      | some (tm', s') => some (.code .normal tm' s')
      | none => none
    | .region _ ops true => match drawA X P self ops.toList nt tm s with
      | some (tm', s') => some (.code .normal tm' s')
      | none => none
    | .seq a b => match self (.code a nt tm s) with
      | some (.code .normal tm' s') => self (.code b nt tm' s')
      | some (.code x tm' s') => some (.code x tm' s')
      | _ => none
    | .cond c a b => match nrmC X (rd P tm c) with
      | some (.bool true) => self (.code a nt tm s)
      | some (.bool false) => self (.code b nt tm s)
      | _ => none
    | .block id body => match lib.blk id nt tm s with
      | some (x, tm', s') => some (.code x tm' s')
      | none => match self (.code body nt tm s) with
        | some (.code (.exit j) tm' s') => if j = id then some (.code .normal tm' s') else some (.code (.exit j) tm' s')
        | some (.code x tm' s') => some (.code x tm' s')
        | _ => none
    | .loop body => match self (.code body nt tm s) with
      | some (.code .normal tm' s') => self (.code (.loop body) nt tm' s')
      | some (.code x tm' s') => some (.code x tm' s')
      | _ => none
    | .scope body => self (.code body nt tm s)
    | .rangeFunc g _ _ _ => match rd P tm g with
      | some (.fn (.func gf) [] cap) => if enters P gf then match self (.call gf (.yieldF :: cap) s) with
        | some (.call _ s') => some (.code .normal tm s')
        | _ => none
        else none
      | _ => none
    | .exit id => some (.code (.exit id) tm s)
    | .ret => some (.code .ret tm s)
    | _ => none
  | .call f args s => match lib.call f args s with
    | some (v, s') => some (.call v s')
    | none => if lib.inl = true then match P.funcs[f]? with
      | none => none
      | some fn => match fn.body with
        | none => none
        | some c => if args.length ≤ fn.ntmps then match self (.code c fn.ntmps (argsT 0 args .leaf) s) with
          | some (.code .normal tm' s') | some (.code .ret tm' s') => match resultsA P tm' s' fn.results.toList with
            | some vs => some (.call (oneOf vs) s')
            | none => none
          | _ => none
          else none
      else none

/-! The same in small closed functions. -/
noncomputable def seqK (X : Ctx) (P : Program) (self : Req → Option Resp) (a b : Code) (nt : Nat) (tm : Tr AV) (s : St) : Option Resp := match self (.code a nt tm s) with
  | some (.code .normal tm' s') => self (.code b nt tm' s')
  | some (.code x tm' s') => some (.code x tm' s')
  | _ => none
noncomputable def regionK (X : Ctx) (P : Program) (self : Req → Option Resp) (ops : Array Oper) (draw : Bool) (nt : Nat) (tm : Tr AV) (s : St) : Option Resp := match draw with
  | false => match runOps X P self ops.toList nt ops.toList tm s with
    | some (tm', s') => some (.code .normal tm' s')
    | none => none
  | true => match drawA X P self ops.toList nt tm s with
    | some (tm', s') => some (.code .normal tm' s')
    | none => none
noncomputable def condK (X : Ctx) (P : Program) (self : Req → Option Resp) (c : Operand) (a b : Code) (nt : Nat) (tm : Tr AV) (s : St) : Option Resp := match nrmC X (rdF P tm c) with
  | some (.bool true) => self (.code a nt tm s)
  | some (.bool false) => self (.code b nt tm s)
  | _ => none
noncomputable def blockK (lib : Lib) (self : Req → Option Resp) (id : Nat) (body : Code) (nt : Nat) (tm : Tr AV) (s : St) : Option Resp := match lib.blk id nt tm s with
  | some (x, tm', s') => some (.code x tm' s')
  | none => match self (.code body nt tm s) with
    | some (.code (.exit j) tm' s') => if j = id then some (.code .normal tm' s') else some (.code (.exit j) tm' s')
    | some (.code x tm' s') => some (.code x tm' s')
    | _ => none
noncomputable def loopK (self : Req → Option Resp) (body : Code) (nt : Nat) (tm : Tr AV) (s : St) : Option Resp := match self (.code body nt tm s) with
  | some (.code .normal tm' s') => self (.code (.loop body) nt tm' s')
  | some (.code x tm' s') => some (.code x tm' s')
  | _ => none
noncomputable def rangeK (X : Ctx) (P : Program) (self : Req → Option Resp) (g : Operand) (tm : Tr AV) (s : St) : Option Resp := match rd P tm g with
  | some (.fn (.func gf) [] cap) => if enters P gf then match self (.call gf (.yieldF :: cap) s) with
    | some (.call _ s') => some (.code .normal tm s')
    | _ => none
    else none
  | _ => none
noncomputable def bodyK (X : Ctx) (P : Program) (self : Req → Option Resp) (f : FuncId) (args : List AV) (s : St) : Option Resp := match P.funcs[f]? with
  | none => none
  | some fn => match fn.body with
    | none => none
    | some c => if args.length ≤ fn.ntmps then match self (.code c fn.ntmps (argsT 0 args .leaf) s) with
      | some (.code .normal tm' s') | some (.code .ret tm' s') => match resultsA P tm' s' fn.results.toList with
        | some vs => some (.call (oneOf vs) s')
        | none => none
      | _ => none
      else none
noncomputable def callK (X : Ctx) (P : Program) (lib : Lib) (self : Req → Option Resp) (f : FuncId) (args : List AV) (s : St) : Option Resp := match lib.call f args s with
  | some (v, s') => some (.call v s')
  | none => if lib.inl = true then bodyK X P self f args s else none
noncomputable def codeK : Code → Ctx → Program → Lib → (Req → Option Resp) → Nat → Tr AV → St → Option Resp := fun c => Code.rec (motive := fun _ => Ctx → Program → Lib → (Req → Option Resp) → Nat → Tr AV → St → Option Resp)
  (fun _ _ _ _ _ tm s => some (.code .normal tm s))
  (fun _ ops draw X P _ self nt tm s => regionK X P self ops draw nt tm s)
  (fun a b _ _ X P _ self nt tm s => seqK X P self a b nt tm s)
  (fun c a b _ _ X P _ self nt tm s => condK X P self c a b nt tm s)
  (fun id body _ _ _ lib self nt tm s => blockK lib self id body nt tm s)
  (fun body _ _ _ _ self nt tm s => loopK self body nt tm s)
  (fun g _ _ _ _ _ X P _ self _ tm s => rangeK X P self g tm s)
  (fun id _ _ _ _ _ tm s => some (.code (.exit id) tm s))
  (fun body _ _ _ _ self nt tm s => self (.code body nt tm s))
  (fun _ _ _ _ _ _ tm s => some (.code .normal tm s))
  (fun _ _ _ _ _ _ _ _ => none)
  (fun _ _ _ _ _ tm s => some (.code .ret tm s))
  (fun _ _ _ _ _ _ _ _ => none) c
noncomputable def stepK : Req → Ctx → Program → Lib → (Req → Option Resp) → Option Resp := fun r => Req.rec (motive := fun _ => Ctx → Program → Lib → (Req → Option Resp) → Option Resp)
  (fun c nt tm s X P lib self => codeK c X P lib self nt tm s) (fun f args s X P lib self => callK X P lib self f args s) r
theorem stepK_eq (X : Ctx) (P : Program) (lib : Lib) (self : Req → Option Resp) (r : Req) : stepK r X P lib self = stepA X P lib self r := by
  cases r with
  | call f args s => rfl
  | code c nt tm s =>
    cases c with
    | region id ops draw => cases draw <;> rfl
    | cond c a b => show condK X P self c a b nt tm s = _; unfold condK; rw [rdF_eq]; rfl
    | _ => rfl

noncomputable def evA (X : Ctx) (P : Program) (lib : Lib) (n : Nat) : Req → Option Resp := Nat.rec (motive := fun _ => Req → Option Resp) (fun _ => none) (fun _ ih r => stepK r X P lib ih) n
theorem evA_zero (X : Ctx) (P : Program) (lib : Lib) (r : Req) : evA X P lib 0 r = none := rfl
theorem evA_succ (X : Ctx) (P : Program) (lib : Lib) (n : Nat) (r : Req) : evA X P lib (n + 1) r = stepA X P lib (evA X P lib n) r := stepK_eq X P lib (evA X P lib n) r
end Go.Proofs.YtjaaajmiojigbaaGreatDoor
