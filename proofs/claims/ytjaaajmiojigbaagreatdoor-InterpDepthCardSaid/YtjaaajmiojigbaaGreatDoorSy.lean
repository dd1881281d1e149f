/- Operations on what is unknown: what the evaluator answers. No program in sight. -/
import Derived.Test.YtjaaajmiojigbaaGreatDoorFast
namespace Go.Proofs.YtjaaajmiojigbaaGreatDoor
open Go

noncomputable def findF : List (SX × SX) → SX → Option SX
  | [], _ => none
  | (a, v) :: r, e => if SX.same a e then some v else findF r e
/-- A constant that a term is told to be equal to. -/
noncomputable def eqF : List (SX × SX) → SX → Option SX
  | [], _ => none
  | (a, v) :: r, e => match a, v with
    | .bin .eql x (.str l), .bool true => if SX.same x e then some (.str l) else eqF r e
    | .bin .eql x (.int k n), .bool true => if SX.same x e then some (.int k n) else eqF r e
    | _, _ => eqF r e
/-- A term by what is told of it. -/
noncomputable def nrm0 (X : Ctx) (e : SX) : SX := match findF X.facts e with
  | some v => v
  | none => match e with
    | .bin .eql x (.str l) => match eqF X.facts x with
      | some (.str l') => .bool (l' == l)
      | _ => e
    | .bin .eql x (.int k n) => match eqF X.facts x with
      | some (.int k' n') => if k' = k then .bool (n' == n) else e
      | _ => e
    | .len x => match eqF X.facts (.len x) with
      | some (.int k n) => .int k n
      | _ => e
    | _ => e
noncomputable def nrmS (X : Ctx) (e : SX) : SX := match e with
  | .not x => match nrm0 X x with
    | .bool b => .bool (!b)
    | _ => nrm0 X e
  | .bin .geq a b => match nrm0 X e with
    | .bool c => .bool c
    | _ => match nrm0 X (.bin .lss a b) with
      | .bool c => .bool (!c)
      | _ => e
  | .bin .lss a b => match nrm0 X e with
    | .bool c => .bool c
    | _ => match nrm0 X (.bin .geq a b) with
      | .bool c => .bool (!c)
      | _ => e
  | .len (.sub a (.int .i64 (.ofNat lo)) (.int .i64 (.ofNat hi))) => match nrm0 X (.len a) with
    | .int .i64 (.ofNat n) => if lo ≤ hi ∧ hi ≤ n then .int .i64 (hi - lo : Nat) else e
    | _ => nrm0 X e
  | _ => nrm0 X e
noncomputable def avOf : SX → AV
  | .int k n => .int k n
  | .bool b => .bool b
  | .str l => .str l
  | e => .sx e
noncomputable def nrm (X : Ctx) (e : SX) : AV := avOf (nrmS X e)
noncomputable def toSX : AV → Option SX
  | .int k n => some (.int k n)
  | .bool b => some (.bool b)
  | .str l => some (.str l)
  | .sx e => some e
  | .nilSlice => some .nilS
  | .zeroS => some .nilS
  | _ => none
noncomputable def toSXs : List AV → Option (List SX)
  | [] => some []
  | v :: r => match toSX v, toSXs r with
    | some e, some es => some (e :: es)
    | _, _ => none
noncomputable def isTrueS : SX → Bool
  | .bool true => true
  | _ => false
noncomputable def holds (X : Ctx) (e : SX) : Bool := isTrueS (nrmS X e)
noncomputable def knd (X : Ctx) (e : SX) : Option Kd := kndC X.vk X.kt e
noncomputable def isInt : Option Kd → Bool
  | some (.int _) => true
  | _ => false

noncomputable def nzS : SX → Bool
  | .int _ n => !decide (n = 0)
  | _ => false
/-- Which operation of which operands is known to have an answer. -/
noncomputable def binOk (P : Program) (t : TypeId) (op : BinOp) (e2 : SX) : Option Kd → Option Kd → Bool
  | some (.int k), some (.int k') => decide (k = k') && (match op with
    | .add | .sub | .mul | .eql | .neq | .lss | .leq | .gtr | .geq => true
    | .quo | .rem => nzS e2
    | _ => false)
  | some .str, some .str => match op with
    | .eql | .neq | .lss | .leq | .gtr | .geq => true
    | _ => false
  | some .bool, some .bool => match op, P.underlying t with
    | .eql, some .bool | .neq, some .bool => true
    | _, _ => false
  | _, _ => false

noncomputable def nonneg (X : Ctx) : SX → Bool
  | .int _ (.ofNat _) => true
  | e => holds X (.bin .geq e (.int .i64 0))
noncomputable def cmpS (X : Ctx) (op : BinOp) (a b : SX) : Bool := match op, a, b with
  | .lss, .int _ n, .int _ m => decide (n < m)
  | .leq, .int _ n, .int _ m => decide (n ≤ m)
  | op, a, b => holds X (.bin op a b)
noncomputable def inRange (X : Ctx) (a i : SX) : Bool := nonneg X i && cmpS X .lss i (nrmS X (.len a))

noncomputable def cellsS (X : Ctx) (a i : SX) : Nat → Nat → List AV
  | _, 0 => []
  | j, n + 1 => nrm X (.cell a i j) :: cellsS X a i (j + 1) n

noncomputable def boundS (P : Program) (X : Ctx) (v : Option Operand) (tm : Tr AV) (dflt : SX) : Option SX := match v with
  | none => some dflt
  | some x => match rd P tm x with
    | some v => match toSX v with
      | some e => if isInt (knd X e) then some e else none
      | none => none
    | none => none

noncomputable def keyIdxS (X : Ctx) (e : SX) : List (AV × AV) → Nat → Option (Option (Nat × AV))
  | [], _ => some none
  | (k', v) :: r, i => match k' with
    | .str l => match nrmS X (.bin .eql e (.str l)) with
      | .bool true => some (some (i, v))
      | .bool false => keyIdxS X e r (i + 1)
      | _ => none
    | .int k n => match nrmS X (.bin .eql e (.int k n)) with
      | .bool true => some (some (i, v))
      | .bool false => keyIdxS X e r (i + 1)
      | _ => none
    | _ => none
noncomputable def keyOkS (P : Program) (t : TypeId) : Option Kd → Bool
  | some (.int _) => match P.underlying t with
    | some (.int _) => true
    | _ => false
  | some .str => match P.underlying t with
    | some .string => true
    | _ => false
  | _ => false

/-- Rows out of a row of cells. -/
noncomputable def mkRows (z : Nat) : Nat → List SX → SX → SX
  | 0, _, acc => acc
  | n + 1, cs, acc => mkRows z n (cs.drop z) (.snoc acc (cs.take z))
noncomputable def St.del (s : St) (b : Nat) : St := ⟨s.H.del b, s.nx, s.hi⟩
noncomputable def lenLit : SX → Option Nat
  | .nilS => some 0
  | .snoc a _ => match lenLit a with
    | some n => some (n + 1)
    | none => none
  | _ => none
/-- A value that is data as it stands; a row that has become data before. -/
noncomputable def roA (s : St) : AV → Option SX
  | .gsl b e z => match s.H.get b with
    | some (.row z' e') => if z = z' ∧ SX.same e e' = true then some e else none
    | _ => none
  | .slice b 0 n _ z => match s.H.get b with
    | some (.row z' e) => if z = z' ∧ lenLit e = some n then some e else none
    | _ => none
  | v => toSX v
noncomputable def St.rowed (s : St) (b z : Nat) (e : SX) : St := ⟨s.H.set b (.row z e), s.nx, s.hi⟩
/-- A value becomes data: whatever it owns is written no more. -/
noncomputable def frz1 (s : St) (v : AV) : Option (SX × St) := match roA s v with
  | some e => some (e, s)
  | none => match v with
    | .gsl b e z => match s.H.get b with
      | some (.seq z' e') => if z = z' ∧ SX.same e e' = true then some (e, s.rowed b z e) else none
      | _ => none
    | .slice b 0 n _ z => match s.H.get b, s.load b 0 (n * z) with
      | some (.cells false _ _), some cs => match toSXs cs with
        | some es => some (mkRows z n es .nilS, s.rowed b z (mkRows z n es .nilS))
        | none => none
      | _, _ => none
    | _ => none
noncomputable def frzL (s : St) : List AV → Option (List SX × St)
  | [] => some ([], s)
  | v :: r => match frz1 s v with
    | some (e, s1) => match frzL s1 r with
      | some (es, s2) => some (e :: es, s2)
      | none => none
    | none => none

noncomputable def rowKind (X : Ctx) (e : SX) : Option Nat := match knd X e with
  | some (.sl T) => some (X.kt.getD T []).length
  | _ => none
noncomputable def srcSy (X : Ctx) (s : St) (z : Nat) : AV → Option (SX × St)
  | .sx e => if rowKind X e = some z then some (e, s) else none
  | .gsl b e z' => match s.H.get b with
    | some (.seq z'' e') => if z' = z ∧ z'' = z ∧ SX.same e e' = true then some (e, s) else none
    | _ => none
  | .slice b o n _ z' => if z' = z then (match s.load b o (n * z) with
    | some cs => match frzL s cs with
      | some (es, s1) => some (mkRows z n es .nilS, s1)
      | none => none
    | none => none) else none
  | _ => none
noncomputable def catS (a : SX) : SX → SX
  | .nilS => a
  | .snoc b r => .snoc (catS a b) r
  | b => .cat a b
noncomputable def fitsS (X : Ctx) (e : SX) : Bool := match lenLit e with
  | some n => decide (n ≤ 1000000)
  | none => holds X (.bin .leq (.len e) (.int .i64 1000000))
noncomputable def someS (X : Ctx) (e : SX) : Bool := match lenLit e with
  | some n => decide (0 < n)
  | none => holds X (.bin .gtr (.len e) (.int .i64 0))
noncomputable def dstSy (X : Ctx) (s : St) (z : Nat) (ey : SX) : AV → Option (SX × St)
  | .nilSlice => if someS X ey then some (.nilS, s) else none
  | .zeroS => if someS X ey then some (.nilS, s) else none
  | .gsl b e z' => match s.H.get b with
    | some (.seq z'' e') => if z' = z ∧ z'' = z ∧ SX.same e e' = true then some (e, s.del b) else none
    | _ => none
  | .slice b 0 n _ z' => if z' = z then (match s.H.get b, s.load b 0 (n * z) with
    | some (.cells false _ _), some cs => match toSXs cs with
      | some es => some (mkRows z n es .nilS, s.del b)
      | none => none
    | _, _ => none) else none
  | _ => none
noncomputable def appendSy (X : Ctx) (P : Program) (s : St) (t u : TypeId) (x y : AV) : Option (AV × St) :=
  match elemSl P t, P.underlying u with
  | some e, some (.slice _) => match P.info? e, zeroA P e with
    | some i, some zc => if zc.length = i.size ∧ i.bytes ≤ 1000 then (match srcSy X s i.size y with
      | some (ey, s1) => match dstSy X s1 i.size ey x with
        | some (ex, s2) => if fitsS X (catS ex ey) then some (.gsl s2.nx (catS ex ey) i.size, s2.new (.seq i.size (catS ex ey))) else none
        | none => none
      | none => none) else none
    | _, _ => none
  | _, _ => none

noncomputable def lenSy (X : Ctx) (P : Program) (t : TypeId) (v : AV) : Option SX := match P.underlying t, v with
  | some .string, .sx e => if knd X e = some .str then some (.len e) else none
  | some (.slice _), .sx e => if (rowKind X e).isSome then some (.len e) else none
  | some (.slice _), .gsl _ e _ => some (.len e)
  | _, _ => none

/-- The greater of two numbers, where it is known which. -/
noncomputable def maxSy (X : Ctx) (a b : AV) : Option AV := match toSX a, toSX b with
  | some e1, some e2 => match knd X e1, knd X e2 with
    | some (.int k), some (.int k') => if k = k' then (match nrmS X (.bin .lss e1 e2) with
      | .bool true => some b
      | .bool false => some a
      | _ => none) else none
    | _, _ => none
  | _, _ => none
/-- A condition, as far as it is told. -/
noncomputable def nrmC (X : Ctx) : Option AV → Option AV
  | some (.sx e) => some (nrm X e)
  | r => r
noncomputable def evSy (X : Ctx) (P : Program) (tm : Tr AV) (s : St) (o : Oper) : Option ARes :=
  match o.op with
  | .binOp op t x y _ => match rd P tm x, rd P tm y with
    | some a, some b => match toSX a, toSX b with
      | some e1, some e2 => if binOk P t op e2 (knd X e1) (knd X e2) then some (.val (nrm X (.bin op e1 e2)) s) else none
      | _, _ => none
    | _, _ => none
  | .pick c x y => match rd P tm c with
    | some (.sx e) => match nrm X e with
      | .bool true => (rd P tm x).map (.val · s)
      | .bool false => (rd P tm y).map (.val · s)
      | _ => none
    | _ => none
  | .unOp op _ x => match op, rd P tm x with
    | .neg, some (.sx e) => if isInt (knd X e) then some (.val (nrm X (.neg e)) s) else none
    | .not, some (.sx e) => if knd X e = some .bool then some (.val (nrm X (.not e)) s) else none
    | _, _ => none
  | .convert src dst x => match P.underlying src, P.underlying dst, rd P tm x with
    | some _, some (.int k), some (.sx e) => if isInt (knd X e) then some (.val (nrm X (.conv k e)) s) else none
    | some _, some .string, some (.sx e) => if knd X e = some .str then some (.val (.sx e) s) else none
    | _, _, _ => none
  | .load t p => match rd P tm p with
    | some (.fp a i j) => match P.underlying t, szOf P t, rowKind X a with
      | some d, some n, some z => if j + n ≤ z then (if isAggD d then some (.val (.agg (cellsS X a i j n)) s) else if n = 1 then some (.val (nrm X (.cell a i j)) s) else none) else none
      | _, _, _ => none
    | some (.ptr g 0) => match P.underlying t, s.H.get g, X.gt.find? (fun p => p.1 == g) with
      | some d, none, some (_, i) => if isAggD d = false ∧ g < P.globals.size then some (.val (nrm X (.var i)) s) else none
      | _, _, _ => none
    | _ => none
  | .fieldAddr t x f => match fieldOf P t f, rd P tm x with
    | some d, some (.fp a i j) => match szOf P d.type with
      | some (_ + 1) => some (.val (.fp a i (j + d.offset)) s)
      | _ => none
    | _, _ => none
  | .indexAddr t x i => match P.underlying t, rd P tm x, rd P tm i with
    | some (.slice e), some (.sx a), some iv => match toSX iv, rowKind X a, szOf P e with
      | some ie, some z, some z' => if z = z' ∧ isInt (knd X ie) = true ∧ inRange X a ie = true then some (.val (.fp a ie 0) s) else none
      | _, _, _ => none
    | _, _, _ => none
  | .index t x i => match P.underlying t, rd P tm x, rd P tm i with
    | some .string, some xv, some iv => match toSX xv, toSX iv with
      | some a, some ie => if knd X a = some .str ∧ isInt (knd X ie) = true ∧ inRange X a ie = true then some (.val (nrm X (.byte a ie)) s) else none
      | _, _ => none
    | _, _, _ => none
  | .slice t x lo hi mx => match mx, P.underlying t, rd P tm x with
    | none, some (.slice e), some (.sx a) => match szOf P e, rowKind X a, boundS P X hi tm (nrmS X (.len a)), boundS P X lo tm (.int .i64 0) with
      | some z, some z', some h, some l => if z = z' ∧ nonneg X l = true ∧ cmpS X .leq l h = true ∧ cmpS X .leq h (nrmS X (.len a)) = true then some (.val (nrm X (.sub a l h)) s) else none
      | _, _, _, _ => none
    | none, some .string, some (.sx a) => match boundS P X hi tm (nrmS X (.len a)), boundS P X lo tm (.int .i64 0) with
      | some h, some l => if knd X a = some .str ∧ nonneg X l = true ∧ cmpS X .leq l h = true ∧ cmpS X .leq h (nrmS X (.len a)) = true then some (.val (nrm X (.sub a l h)) s) else none
      | _, _ => none
    | _, _, _ => none
  | .lookup t m k ok => match P.underlying t, rd P tm m, rd P tm k with
    | some (.map kt e), some v, some (.sx ke) => if keyOkS P kt (knd X ke) then (match s.entries v, zeroV P e with
      | some es, some z => match keyIdxS X ke es 0 with
        | some (some (_, v)) => some (.val (if ok then .tuple [v, .bool true] else v) s)
        | some none => some (.val (if ok then .tuple [z, .bool false] else z) s)
        | none => none
      | _, _ => none) else none
    | _, _, _ => none
  | .call c => match c.callee with
    | .builtin .len => match c.argTypes.toList, rds P tm c.args.toList with
      | t :: _, some [v] => match lenSy X P t v with
        | some e => some (.val (nrm X e) s)
        | none => none
      | _, _ => none
    | .builtin .append => match c.argTypes.toList, rds P tm c.args.toList with
      | [t, u], some [x, y] => match appendSy X P s t u x y with
        | some (v, s') => some (.val v s')
        | none => none
      | _, _ => none
    | .builtin .max => match rds P tm c.args.toList with
      | some [x, y] => match maxSy X x y with
        | some v => some (.val v s)
        | none => none
      | _ => none
    | _ => none
  | _ => none

/-- The evaluator's answer: of what is known first, of what is unknown then. -/
noncomputable def evX (X : Ctx) (P : Program) (tm : Tr AV) (s : St) (o : Oper) : Option ARes := match evK P tm s o with
  | some r => some r
  | none => evSy X P tm s o
end Go.Proofs.YtjaaajmiojigbaaGreatDoor
