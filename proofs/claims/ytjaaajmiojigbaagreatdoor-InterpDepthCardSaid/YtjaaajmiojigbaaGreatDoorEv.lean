/- An evaluator for closed runs: memory is a trie of blocks, caps of slices are lower bounds, an append beyond a cap moves the slice's cells into a new block and lets the old block die. No program in sight. -/
import Derived.Test.YtjaaajmiojigbaaGreatDoorSx
namespace Go.Proofs.YtjaaajmiojigbaaGreatDoor
open Go

inductive AV where
  | bool (b : Bool)
  | int (k : IntKind) (n : Int)
  | str (l : List Nat)
  | nilPtr
  | ptr (b o : Nat)
  | nilSlice
  | emptyS
  | zeroS
  | slice (b o n c sz : Nat)
  | nilMap
  | map (b : Nat)
  | fn (f : Fn) (first cap : List AV)
  | nilFn
  | iface (t : TypeId) (v : AV)
  | nilIface
  | agg (cs : List AV)
  | tuple (vs : List AV)
  | yieldF
  | sx (e : SX)
  | gsl (b : Nat) (e : SX) (z : Nat)
  | fp (a i : SX) (j : Nat)
  deriving Inhabited

inductive AO where
  | cells (ro : Bool) (vs : Tr AV) (n : Nat)
  | map (es : List (AV × AV))
  | siter (s : List Nat) (pos : Nat)
  | seq (z : Nat) (e : SX)
  | row (z : Nat) (e : SX)

/-- What is told of the unknown. -/
structure Ctx where
  facts : List (SX × SX)
  vk : List Kd
  kt : List (List Kd)
  gt : List (Nat × Nat)

structure St where
  H : Tr AO
  nx : Nat
  hi : Nat

noncomputable def AV.one : AV → Bool
  | .agg _ | .tuple _ => false
  | _ => true

noncomputable def AV.cells : AV → List AV
  | .agg cs => cs
  | v => [v]

noncomputable def byteA (c : Nat) : AV := .int .u8 (c : Int)
noncomputable def nats (s : ByteArray) : List Nat := s.data.toList.map UInt8.toNat

noncomputable def ofVal0 : Value → Option AV
  | .bool b => some (.bool b)
  | .int k n => some (.int k n)
  | .string s => some (.str (nats s))
  | .pointer none => some .nilPtr
  | .slice none 0 0 => some .nilSlice
  | .map none => some .nilMap
  | .nilFunc => some .nilFn
  | .nilIface => some .nilIface
  | _ => none
noncomputable def ofVal : Value → Option AV
  | .agg cs => match cs.toList.mapM ofVal0 with
    | some l => some (.agg l)
    | none => none
  | v => ofVal0 v

noncomputable def rd (P : Program) (tm : Tr AV) : Operand → Option AV
  | .tmp t => tm.get t
  | .const v => ofVal v
  | .global g => if g < P.globals.size then some (.ptr g 0) else none
  | .func f => some (.fn (.func f) [] [])

noncomputable def isConstO : Operand → Bool
  | .const _ => true
  | _ => false

noncomputable def rds (P : Program) (tm : Tr AV) : List Operand → Option (List AV)
  | [] => some []
  | x :: r => match rd P tm x, rds P tm r with
    | some v, some vs => some (v :: vs)
    | _, _ => none

/-- Cells of a block. -/
noncomputable def readN (vs : Tr AV) (o : Nat) : Nat → Option (List AV)
  | 0 => some []
  | n + 1 => match vs.get o, readN vs (o + 1) n with
    | some v, some r => some (v :: r)
    | _, _ => none
noncomputable def writeN (vs : Tr AV) (o : Nat) : List AV → Tr AV
  | [] => vs
  | v :: r => writeN (vs.set o v) (o + 1) r

/-- A new block under the number that is next; behind it the numbers go on where nothing has been met. -/
noncomputable def St.new (s : St) (o : AO) : St := ⟨s.H.set s.nx o, max s.hi (s.nx + 1), max s.hi (s.nx + 1)⟩
noncomputable def St.cells (s : St) (cs : List AV) : St := s.new (.cells false (writeN .leaf 0 cs) cs.length)

noncomputable def St.load (s : St) (b o n : Nat) : Option (List AV) :=
  match s.H.get b with
  | some (.cells _ vs _) => readN vs o n
  | _ => none
noncomputable def St.store (s : St) (b o : Nat) (cs : List AV) : Option St :=
  match s.H.get b with
  | some (.cells false vs n) => if o + cs.length ≤ n ∧ cs.all AV.one = true then some ⟨s.H.set b (.cells false (writeN vs o cs) n), s.nx, s.hi⟩ else none
  | _ => none

noncomputable def isAggD : TypeDesc → Bool
  | .struct _ | .array _ _ => true
  | _ => false

noncomputable def szOf (P : Program) (t : TypeId) : Option Nat := (P.info? t).map (·.size)
noncomputable def zeroA (P : Program) (t : TypeId) : Option (List AV) := match P.info? t with
  | some i => match i.zero with
    | some z => z.cells.toList.mapM ofVal
    | none => none
  | none => none
/-- The zero value. -/
noncomputable def zeroV (P : Program) (t : TypeId) : Option AV := match P.info? t with
  | some i => match i.zero with
    | some (.agg cs) => (cs.toList.mapM ofVal).map .agg
    | some v => ofVal v
    | none => none
  | none => none
noncomputable def byteN : AV → Option Nat
  | .int .u8 (.ofNat n) => if n < 256 then some n else none
  | _ => none
noncomputable def isU8 (P : Program) (e : TypeId) : Bool := match P.underlying e with
  | some (.int .u8) => true
  | _ => false

noncomputable def St.loadVar (P : Program) (s : St) (t : TypeId) : AV → Option AV
  | .ptr b o => match P.underlying t, szOf P t with
    | some d, some n => if isAggD d then (s.load b o n).map .agg else match s.load b o 1 with
      | some [v] => some v
      | _ => none
    | _, _ => none
  | _ => none
noncomputable def St.storeVar (P : Program) (s : St) (t : TypeId) (v : AV) : AV → Option St
  | .ptr b o => match szOf P t with
    | some n => if v.cells.length = n then s.store b o v.cells else none
    | none => none
  | _ => none

/-- Cells replaced from an offset on. -/
noncomputable def over (cs : List AV) (o : Nat) (xs : List AV) : Option (List AV) :=
  if o + xs.length ≤ cs.length then some (cs.take o ++ xs ++ cs.drop (o + xs.length)) else none
noncomputable def fillA (place : Nat → Option (Nat × Nat)) (cs : List AV) : List (Nat × AV) → Option (List AV)
  | [] => some cs
  | (i, v) :: r => match place i with
    | some (o, n) => if v.cells.length = n then (match over cs o v.cells with | some cs' => fillA place cs' r | none => none) else none
    | none => none

noncomputable def fieldOf (P : Program) (t : TypeId) (k : Nat) : Option Field := match P.underlying t with
  | some (.struct fs) => fs[k]?
  | _ => none
noncomputable def elemSl (P : Program) (t : TypeId) : Option TypeId := match P.underlying t with
  | some (.slice e) => some e
  | _ => none

/-- Where the parts of a value lie. -/
noncomputable def placeA (P : Program) (t : TypeId) : Option (Nat → Option (Nat × Nat)) := match P.underlying t with
  | some (.array _ e) => match P.info? e with
    | some i => some fun k => some (k * i.size, i.size)
    | none => none
  | some (.struct fs) => match fs.toList.mapM (fun f => (P.info? f.type).map fun i => (f.offset, i.size)) with
    | some ps => some fun k => ps[k]?
    | none => none
  | _ => none

noncomputable def partA (P : Program) (t : TypeId) (cs : List AV) (o : Nat) : Option AV := match P.underlying t, szOf P t with
  | some d, some n => if isAggD d then (if o + n ≤ cs.length then some (.agg ((cs.drop o).take n)) else none) else cs[o]?
  | _, _ => none

noncomputable def intA (v : AV) : Option Int := match v with | .int _ n => some n | _ => none
noncomputable def natA (v : AV) : Option Nat := match v with | .int _ (.ofNat n) => some n | _ => none

/-- Equality: scalars, and whatever else against nil. -/
noncomputable def eqA (P : Program) (t : TypeId) : AV → AV → Option Bool
  | .bool a, .bool b => match P.underlying t with
    | some .bool => some (a == b)
    | _ => none
  | .nilPtr, .nilPtr => match P.underlying t with
    | some (.pointer _) => some true
    | _ => none
  | .nilPtr, .ptr _ _ => match P.underlying t with
    | some (.pointer _) => some false
    | _ => none
  | .ptr _ _, .nilPtr => match P.underlying t with
    | some (.pointer _) => some false
    | _ => none
  | .nilSlice, .nilSlice => match P.underlying t with
    | some (.slice _) => some true
    | _ => none
  | .slice .., .nilSlice => match P.underlying t with
    | some (.slice _) => some false
    | _ => none
  | .nilMap, .nilMap => match P.underlying t with
    | some (.map _ _) => some true
    | _ => none
  | .map _, .nilMap => match P.underlying t with
    | some (.map _ _) => some false
    | _ => none
  | .nilFn, .nilFn => match P.underlying t with
    | some (.func _ _ _) => some true
    | _ => none
  | .fn .., .nilFn => match P.underlying t with
    | some (.func _ _ _) => some false
    | _ => none
  | .nilIface, .iface _ _ => match P.underlying t with
    | some (.interface _) => some false
    | _ => none
  | .iface _ _, .nilIface => match P.underlying t with
    | some (.interface _) => some false
    | _ => none
  | .nilIface, .nilIface => match P.underlying t with
    | some (.interface _) => some true
    | _ => none
  | _, _ => none

noncomputable def binA (P : Program) (t : TypeId) (op : BinOp) : AV → AV → Option AV
  | .int k a, .int k' b =>
    match op with
    | .shl => if 0 ≤ b then some (.int k (k.wrap (a * 2 ^ (min b.toNat k.bits)))) else none
    | .shr => if 0 ≤ b then some (.int k (a.fdiv (2 ^ (min b.toNat k.bits)))) else none
    | _ => if k = k' then
      match op with
      | .add => some (.int k (k.wrap (a + b)))
      | .sub => some (.int k (k.wrap (a - b)))
      | .mul => some (.int k (k.wrap (a * b)))
      | .quo => if b = 0 then none else some (.int k (k.wrap (a.tdiv b)))
      | .rem => if b = 0 then none else some (.int k (a.tmod b))
      | .eql => some (.bool (a == b))
      | .neq => some (.bool (a != b))
      | .lss => some (.bool (decide (a < b)))
      | .leq => some (.bool (decide (a ≤ b)))
      | .gtr => some (.bool (decide (b < a)))
      | .geq => some (.bool (decide (b ≤ a)))
      | _ => none
      else none
  | .str a, .str b =>
    match op with
    | .add => if a.length + b.length ≤ 1000000 then some (.str (a ++ b)) else none
    | .eql => some (.bool (a == b))
    | .neq => some (.bool (!(a == b)))
    | .lss => some (.bool (lessB a b))
    | .leq => some (.bool (lessB a b || a == b))
    | .gtr => some (.bool (!(lessB a b || a == b)))
    | .geq => some (.bool (!lessB a b))
    | _ => none
  | x, y =>
    match op with
    | .eql => (eqA P t x y).map .bool
    | .neq => (eqA P t x y).map fun b => .bool (!b)
    | _ => none

noncomputable def keyIdx (k : AV) : List (AV × AV) → Nat → Option (Option (Nat × AV))
  | [], _ => some none
  | (k', v) :: r, i => match k, k' with
    | .int j a, .int j' b => if j = j' then (if a = b then some (some (i, v)) else keyIdx k r (i + 1)) else none
    | .str a, .str b => if a == b then some (some (i, v)) else keyIdx k r (i + 1)
    | .bool a, .bool b => if a == b then some (some (i, v)) else keyIdx k r (i + 1)
    | _, _ => none

noncomputable def keyOk (P : Program) (t : TypeId) : AV → Bool
  | .int _ _ => match P.underlying t with
    | some (.int _) => true
    | _ => false
  | .str _ => match P.underlying t with
    | some .string => true
    | _ => false
  | .bool _ => match P.underlying t with
    | some .bool => true
    | _ => false
  | _ => false

noncomputable def mapPut (es : List (AV × AV)) (k v : AV) : Option (List (AV × AV)) := match keyIdx k es 0 with
  | some (some (i, _)) => some (es.set i (k, v))
  | some none => some (es ++ [(k, v)])
  | none => none

noncomputable def St.entries (s : St) : AV → Option (List (AV × AV))
  | .nilMap => some []
  | .map b => match s.H.get b with
    | some (.map es) => some es
    | _ => none
  | _ => none

inductive ARes where
  | val (v : AV) (s : St)
  | skip (s : St)
  | enter (f : FuncId) (args : List AV) (s : St)

noncomputable def St.mapUp (P : Program) (s : St) (t : TypeId) (m k x : Option AV) : Option ARes := match P.underlying t, m, k, x with
  | some (.map kt _), some (.map b), some key, some v => if keyOk P kt key then (match s.H.get b with
    | some (.map es) => (mapPut es key v).map fun es' => .skip ⟨s.H.set b (.map es'), s.nx, s.hi⟩
    | _ => none) else none
  | _, _, _, _ => none

noncomputable def utf8A (l : List Nat) (pos : Nat) : Option (Nat × Nat) := match l[pos]? with
  | some c => if c < 128 then some (c, 1) else none
  | none => none

noncomputable def newsA (st : St) (du : TypeDesc) (sz : Nat) (y : AV) : Option (Nat × List AV) := match du, y with
  | .slice _, .nilSlice => some (0, [])
  | .slice _, .emptyS => some (0, [])
  | .slice _, .slice b o n _ _ => match st.load b o (n * sz) with
    | some cs => some (n, cs)
    | none => none
  | .string, .str l => some (l.length, l.map byteA)
  | _, _ => none

noncomputable def growA (st : St) (i : TypeInfo) (x : AV) (m : Nat) (cs : List AV) : Option (AV × St) := match x with
  | .nilSlice => if m = 0 then some (.nilSlice, st) else if m * i.bytes ≤ 1000000000 then some (.slice st.nx 0 m m i.size, st.cells cs) else none
  | .slice b o n c z =>
    if z = i.size then
      if n + m ≤ c then match st.H.get b with
        | some (.cells false vs k) => some (.slice b o (n + m) c z, ⟨st.H.set b (.cells false (writeN vs (o + n * z) cs) (max k (o + n * z + cs.length))), st.nx, st.hi⟩)
        | _ => none
      else if n + m ≤ 1000000 ∧ (n + m) * i.bytes ≤ 1000000000 then match st.H.get b, st.load b o (n * z) with
        | some (.cells false _ _), some old => some (.slice st.nx 0 (n + m) (n + m) z, St.cells ⟨st.H.del b, st.nx, st.hi⟩ (old ++ cs))
        | _, _ => none
      else none
    else none
  | _ => none

noncomputable def appendA (P : Program) (st : St) (t u : TypeId) (x y : AV) : Option (AV × St) :=
  match elemSl P t, P.underlying u with
  | some e, some du => match P.info? e, zeroA P e with
    | some i, some z => match newsA st du i.size y with
      | some (m, cs) => if cs.length = m * i.size ∧ cs.all AV.one = true ∧ z.length = i.size ∧ m ≤ 1000000 then growA st i x m cs else none
      | none => none
    | _, _ => none
  | _, _ => none

noncomputable def srcA (st : St) (sz lim : Nat) : AV → Option (Nat × List AV)
  | .nilSlice => some (0, [])
  | .emptyS => some (0, [])
  | .slice b o n _ _ => match st.load b o (min n lim * sz) with
    | some cs => some (min n lim, cs)
    | none => none
  | .str l => some (min l.length lim, (l.take (min l.length lim)).map byteA)
  | _ => none

noncomputable def builtinA (P : Program) (s : St) (b : Builtin) (ts : List TypeId) (args : List AV) : Option ARes :=
  match b, ts, args with
  | .len, t :: _, [x] => match P.underlying t, x with
    | some .string, .str l => some (.val (.int .i64 l.length) s)
    | some (.slice _), .nilSlice => some (.val (.int .i64 0) s)
    | some (.slice _), .emptyS => some (.val (.int .i64 0) s)
    | some (.slice _), .slice _ _ n _ _ => some (.val (.int .i64 n) s)
    | some (.map _ _), .nilMap => some (.val (.int .i64 0) s)
    | some (.map _ _), .map b => match s.H.get b with
      | some (.map es) => some (.val (.int .i64 es.length) s)
      | _ => none
    | some (.array n _), _ => some (.val (.int .i64 n) s)
    | _, _ => none
  | .append, [t, u], [x, y] => match appendA P s t u x y with
    | some (v, s') => some (.val v s')
    | none => none
  | .max, _, [.int k x, .int _ y] => some (.val (.int k (if y > x then y else x)) s)
  | .min, _, [.int k x, .int _ y] => some (.val (.int k (if y < x then y else x)) s)
  | .delete, t :: _, [.map b, k] => match P.underlying t, s.H.get b with
    | some (.map kt _), some (.map es) => if keyOk P kt k then (match keyIdx k es 0 with
      | some (some (i, _)) => some (.val (.tuple []) ⟨s.H.set b (.map (es.eraseIdx i)), s.nx, s.hi⟩)
      | some none => some (.val (.tuple []) ⟨s.H.set b (.map es), s.nx, s.hi⟩)
      | none => none) else none
    | _, _ => none
  | .clear, t :: _, [x] => match elemSl P t, x with
    | some _, .emptyS => some (.val (.tuple []) s)
    | some e, .slice b o n _ _ => match zeroA P e with
      | some z => if z.length * n ≤ 1000000 then match s.store b o (List.flatten (List.replicate n z)) with
        | some s' => some (.val (.tuple []) s')
        | none => none
        else none
      | none => none
    | _, _ => none
  | .copy, t :: _, [.slice b o n _ _, y] => match elemSl P t with
    | none => none
    | some e => match szOf P e with
      | none => none
      | some sz => match srcA s sz n y with
        | none => none
        | some (m, cs) => match s.store b o cs with
          | some s' => some (.val (.int .i64 m) s')
          | none => none
  | _, _, _ => none

noncomputable def bound (P : Program) (v : Option Operand) (tm : Tr AV) (dflt : Nat) : Option Nat := match v with
  | none => some dflt
  | some x => match rd P tm x with
    | some v => natA v
    | none => none

noncomputable def enters (P : Program) (g : FuncId) : Bool := match P.funcs[g]? with
  | some fn => fn.body.isSome && !(fn.name == "runtime.NumGoroutine")
  | none => false
noncomputable def recvOk (P : Program) (t : TypeId) (q : Bool) : Bool := match P.underlying t with
  | some (.pointer _) => q
  | some _ => !q
  | none => false
/-- The function that a method call runs. -/
noncomputable def methA (P : Program) (t : TypeId) (name : String) : Option FuncId := match P.info? t with
  | some i => match i.methods.find? (·.name == name) with
    | some m => match m.func, m.path.toList with
      | some (g, q), [] => if enters P g = true ∧ recvOk P t q = true then some g else none
      | _, _ => none
    | none => none
  | none => none

noncomputable def evOp (P : Program) (tm : Tr AV) (s : St) (o : Oper) : Option ARes :=
  match o.op with
  | .move x | .assign x => (rd P tm x).map fun v => .val v s
  | .pick c a b => match rd P tm c with
    | some (.bool true) => (rd P tm a).map fun v => .val v s
    | some (.bool false) => (rd P tm b).map fun v => .val v s
    | _ => none
  | .alloc e => match zeroA P e with
    | some z => some (.val (.ptr s.nx 0) (s.cells z))
    | none => none
  | .box _ x => (rd P tm x).map fun v => .val (.ptr s.nx 0) (s.cells v.cells)
  | .build t parts => match zeroA P t, placeA P t, rds P tm (parts.toList.map (·.2)) with
    | some z, some place, some vs => (fillA place z ((parts.toList.map (·.1)).zip vs)).map fun cs => .val (.agg cs) s
    | _, _, _ => none
  | .buildSlice t len parts => match elemSl P t with
    | none => none
    | some e => match zeroA P e, szOf P e, rds P tm (parts.toList.map (·.2)) with
      | some z, some n, some vs => if z.length = n ∧ len * n ≤ 1000000 ∧ len ≤ 1000000 then match fillA (fun k => some (k * n, n)) (List.flatten (List.replicate len z)) ((parts.toList.map (·.1)).zip vs) with
        | some cs => some (.val (.slice s.nx 0 len len n) (s.cells cs))
        | none => none
        else none
      | _, _, _ => none
  | .load t a => match rd P tm a with
    | some p => (s.loadVar P t p).map fun v => .val v s
    | none => none
  | .store t a x => match rd P tm a, rd P tm x with
    | some p, some v => (s.storeVar P t v p).map .skip
    | _, _ => none
  | .nilCheck x => match rd P tm x with
    | some .nilPtr | some .nilIface | some .nilFn | some .yieldF | some (.sx _) | some (.gsl ..) => none
    | some (.fn (.func f) a b) => some (.val (.fn (.func f) a b) s)
    | some (.fn ..) => none
    | some v => some (.val v s)
    | none => none
  | .binOp op t x y _ => match rd P tm x, rd P tm y with
    | some .nilIface, some .nilIface => if isConstO x || isConstO y then (binA P t op .nilIface .nilIface).map fun v => .val v s else none
    | some a, some b => (binA P t op a b).map fun v => .val v s
    | _, _ => none
  | .unOp op _ x => match op, rd P tm x with
    | .neg, some (.int k n) => some (.val (.int k (k.wrap (0 - n))) s)
    | .not, some (.bool b) => some (.val (.bool (!b)) s)
    | _, _ => none
  | .convert src dst x => match P.underlying src, P.underlying dst, rd P tm x with
    | some i, some j, some v => match i, j, v with
      | _, .int k, .int _ n => some (.val (.int k (k.wrap n)) s)
      | _, .string, .str l => some (.val (.str l) s)
      | _, .string, .int _ (.ofNat n) => if n < 128 then some (.val (.str [n]) s) else none
      | .string, .slice e, .str l => if isU8 P e ∧ l.length ≤ 1000000 then some (.val (.slice s.nx 0 l.length l.length 1) (s.new (.cells true (writeN .leaf 0 (l.map byteA)) l.length))) else none
      | .slice e, .string, .nilSlice => if isU8 P e then some (.val (.str []) s) else none
      | .slice e, .string, .slice b o n _ 1 => if isU8 P e then (match s.load b o n with
        | some cs => match cs.mapM byteN with
          | some l => some (.val (.str l) s)
          | none => none
        | none => none) else none
      | _, _, _ => none
    | _, _, _ => none
  | .makeInterface t x => match P.underlying t with
    | some (.interface _) => none
    | some _ => (rd P tm x).map fun v => .val (.iface t v) s
    | none => none
  | .makeFunc f first cap => match rds P tm first.toList, rds P tm cap.toList with
    | some a, some b => some (.val (.fn f a b) s)
    | _, _ => none
  | .makeMap t x => match x with
    | none => some (.val (.map s.nx) (s.new (.map [])))
    | some y => match rd P tm y, P.underlying t with
      | some (.int _ _), some (.map _ _) => some (.val (.map s.nx) (s.new (.map [])))
      | _, _ => none
  | .makeSlice t l c => match elemSl P t, rd P tm l, rd P tm c with
    | some e, some (.int _ (.ofNat n)), some (.int _ (.ofNat k)) => match zeroA P e, P.info? e with
      | some z, some i => if n ≤ k ∧ k * i.size ≤ 1000000 ∧ k ≤ 1000000 ∧ z.length = i.size ∧ i.bytes * k ≤ 281474976710656 then some (.val (.slice s.nx 0 n k i.size) (s.cells (List.flatten (List.replicate k z)))) else none
      | _, _ => none
    | _, _, _ => none
  | .slice t x lo hi mx => match mx, P.underlying t, rd P tm x with
    | none, some .string, some (.str l) => match bound P hi tm l.length with
      | some h => match bound P lo tm 0 with
        | some k => if k ≤ h ∧ h ≤ l.length then some (.val (.str ((l.take h).drop k)) s) else none
        | none => none
      | none => none
    | none, some (.slice e), some (.slice b o n c z) => if szOf P e = some z then match bound P hi tm n with
      | some h => match bound P lo tm 0 with
        | some k => if k ≤ h ∧ h ≤ c then (if k < c then some (.val (.slice b (o + k * z) (h - k) (c - k) z) s) else some (.val .emptyS s)) else none
        | none => none
      | none => none
      else none
    | some y, some (.slice e), some (.slice b o n c z) => if szOf P e = some z ∧ hi.isSome = true then match bound P hi tm n, bound P (some y) tm 0 with
      | some h, some m => match bound P lo tm 0 with
        | some k => if k ≤ h ∧ h ≤ m ∧ m ≤ c then (if k < m then some (.val (.slice b (o + k * z) (h - k) (m - k) z) s) else some (.val .emptyS s)) else none
        | none => none
      | _, _ => none
      else none
    | none, some (.slice e), some .nilSlice => match szOf P e, bound P hi tm 0, bound P lo tm 0 with
      | some _, some 0, some 0 => some (.val .nilSlice s)
      | _, _, _ => none
    | none, some (.slice e), some .emptyS => match szOf P e, bound P hi tm 0, bound P lo tm 0 with
      | some _, some 0, some 0 => some (.val .emptyS s)
      | _, _, _ => none
    | _, _, _ => none
  | .fieldAddr t x f => match fieldOf P t f, rd P tm x with
    | some d, some (.ptr b o) => match szOf P d.type with
      | some (_ + 1) => some (.val (.ptr b (o + d.offset)) s)
      | _ => none
    | _, _ => none
  | .field t x f => match fieldOf P t f, rd P tm x with
    | some d, some (.agg cs) => (partA P d.type cs d.offset).map fun v => .val v s
    | _, _ => none
  | .indexAddr t x i => match P.underlying t, rd P tm x, rd P tm i with
    | some j, some v, some (.int _ (.ofNat k)) => match j, v with
      | .array n e, .ptr b o => if k < n then (szOf P e).map fun z => .val (.ptr b (o + k * z)) s else none
      | .slice e, .slice b o n _ z => if k < n ∧ szOf P e = some z then some (.val (.ptr b (o + k * z)) s) else none
      | _, _ => none
    | _, _, _ => none
  | .index t x i => match P.underlying t, rd P tm x, rd P tm i with
    | some j, some v, some (.int _ (.ofNat k)) => match j, v with
      | .array n e, .agg cs => if k < n then (match szOf P e with | some z => (partA P e cs (k * z)).map fun v => .val v s | none => none) else none
      | .string, .str l => match l[k]? with
        | some c => some (.val (.int .u8 (c : Int)) s)
        | none => none
      | _, _ => none
    | _, _, _ => none
  | .lookup t m k ok => match P.underlying t, rd P tm m, rd P tm k with
    | some (.map kt e), some v, some key => if keyOk P kt key then (match s.entries v, zeroV P e with
      | some es, some z => match keyIdx key es 0 with
        | some (some (_, v)) => some (.val (if ok then .tuple [v, .bool true] else v) s)
        | some none => some (.val (if ok then .tuple [z, .bool false] else z) s)
        | none => none
      | _, _ => none) else none
    | _, _, _ => none
  | .mapUpdate t m k x | .insert t m k x => s.mapUp P t (rd P tm m) (rd P tm k) (rd P tm x)
  | .range t x => match P.underlying t, rd P tm x with
    | some .string, some (.str l) => some (.val (.ptr s.nx 0) (s.new (.siter l 0)))
    | _, _ => none
  | .next it isStr => match isStr, rd P tm it with
    | true, some (.ptr b 0) => match s.H.get b with
      | some (.siter l pos) => if pos < l.length then (match utf8A l pos with
        | some (c, w) => some (.val (.tuple [.bool true, .int .i64 pos, .int .i32 c]) ⟨s.H.set b (.siter l (pos + w)), s.nx, s.hi⟩)
        | none => none) else some (.val (.tuple [.bool false]) s)
      | _ => none
    | _, _ => none
  | .typeAssert x _ t ok => match rd P tm x, P.underlying t with
    | some _, some (.interface _) => none
    | some (.iface u y), some _ => if u = t then some (.val (if ok then .tuple [y, .bool true] else y) s) else if ok then
        (match zeroV P t with
        | some z => some (.val (.tuple [z, .bool false]) s)
        | none => none) else none
    | some .nilIface, some _ => if ok then
        (match zeroV P t with
        | some z => some (.val (.tuple [z, .bool false]) s)
        | none => none) else none
    | _, _ => none
  | .extract t k => match rd P tm t with
    | some (.tuple vs) => (vs[k]?).map fun v => .val v s
    | _ => none
  | .call c => match rds P tm c.args.toList with
    | none => none
    | some args => match c.callee with
      | .builtin b => builtinA P s b c.argTypes.toList args
      | .value f => match rd P tm f with
        | some (.fn (.func g) first cap) => if enters P g then some (.enter g (first ++ args ++ cap) s) else none
        | _ => none
      | .invoke r name => match rd P tm r with
        | some (.iface t v) => match methA P t name with
          | some g => some (.enter g (v :: args) s)
          | none => none
        | _ => none
  | _ => none

end Go.Proofs.YtjaaajmiojigbaaGreatDoor
