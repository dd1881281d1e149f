/- The evaluator once more, in small functions: the kernel unfolds them faster. Printed by a program out of the evaluator's text. -/
import Derived.Test.YtjaaajmiojigbaaGreatDoorEv
namespace Go.Proofs.YtjaaajmiojigbaaGreatDoor
open Go

noncomputable def binI (op : BinOp) (k : IntKind) (a : Int) (k' : IntKind) (b : Int) : Option AV :=
    match op with
    | .shl => if 0 ≤ b then some (.int k (k.wrap (a * 2 ^ (min b.toNat k.bits)))) else none
    | .shr => if 0 ≤ b then some (.int k (a.fdiv (2 ^ (min b.toNat k.bits)))) else none
    | _ => if k = k' then
      match op with
      | .add => some (.int k (k.wrap (a + b)))
      | .sub => some (.int k (k.wrap (a - b)))
      | .mul => some (.int k (k.wrap (a * b)))
      | .quo => if b = 0 then none else some (.int k (k.wrap (a.tdiv b)))
      | .rem => if b = 0 then none else some (.int k (a.tmod b))
      | .eql => some (.bool (a == b))
      | .neq => some (.bool (a != b))
      | .lss => some (.bool (decide (a < b)))
      | .leq => some (.bool (decide (a ≤ b)))
      | .gtr => some (.bool (decide (b < a)))
      | .geq => some (.bool (decide (b ≤ a)))
      | _ => none
      else none
noncomputable def binS (op : BinOp) (a b : List Nat) : Option AV :=
    match op with
    | .add => if a.length + b.length ≤ 1000000 then some (.str (a ++ b)) else none
    | .eql => some (.bool (a == b))
    | .neq => some (.bool (!(a == b)))
    | .lss => some (.bool (lessB a b))
    | .leq => some (.bool (lessB a b || a == b))
    | .gtr => some (.bool (!(lessB a b || a == b)))
    | .geq => some (.bool (!lessB a b))
    | _ => none
noncomputable def binE (P : Program) (t : TypeId) (op : BinOp) (x y : AV) : Option AV :=
    match op with
    | .eql => (eqA P t x y).map .bool
    | .neq => (eqA P t x y).map fun b => .bool (!b)
    | _ => none
noncomputable def binK (P : Program) (t : TypeId) (op : BinOp) : AV → AV → Option AV
  | .int k a, .int k' b => binI op k a k' b
  | .str a, .str b => binS op a b
  | x, y => binE P t op x y
theorem binK_eq (P : Program) (t : TypeId) (op : BinOp) (x y : AV) : binK P t op x y = binA P t op x y := by
  cases x <;> cases y <;> rfl
noncomputable def biLen (P : Program) (s : St) (t : TypeId) (x : AV) : Option ARes := match P.underlying t, x with
    | some .string, .str l => some (.val (.int .i64 l.length) s)
    | some (.slice _), .nilSlice => some (.val (.int .i64 0) s)
    | some (.slice _), .emptyS => some (.val (.int .i64 0) s)
    | some (.slice _), .slice _ _ n _ _ => some (.val (.int .i64 n) s)
    | some (.map _ _), .nilMap => some (.val (.int .i64 0) s)
    | some (.map _ _), .map b => match s.H.get b with
      | some (.map es) => some (.val (.int .i64 es.length) s)
      | _ => none
    | some (.array n _), _ => some (.val (.int .i64 n) s)
    | _, _ => none
noncomputable def biApp (P : Program) (s : St) (t u : TypeId) (x y : AV) : Option ARes := match appendA P s t u x y with
    | some (v, s') => some (.val v s')
    | none => none
noncomputable def builtinK (P : Program) (s : St) (b : Builtin) (ts : List TypeId) (args : List AV) : Option ARes :=
  match b with
  | .len => match ts, args with
    | t :: _, [x] => biLen P s t x
    | _, _ => none
  | .append => match ts, args with
    | [t, u], [x, y] => biApp P s t u x y
    | _, _ => none
  | b => builtinA P s b ts args
theorem builtinK_eq (P : Program) (s : St) (b : Builtin) (ts : List TypeId) (args : List AV) : builtinK P s b ts args = builtinA P s b ts args := by
  cases b <;> try rfl
  · rcases ts with _ | ⟨t, _ | ⟨u, _ | ts⟩⟩ <;> rcases args with _ | ⟨x, _ | ⟨y, _ | as⟩⟩ <;> rfl
  · rcases ts with _ | ⟨t, ts⟩ <;> rcases args with _ | ⟨x, _ | ⟨y, as⟩⟩ <;> rfl
noncomputable def rdF (P : Program) (tm : Tr AV) (x : Operand) : Option AV := Operand.rec (motive := fun _ => Program → Tr AV → Option AV) (fun t _ tm => tm.get t) (fun v _ _ => ofVal v) (fun g P _ => if g < P.globals.size then some (.ptr g 0) else none) (fun f _ _ => some (.fn (.func f) [] [])) x P tm
theorem rdF_eq : rdF = rd := by funext P tm x; cases x <;> rfl
noncomputable def rdsF (P : Program) (tm : Tr AV) (l : List Operand) : Option (List AV) := List.rec (motive := fun _ => Program → Tr AV → Option (List AV)) (fun _ _ => some []) (fun x _ ih P tm => match rdF P tm x, ih P tm with
    | some v, some vs => some (v :: vs)
    | _, _ => none) l P tm
theorem rdsF_eq : rdsF = rds := by
  funext P tm l
  induction l with
  | nil => rfl
  | cons x r ih => show (match rdF P tm x, rdsF P tm r with | some v, some vs => some (v :: vs) | _, _ => none) = _; rw [ih, rdF_eq]; rfl
noncomputable def boundF (P : Program) (v : Option Operand) (tm : Tr AV) (dflt : Nat) : Option Nat := match v with
  | none => some dflt
  | some x => match rdF P tm x with
    | some v => natA v
    | none => none
theorem boundF_eq : boundF = bound := by
  funext P v tm d
  cases v with
  | none => rfl
  | some x => simp only [boundF, bound, rdF_eq]; rfl
noncomputable def ek_move (P : Program) (tm : Tr AV) (s : St) (x : Operand) : Option ARes :=
   (rdF P tm x).map fun v => .val v s
noncomputable def ek_pick (P : Program) (tm : Tr AV) (s : St) (c : Operand) (a : Operand) (b : Operand) : Option ARes :=
   match rdF P tm c with
    | some (.bool true) => (rdF P tm a).map fun v => .val v s
    | some (.bool false) => (rdF P tm b).map fun v => .val v s
    | _ => none
noncomputable def ek_alloc (P : Program) (_ : Tr AV) (s : St) (e : TypeId) : Option ARes :=
   match zeroA P e with
    | some z => some (.val (.ptr s.nx 0) (s.cells z))
    | none => none
noncomputable def ek_box (P : Program) (tm : Tr AV) (s : St) (x : Operand) : Option ARes :=
   (rdF P tm x).map fun v => .val (.ptr s.nx 0) (s.cells v.cells)
noncomputable def ek_build (P : Program) (tm : Tr AV) (s : St) (t : TypeId) (parts : Array (Nat × Operand)) : Option ARes :=
   match zeroA P t, placeA P t, rdsF P tm (parts.toList.map (·.2)) with
    | some z, some place, some vs => (fillA place z ((parts.toList.map (·.1)).zip vs)).map fun cs => .val (.agg cs) s
    | _, _, _ => none
noncomputable def ek_buildSlice (P : Program) (tm : Tr AV) (s : St) (t : TypeId) (len : Nat) (parts : Array (Nat × Operand)) : Option ARes :=
   match elemSl P t with
    | none => none
    | some e => match zeroA P e, szOf P e, rdsF P tm (parts.toList.map (·.2)) with
      | some z, some n, some vs => if z.length = n ∧ len * n ≤ 1000000 ∧ len ≤ 1000000 then match fillA (fun k => some (k * n, n)) (List.flatten (List.replicate len z)) ((parts.toList.map (·.1)).zip vs) with
        | some cs => some (.val (.slice s.nx 0 len len n) (s.cells cs))
        | none => none
        else none
      | _, _, _ => none
noncomputable def ek_load (P : Program) (tm : Tr AV) (s : St) (t : TypeId) (a : Operand) : Option ARes :=
   match rdF P tm a with
    | some p => (s.loadVar P t p).map fun v => .val v s
    | none => none
noncomputable def ek_store (P : Program) (tm : Tr AV) (s : St) (t : TypeId) (a : Operand) (x : Operand) : Option ARes :=
   match rdF P tm a, rdF P tm x with
    | some p, some v => (s.storeVar P t v p).map .skip
    | _, _ => none
noncomputable def ek_nilCheck (P : Program) (tm : Tr AV) (s : St) (x : Operand) : Option ARes :=
   match rdF P tm x with
    | some .nilPtr | some .nilIface | some .nilFn | some .yieldF | some (.sx _) | some (.gsl ..) => none
    | some (.fn (.func f) a b) => some (.val (.fn (.func f) a b) s)
    | some (.fn ..) => none
    | some v => some (.val v s)
    | none => none
noncomputable def ek_binOp (P : Program) (tm : Tr AV) (s : St) (op : BinOp) (t : TypeId) (x : Operand) (y : Operand) : Option ARes :=
   match rdF P tm x, rdF P tm y with
    | some .nilIface, some .nilIface => if isConstO x || isConstO y then (binK P t op .nilIface .nilIface).map fun v => .val v s else none
    | some a, some b => (binK P t op a b).map fun v => .val v s
    | _, _ => none
noncomputable def ek_unOp (P : Program) (tm : Tr AV) (s : St) (op : UnOp) (x : Operand) : Option ARes :=
   match op, rdF P tm x with
    | .neg, some (.int k n) => some (.val (.int k (k.wrap (0 - n))) s)
    | .not, some (.bool b) => some (.val (.bool (!b)) s)
    | _, _ => none
noncomputable def ek_convert (P : Program) (tm : Tr AV) (s : St) (src : TypeId) (dst : TypeId) (x : Operand) : Option ARes :=
   match P.underlying src, P.underlying dst, rdF P tm x with
    | some i, some j, some v => match i, j, v with
      | _, .int k, .int _ n => some (.val (.int k (k.wrap n)) s)
      | _, .string, .str l => some (.val (.str l) s)
      | _, .string, .int _ (.ofNat n) => if n < 128 then some (.val (.str [n]) s) else none
      | .string, .slice e, .str l => if isU8 P e ∧ l.length ≤ 1000000 then some (.val (.slice s.nx 0 l.length l.length 1) (s.new (.cells true (writeN .leaf 0 (l.map byteA)) l.length))) else none
      | .slice e, .string, .nilSlice => if isU8 P e then some (.val (.str []) s) else none
      | .slice e, .string, .slice b o n _ 1 => if isU8 P e then (match s.load b o n with
        | some cs => match cs.mapM byteN with
          | some l => some (.val (.str l) s)
          | none => none
        | none => none) else none
      | _, _, _ => none
    | _, _, _ => none
noncomputable def ek_makeInterface (P : Program) (tm : Tr AV) (s : St) (t : TypeId) (x : Operand) : Option ARes :=
   match P.underlying t with
    | some (.interface _) => none
    | some _ => (rdF P tm x).map fun v => .val (.iface t v) s
    | none => none
noncomputable def ek_makeFunc (P : Program) (tm : Tr AV) (s : St) (f : Fn) (first : Array Operand) (cap : Array Operand) : Option ARes :=
   match rdsF P tm first.toList, rdsF P tm cap.toList with
    | some a, some b => some (.val (.fn f a b) s)
    | _, _ => none
noncomputable def ek_makeMap (P : Program) (tm : Tr AV) (s : St) (t : TypeId) (x : Option Operand) : Option ARes :=
   match x with
    | none => some (.val (.map s.nx) (s.new (.map [])))
    | some y => match rdF P tm y, P.underlying t with
      | some (.int _ _), some (.map _ _) => some (.val (.map s.nx) (s.new (.map [])))
      | _, _ => none
noncomputable def ek_makeSlice (P : Program) (tm : Tr AV) (s : St) (t : TypeId) (l : Operand) (c : Operand) : Option ARes :=
   match elemSl P t, rdF P tm l, rdF P tm c with
    | some e, some (.int _ (.ofNat n)), some (.int _ (.ofNat k)) => match zeroA P e, P.info? e with
      | some z, some i => if n ≤ k ∧ k * i.size ≤ 1000000 ∧ k ≤ 1000000 ∧ z.length = i.size ∧ i.bytes * k ≤ 281474976710656 then some (.val (.slice s.nx 0 n k i.size) (s.cells (List.flatten (List.replicate k z)))) else none
      | _, _ => none
    | _, _, _ => none
noncomputable def ek_slice (P : Program) (tm : Tr AV) (s : St) (t : TypeId) (x : Operand) (lo : Option Operand) (hi : Option Operand) (mx : Option Operand) : Option ARes :=
   match mx, P.underlying t, rdF P tm x with
    | none, some .string, some (.str l) => match boundF P hi tm l.length with
      | some h => match boundF P lo tm 0 with
        | some k => if k ≤ h ∧ h ≤ l.length then some (.val (.str ((l.take h).drop k)) s) else none
        | none => none
      | none => none
    | none, some (.slice e), some (.slice b o n c z) => if szOf P e = some z then match boundF P hi tm n with
      | some h => match boundF P lo tm 0 with
        | some k => if k ≤ h ∧ h ≤ c then (if k < c then some (.val (.slice b (o + k * z) (h - k) (c - k) z) s) else some (.val .emptyS s)) else none
        | none => none
      | none => none
      else none
    | some y, some (.slice e), some (.slice b o n c z) => if szOf P e = some z ∧ hi.isSome = true then match boundF P hi tm n, boundF P (some y) tm 0 with
      | some h, some m => match boundF P lo tm 0 with
        | some k => if k ≤ h ∧ h ≤ m ∧ m ≤ c then (if k < m then some (.val (.slice b (o + k * z) (h - k) (m - k) z) s) else some (.val .emptyS s)) else none
        | none => none
      | _, _ => none
      else none
    | none, some (.slice e), some .nilSlice => match szOf P e, boundF P hi tm 0, boundF P lo tm 0 with
      | some _, some 0, some 0 => some (.val .nilSlice s)
      | _, _, _ => none
    | none, some (.slice e), some .emptyS => match szOf P e, boundF P hi tm 0, boundF P lo tm 0 with
      | some _, some 0, some 0 => some (.val .emptyS s)
      | _, _, _ => none
    | _, _, _ => none
noncomputable def ek_fieldAddr (P : Program) (tm : Tr AV) (s : St) (t : TypeId) (x : Operand) (f : Nat) : Option ARes :=
   match fieldOf P t f, rdF P tm x with
    | some d, some (.ptr b o) => match szOf P d.type with
      | some (_ + 1) => some (.val (.ptr b (o + d.offset)) s)
      | _ => none
    | _, _ => none
noncomputable def ek_field (P : Program) (tm : Tr AV) (s : St) (t : TypeId) (x : Operand) (f : Nat) : Option ARes :=
   match fieldOf P t f, rdF P tm x with
    | some d, some (.agg cs) => (partA P d.type cs d.offset).map fun v => .val v s
    | _, _ => none
noncomputable def ek_indexAddr (P : Program) (tm : Tr AV) (s : St) (t : TypeId) (x : Operand) (i : Operand) : Option ARes :=
   match P.underlying t, rdF P tm x, rdF P tm i with
    | some j, some v, some (.int _ (.ofNat k)) => match j, v with
      | .array n e, .ptr b o => if k < n then (szOf P e).map fun z => .val (.ptr b (o + k * z)) s else none
      | .slice e, .slice b o n _ z => if k < n ∧ szOf P e = some z then some (.val (.ptr b (o + k * z)) s) else none
      | _, _ => none
    | _, _, _ => none
noncomputable def ek_index (P : Program) (tm : Tr AV) (s : St) (t : TypeId) (x : Operand) (i : Operand) : Option ARes :=
   match P.underlying t, rdF P tm x, rdF P tm i with
    | some j, some v, some (.int _ (.ofNat k)) => match j, v with
      | .array n e, .agg cs => if k < n then (match szOf P e with | some z => (partA P e cs (k * z)).map fun v => .val v s | none => none) else none
      | .string, .str l => match l[k]? with
        | some c => some (.val (.int .u8 (c : Int)) s)
        | none => none
      | _, _ => none
    | _, _, _ => none
noncomputable def ek_lookup (P : Program) (tm : Tr AV) (s : St) (t : TypeId) (m : Operand) (k : Operand) (ok : Bool) : Option ARes :=
   match P.underlying t, rdF P tm m, rdF P tm k with
    | some (.map kt e), some v, some key => if keyOk P kt key then (match s.entries v, zeroV P e with
      | some es, some z => match keyIdx key es 0 with
        | some (some (_, v)) => some (.val (if ok then .tuple [v, .bool true] else v) s)
        | some none => some (.val (if ok then .tuple [z, .bool false] else z) s)
        | none => none
      | _, _ => none) else none
    | _, _, _ => none
noncomputable def ek_mapUpdate (P : Program) (tm : Tr AV) (s : St) (t : TypeId) (m : Operand) (k : Operand) (x : Operand) : Option ARes :=
   s.mapUp P t (rdF P tm m) (rdF P tm k) (rdF P tm x)
noncomputable def ek_range (P : Program) (tm : Tr AV) (s : St) (t : TypeId) (x : Operand) : Option ARes :=
   match P.underlying t, rdF P tm x with
    | some .string, some (.str l) => some (.val (.ptr s.nx 0) (s.new (.siter l 0)))
    | _, _ => none
noncomputable def ek_next (P : Program) (tm : Tr AV) (s : St) (it : Operand) (isStr : Bool) : Option ARes :=
   match isStr, rdF P tm it with
    | true, some (.ptr b 0) => match s.H.get b with
      | some (.siter l pos) => if pos < l.length then (match utf8A l pos with
        | some (c, w) => some (.val (.tuple [.bool true, .int .i64 pos, .int .i32 c]) ⟨s.H.set b (.siter l (pos + w)), s.nx, s.hi⟩)
        | none => none) else some (.val (.tuple [.bool false]) s)
      | _ => none
    | _, _ => none
noncomputable def ek_typeAssert (P : Program) (tm : Tr AV) (s : St) (x : Operand) (t : TypeId) (ok : Bool) : Option ARes :=
   match rdF P tm x, P.underlying t with
    | some _, some (.interface _) => none
    | some (.iface u y), some _ => if u = t then some (.val (if ok then .tuple [y, .bool true] else y) s) else if ok then
        (match zeroV P t with
        | some z => some (.val (.tuple [z, .bool false]) s)
        | none => none) else none
    | some .nilIface, some _ => if ok then
        (match zeroV P t with
        | some z => some (.val (.tuple [z, .bool false]) s)
        | none => none) else none
    | _, _ => none
noncomputable def ek_extract (P : Program) (tm : Tr AV) (s : St) (t : Operand) (k : Nat) : Option ARes :=
   match rdF P tm t with
    | some (.tuple vs) => (vs[k]?).map fun v => .val v s
    | _ => none
noncomputable def ek_call (P : Program) (tm : Tr AV) (s : St) (c : Call) : Option ARes :=
   match rdsF P tm c.args.toList with
    | none => none
    | some args => match c.callee with
      | .builtin b => builtinK P s b c.argTypes.toList args
      | .value f => match rdF P tm f with
        | some (.fn (.func g) first cap) => if enters P g then some (.enter g (first ++ args ++ cap) s) else none
        | _ => none
      | .invoke r name => match rdF P tm r with
        | some (.iface t v) => match methA P t name with
          | some g => some (.enter g (v :: args) s)
          | none => none
        | _ => none
/-- The operations, each a small function of its own. -/
noncomputable def evD : Op → Program → Tr AV → St → Option ARes := fun op => Op.rec (motive := fun _ => Program → Tr AV → St → Option ARes)
  (fun y0 P tm s => ek_move P tm s y0)
  (fun y0 P tm s => ek_move P tm s y0)
  (fun y0 y1 y2 P tm s => ek_pick P tm s y0 y1 y2)
  (fun y0 P tm s => ek_alloc P tm s y0)
  (fun _ y1 P tm s => ek_box P tm s y1)
  (fun y0 y1 P tm s => ek_build P tm s y0 y1)
  (fun y0 y1 y2 P tm s => ek_buildSlice P tm s y0 y1 y2)
  (fun y0 y1 y2 y3 P tm s => ek_mapUpdate P tm s y0 y1 y2 y3)
  (fun y0 y1 P tm s => ek_load P tm s y0 y1)
  (fun y0 y1 y2 P tm s => ek_store P tm s y0 y1 y2)
  (fun _ _ _ _ => none)
  (fun _ _ _ _ => none)
  (fun y0 P tm s => ek_nilCheck P tm s y0)
  (fun y0 y1 y2 y3 _ P tm s => ek_binOp P tm s y0 y1 y2 y3)
  (fun y0 _ y2 P tm s => ek_unOp P tm s y0 y2)
  (fun y0 y1 y2 P tm s => ek_convert P tm s y0 y1 y2)
  (fun _ _ _ _ _ => none)
  (fun y0 y1 P tm s => ek_makeInterface P tm s y0 y1)
  (fun y0 y1 y2 P tm s => ek_makeFunc P tm s y0 y1 y2)
  (fun y0 y1 P tm s => ek_makeMap P tm s y0 y1)
  (fun _ _ _ _ _ => none)
  (fun y0 y1 y2 P tm s => ek_makeSlice P tm s y0 y1 y2)
  (fun y0 y1 y2 y3 y4 P tm s => ek_slice P tm s y0 y1 y2 y3 y4)
  (fun y0 y1 y2 P tm s => ek_fieldAddr P tm s y0 y1 y2)
  (fun y0 y1 y2 P tm s => ek_field P tm s y0 y1 y2)
  (fun y0 y1 y2 P tm s => ek_indexAddr P tm s y0 y1 y2)
  (fun y0 y1 y2 P tm s => ek_index P tm s y0 y1 y2)
  (fun y0 y1 y2 y3 P tm s => ek_lookup P tm s y0 y1 y2 y3)
  (fun y0 y1 y2 y3 P tm s => ek_mapUpdate P tm s y0 y1 y2 y3)
  (fun _ _ _ _ _ _ => none)
  (fun _ _ _ _ _ _ _ => none)
  (fun y0 y1 P tm s => ek_range P tm s y0 y1)
  (fun y0 y1 P tm s => ek_next P tm s y0 y1)
  (fun _ _ _ _ => none)
  (fun y0 _ y2 y3 P tm s => ek_typeAssert P tm s y0 y2 y3)
  (fun y0 y1 P tm s => ek_extract P tm s y0 y1)
  (fun y0 P tm s => ek_call P tm s y0)
  (fun _ _ _ _ => none)
  (fun _ _ _ _ => none)
  (fun _ _ _ _ => none)
  (fun _ _ _ _ _ => none)
  (fun _ _ _ _ _ _ => none)
  (fun _ _ _ _ _ => none) op
noncomputable def evK (P : Program) (tm : Tr AV) (s : St) (o : Oper) : Option ARes := evD o.op P tm s

theorem evK_eq (P : Program) (tm : Tr AV) (s : St) (o : Oper) : evK P tm s o = evOp P tm s o := by
  have hb : binK = binA := by funext P t op x y; exact binK_eq P t op x y
  have hu : builtinK = builtinA := by funext P s b ts args; exact builtinK_eq P s b ts args
  have key : ∀ op, evD op P tm s = evOp P tm s { o with op := op } := fun op => by
    cases op
    case move => first | rfl | (show ek_move _ _ _ _ = _; unfold ek_move; repeat (first | rw [rdF_eq] | rw [rdsF_eq] | rw [boundF_eq] | rw [hb] | rw [hu]); all_goals rfl)
    case assign => first | rfl | (show ek_move _ _ _ _ = _; unfold ek_move; repeat (first | rw [rdF_eq] | rw [rdsF_eq] | rw [boundF_eq] | rw [hb] | rw [hu]); all_goals rfl)
    case pick => first | rfl | (show ek_pick _ _ _ _ _ _ = _; unfold ek_pick; repeat (first | rw [rdF_eq] | rw [rdsF_eq] | rw [boundF_eq] | rw [hb] | rw [hu]); all_goals rfl)
    case alloc => first | rfl | (show ek_alloc _ _ _ _ = _; unfold ek_alloc; repeat (first | rw [rdF_eq] | rw [rdsF_eq] | rw [boundF_eq] | rw [hb] | rw [hu]); all_goals rfl)
    case box => first | rfl | (show ek_box _ _ _ _ = _; unfold ek_box; repeat (first | rw [rdF_eq] | rw [rdsF_eq] | rw [boundF_eq] | rw [hb] | rw [hu]); all_goals rfl)
    case build => first | rfl | (show ek_build _ _ _ _ _ = _; unfold ek_build; repeat (first | rw [rdF_eq] | rw [rdsF_eq] | rw [boundF_eq] | rw [hb] | rw [hu]); all_goals rfl)
    case buildSlice => first | rfl | (show ek_buildSlice _ _ _ _ _ _ = _; unfold ek_buildSlice; repeat (first | rw [rdF_eq] | rw [rdsF_eq] | rw [boundF_eq] | rw [hb] | rw [hu]); all_goals rfl)
    case insert => first | rfl | (show ek_mapUpdate _ _ _ _ _ _ _ = _; unfold ek_mapUpdate; repeat (first | rw [rdF_eq] | rw [rdsF_eq] | rw [boundF_eq] | rw [hb] | rw [hu]); all_goals rfl)
    case load => first | rfl | (show ek_load _ _ _ _ _ = _; unfold ek_load; repeat (first | rw [rdF_eq] | rw [rdsF_eq] | rw [boundF_eq] | rw [hb] | rw [hu]); all_goals rfl)
    case store => first | rfl | (show ek_store _ _ _ _ _ _ = _; unfold ek_store; repeat (first | rw [rdF_eq] | rw [rdsF_eq] | rw [boundF_eq] | rw [hb] | rw [hu]); all_goals rfl)
    case ready => rfl
    case waits => rfl
    case nilCheck => first | rfl | (show ek_nilCheck _ _ _ _ = _; unfold ek_nilCheck; repeat (first | rw [rdF_eq] | rw [rdsF_eq] | rw [boundF_eq] | rw [hb] | rw [hu]); all_goals rfl)
    case binOp => first | rfl | (show ek_binOp _ _ _ _ _ _ _ = _; unfold ek_binOp; repeat (first | rw [rdF_eq] | rw [rdsF_eq] | rw [boundF_eq] | rw [hb] | rw [hu]); all_goals rfl)
    case unOp => first | rfl | (show ek_unOp _ _ _ _ _ = _; unfold ek_unOp; repeat (first | rw [rdF_eq] | rw [rdsF_eq] | rw [boundF_eq] | rw [hb] | rw [hu]); all_goals rfl)
    case convert => first | rfl | (show ek_convert _ _ _ _ _ _ = _; unfold ek_convert; repeat (first | rw [rdF_eq] | rw [rdsF_eq] | rw [boundF_eq] | rw [hb] | rw [hu]); all_goals rfl)
    case sliceToArrayPointer => rfl
    case makeInterface => first | rfl | (show ek_makeInterface _ _ _ _ _ = _; unfold ek_makeInterface; repeat (first | rw [rdF_eq] | rw [rdsF_eq] | rw [boundF_eq] | rw [hb] | rw [hu]); all_goals rfl)
    case makeFunc => first | rfl | (show ek_makeFunc _ _ _ _ _ _ = _; unfold ek_makeFunc; repeat (first | rw [rdF_eq] | rw [rdsF_eq] | rw [boundF_eq] | rw [hb] | rw [hu]); all_goals rfl)
    case makeMap => first | rfl | (show ek_makeMap _ _ _ _ _ = _; unfold ek_makeMap; repeat (first | rw [rdF_eq] | rw [rdsF_eq] | rw [boundF_eq] | rw [hb] | rw [hu]); all_goals rfl)
    case makeChan => rfl
    case makeSlice => first | rfl | (show ek_makeSlice _ _ _ _ _ _ = _; unfold ek_makeSlice; repeat (first | rw [rdF_eq] | rw [rdsF_eq] | rw [boundF_eq] | rw [hb] | rw [hu]); all_goals rfl)
    case slice => first | rfl | (show ek_slice _ _ _ _ _ _ _ _ = _; unfold ek_slice; simp only [rdF_eq, boundF_eq]; rfl)
    case fieldAddr => first | rfl | (show ek_fieldAddr _ _ _ _ _ _ = _; unfold ek_fieldAddr; repeat (first | rw [rdF_eq] | rw [rdsF_eq] | rw [boundF_eq] | rw [hb] | rw [hu]); all_goals rfl)
    case field => first | rfl | (show ek_field _ _ _ _ _ _ = _; unfold ek_field; repeat (first | rw [rdF_eq] | rw [rdsF_eq] | rw [boundF_eq] | rw [hb] | rw [hu]); all_goals rfl)
    case indexAddr => first | rfl | (show ek_indexAddr _ _ _ _ _ _ = _; unfold ek_indexAddr; repeat (first | rw [rdF_eq] | rw [rdsF_eq] | rw [boundF_eq] | rw [hb] | rw [hu]); all_goals rfl)
    case index => first | rfl | (show ek_index _ _ _ _ _ _ = _; unfold ek_index; repeat (first | rw [rdF_eq] | rw [rdsF_eq] | rw [boundF_eq] | rw [hb] | rw [hu]); all_goals rfl)
    case lookup => first | rfl | (show ek_lookup _ _ _ _ _ _ _ = _; unfold ek_lookup; repeat (first | rw [rdF_eq] | rw [rdsF_eq] | rw [boundF_eq] | rw [hb] | rw [hu]); all_goals rfl)
    case mapUpdate => first | rfl | (show ek_mapUpdate _ _ _ _ _ _ _ = _; unfold ek_mapUpdate; repeat (first | rw [rdF_eq] | rw [rdsF_eq] | rw [boundF_eq] | rw [hb] | rw [hu]); all_goals rfl)
    case mapEntry => rfl
    case entryStore => rfl
    case range => first | rfl | (show ek_range _ _ _ _ _ = _; unfold ek_range; repeat (first | rw [rdF_eq] | rw [rdsF_eq] | rw [boundF_eq] | rw [hb] | rw [hu]); all_goals rfl)
    case next => first | rfl | (show ek_next _ _ _ _ _ = _; unfold ek_next; repeat (first | rw [rdF_eq] | rw [rdsF_eq] | rw [boundF_eq] | rw [hb] | rw [hu]); all_goals rfl)
    case entry => rfl
    case typeAssert => first | rfl | (show ek_typeAssert _ _ _ _ _ _ = _; unfold ek_typeAssert; repeat (first | rw [rdF_eq] | rw [rdsF_eq] | rw [boundF_eq] | rw [hb] | rw [hu]); all_goals rfl)
    case extract => first | rfl | (show ek_extract _ _ _ _ _ = _; unfold ek_extract; repeat (first | rw [rdF_eq] | rw [rdsF_eq] | rw [boundF_eq] | rw [hb] | rw [hu]); all_goals rfl)
    case call => first | rfl | (show ek_call _ _ _ _ = _; unfold ek_call; simp only [rdF_eq, rdsF_eq, hu]; rfl)
    case go => rfl
    case defer => rfl
    case panic => rfl
    case send => rfl
    case recv => rfl
    case select => rfl
  exact key o.op
end Go.Proofs.YtjaaajmiojigbaaGreatDoor
