import Derived.Calls
import Derived.Laws.Cells
import Derived.Laws.World
set_option linter.all false
section
/-
  The abstract machine: a deterministic machine over a small code, into which the model's code is turned by 'cFn'.
-/
namespace Go.AM
inductive Opd where
  | t (n : Nat)
  | c (v : Value)
abbrev Env := Nat → Value
def Opd.val (env : Env) : Opd → Value
  | .t n => env n
  | .c v => v
def upd (env : Env) (t : Nat) (v : Value) : Env := fun x => if x = t then v else env x
inductive EqK where
  | b | i | s | ptr | sl | fn | ifc
inductive AOp where
  | mov (x : Opd)
  | pick (c a b : Opd)
  | box (e : TypeId) (x : Opd)
  | alloc (e : TypeId) (z : List Value)
  | build (z : List Value) (ps : List (Nat × Nat × Opd))
  | buildSlice (e : TypeId) (len : Nat) (z : List Value) (ps : List (Nat × Nat × Opd))
  | load1 (a : Opd)
  | loadN (n : Nat) (a : Opd)
  | store (n : Nat) (a x : Opd)
  | nilCheck (x : Opd)
  | bin (op : BinOp) (x y : Opd)
  | eqv (neg : Bool) (ks : List EqK) (agg : Bool) (x y : Opd)
  | un (op : UnOp) (x : Opd)
  | convInt (k : IntKind) (x : Opd)
  | bytesStr (x : Opd)
  | mkIface (t : TypeId) (x : Opd)
  | mkFunc (fn : Fn) (first cap : List Opd)
  | sliceStr (x : Opd) (lo hi : Option Opd)
  | slice (e : TypeId) (k : Nat) (x : Opd) (lo hi mx : Option Opd)
  | addOff (n : Nat) (x : Opd)
  | field1 (off : Nat) (x : Opd)
  | fieldN (off n : Nat) (x : Opd)
  | idxA (k : Nat) (x i : Opd)            -- the address of a slice's element
  | idxArr (len k : Nat) (x i : Opd)      -- the address of an array's element
  | ixStr (x i : Opd)
  | ixAgg (len k : Nat) (agg : Bool) (x i : Opd)
  | extract (x : Opd) (i : Nat)
  | len (x : Opd)
  | lenStr (x : Opd)
  | lenC (n : Nat)
  | append (e : TypeId) (k by_ : Nat) (s x : Opd)
  | copy (k : Nat) (d x : Opd)
  | makeSlice (e : TypeId) (by_ : Nat) (z : List Value) (n c : Opd)
  | call (f : Opd) (args : List Opd)
  | invoke (r : Opd) (name : String) (args : List Opd)
  | tyAssert (t : TypeId) (ok : Bool) (z : Value) (x : Opd)
  | maxI (x y : Opd)
  | minI (x y : Opd)
  | rangeS (x : Opd)
  | nextS (x : Opd)
  | clear (k : Nat) (z : List Value) (s : Opd)
  | makeMap
  | insert (m k x : Opd)
  | lookup (ok : Bool) (z : Value) (m k : Opd)
structure AIns where
  dst : Option Nat
  op : AOp
  guard : Option (Nat × Bool)
inductive ACode where
  | skip
  | reg (is : List AIns)
  | regD (is : List AIns) (plan : List (Nat × List Nat))
  | seq (a b : ACode)
  | cond (c : Opd) (a b : ACode)
  | block (id : Nat) (a : ACode)
  | loop (a : ACode)
  | exit (id : Nat)
  | ret
  | rangeF (f : Opd) (ps : List Nat) (asg body : ACode)
inductive AExit where
  | normal
  | exit (id : Nat)
  | ret
structure ALoop where
  state : LoopState
  pending : AExit
  env : Env
  ps : List Nat
  asg : ACode
  body : ACode
inductive AObj where
  | cells (c : List Value) (e : TypeId)
  | dead
  | iter (s : ByteArray) (pos : Nat)
  | map (es : List (Value × Value))
  | loop (l : ALoop)
abbrev Heap := Array AObj
inductive ARes where
  | tmp (t : Nat)
  | cell1 (a : Nat)
  | cellN (a n : Nat)
inductive Flag where
  | plain | pure | state
  deriving DecidableEq
structure AFn where
  ntmps : Nat
  body : ACode
  results : List ARes
  flag : Flag
def vb : (d : Nat) → (n : Nat) → Value → Bool
  | 0, _, _ => false
  | _ + 1, n, .pointer (some a) => decide (a.block < n) && a.spot.isNone
  | _ + 1, n, .slice (some a) _ _ => decide (a.block < n) && a.spot.isNone
  | _ + 1, n, .map (some r) => decide (r < n)
  | _ + 1, _, .chan (some _) => false
  | d + 1, n, .func fn first cap => (match fn with | .yield l => decide (l < n) | _ => true) && first.toList.all (vb d n) && cap.toList.all (vb d n)
  | d + 1, n, .iface _ v => vb d n v
  | d + 1, n, .agg cs => cs.toList.all (vb d n)
  | d + 1, n, .tuple vs => vs.toList.all (vb d n)
  | _ + 1, _, _ => true
abbrev vBelow (n : Nat) (v : Value) : Bool := vb 6 n v
def one : Value → Bool
  | .agg _ | .tuple _ => false
  | _ => true
def veq1 : Value → Value → Bool
  | .bool a, .bool b => a == b
  | .int j a, .int k b => j == k && a == b
  | .string a, .string b => a.data.toList == b.data.toList
  | .pointer a, .pointer b => a == b
  | .slice a l c, .slice b m d => a == b && l == m && c == d
  | .nilFunc, .nilFunc => true
  | .nilIface, .nilIface => true
  | .map a, .map b => a == b
  | .iface t (.pointer a), .iface u (.pointer b) => t == u && a == b
  | _, _ => false
def veqs : List Value → List Value → Bool
  | [], [] => true
  | a :: l, b :: m => veq1 a b && veqs l m
  | _, _ => false
def veq : Value → Value → Bool
  | .agg a, .agg b => veqs a.toList b.toList
  | .func (.func f) a b, .func (.func g) c d => f == g && veqs a.toList c.toList && veqs b.toList d.toList
  | a, b => veq1 a b
def eqK : EqK → Value → Value → Option Bool
  | .b, .bool a, .bool b => some (a == b)
  | .i, .int j a, .int k b => if j = k then some (a == b) else none
  | .s, .string a, .string b => some (a.toList == b.toList)
  | .ptr, .pointer none, .pointer b => some b.isNone
  | .ptr, .pointer (some _), .pointer none => some false
  | .sl, .slice none _ _, .slice b _ _ => some b.isNone
  | .sl, .slice (some _) _ _, .slice none _ _ => some false
  | .ifc, .nilIface, .iface _ _ => some false
  | .ifc, .iface _ _, .nilIface => some false
  | .fn, .nilFunc, .nilFunc => some true
  | .fn, .nilFunc, .func _ _ _ => some false
  | .fn, .func _ _ _, .nilFunc => some false
  | _, _, _ => none
def eqs : List EqK → List Value → List Value → Option Bool
  | [], [], [] => some true
  | k :: ks, a :: l, b :: m => match eqK k a b with
    | some true => eqs ks l m
    | some false => some false
    | none => none
  | _, _, _ => none
def eqV (ks : List EqK) (agg : Bool) (x y : Value) : Option Bool :=
  if agg then
    match x, y with
    | .agg a, .agg b => eqs ks a.toList b.toList
    | _, _ => none
  else
    match ks with
    | [k] => eqK k x y
    | _ => none
def strLt (x y : ByteArray) : Bool := Op.bytesLess x.toList y.toList
def binI (op : BinOp) (k : IntKind) (a b : Int) : Option Value :=
  match op with
  | .add => some (.int k (k.wrap (a + b)))
  | .sub => some (.int k (k.wrap (a - b)))
  | .mul => some (.int k (k.wrap (a * b)))
  | .quo => if b = 0 then none else some (.int k (k.wrap (a.tdiv b)))
  | .rem => if b = 0 then none else some (.int k (a.tmod b))
  | .and => some (.int k (k.wrap (BitVec.ofInt k.bits a &&& BitVec.ofInt k.bits b).toNat))
  | .or => some (.int k (k.wrap (BitVec.ofInt k.bits a ||| BitVec.ofInt k.bits b).toNat))
  | .xor => some (.int k (k.wrap (BitVec.ofInt k.bits a ^^^ BitVec.ofInt k.bits b).toNat))
  | .andNot => some (.int k (k.wrap (BitVec.ofInt k.bits a &&& ~~~ BitVec.ofInt k.bits b).toNat))
  | .eql => some (.bool (a == b))
  | .neq => some (.bool (a != b))
  | .lss => some (.bool (decide (a < b)))
  | .leq => some (.bool (decide (a ≤ b)))
  | .gtr => some (.bool (decide (a > b)))
  | .geq => some (.bool (decide (a ≥ b)))
  | _ => none
def binS (op : BinOp) (a b : ByteArray) : Option Value :=
  match op with
  | .add => if ((a.size + b.size : Nat) : Int) > IntKind.i64.max then none else some (.string (a ++ b))
  | .eql => some (.bool (a.toList == b.toList))
  | .neq => some (.bool (!(a.toList == b.toList)))
  | .lss => some (.bool (strLt a b))
  | .leq => some (.bool (strLt a b || a.toList == b.toList))
  | .gtr => some (.bool (!(strLt a b || a.toList == b.toList)))
  | .geq => some (.bool (!strLt a b))
  | _ => none
def binV (op : BinOp) : Value → Value → Option Value
  | .int k a, .int k' b =>
    match op with
    | .shl => if b < 0 then none else some (.int k (k.wrap (a * 2 ^ (min b.toNat k.bits))))
    | .shr => if b < 0 then none else some (.int k (a.fdiv (2 ^ (min b.toNat k.bits))))
    | op => if k = k' then binI op k a b else none
  | .string a, .string b => binS op a b
  | _, _ => none
def unV (op : UnOp) : Value → Option Value
  | .int k n => match op with
    | .neg => some (.int k (k.wrap (0 - n)))
    | .xor => some (.int k (k.wrap (BitVec.ofInt k.bits (if k.signed then -1 else k.max) ^^^ BitVec.ofInt k.bits n).toNat))
    | _ => none
  | .bool b => match op with
    | .not => some (.bool (!b))
    | _ => none
  | _ => none
structure Ctx where
  fl : Nat
  cs : List Nat
def mayPut (κ : Ctx) (b : Nat) (vs : List Value) : Bool :=
  decide (κ.fl ≤ b) && κ.cs.all (fun c => decide (c ≤ b) || vs.all (vBelow c))
def putAt (z : List Value) (off : Nat) (vs : List Value) : List Value := z.take off ++ (vs ++ z.drop (off + vs.length))
def grab (c : List Value) (o n : Nat) : Option (List Value) := if o + n ≤ c.length then some ((c.drop o).take n) else none
def Heap.cellsAt (h : Heap) (b : Nat) : Option (List Value) :=
  match h[b]? with
  | some (.cells c _) => some c
  | _ => none
def rd1 (h : Heap) : Value → Option Value
  | .pointer (some a) => if a.spot.isSome then none else (h.cellsAt a.block).bind fun c => c[a.off]?
  | _ => none
def rdN (h : Heap) (n : Nat) : Value → Option Value
  | .pointer (some a) => if a.spot.isSome then none else (h.cellsAt a.block).bind fun c => (grab c a.off n).map fun l => .agg l.toArray
  | _ => none
def wr (κ : Ctx) (h : Heap) (b off : Nat) (vs : List Value) : Option Heap :=
  match h[b]? with
  | some (.cells c e) =>
    if mayPut κ b vs && vs.all one && decide (off + vs.length ≤ c.length) then some (h.setIfInBounds b (.cells (putAt c off vs) e)) else none
  | _ => none
def fillL (z : List Value) : List (Nat × Nat × Value) → Option (List Value)
  | [] => some z
  | (off, size, v) :: r => if v.cells.size = size ∧ off + size ≤ z.length ∧ v.cells.toList.all one then fillL (putAt z off v.cells.toList) r else none
def byteOf : Value → Option UInt8
  | .int .u8 n => some (UInt8.ofNat n.toNat)
  | _ => none
def bytesOf : List Value → Option (List UInt8)
  | [] => some []
  | v :: r => match byteOf v with
    | some b => (bytesOf r).map (b :: ·)
    | none => none
def srcCells (h : Heap) (k : Nat) : Value → Option (Nat × List Value)
  | .slice none 0 _ => some (0, [])
  | .slice (some a) n _ => if a.spot.isSome then none else
      if n * k = 0 then some (n, []) else (h.cellsAt a.block).bind fun c => (grab c a.off (n * k)).map (n, ·)
  | .string s => if k = 1 then some (s.size, s.data.toList.map fun b => .int .u8 b.toNat) else none
  | _ => none
def bound (lo : Option Value) (dflt top : Nat) : Option Nat :=
  match lo with
  | none => some dflt
  | some (.int _ i) => if 0 ≤ i ∧ i ≤ top then some i.toNat else none
  | _ => none
def findInt (k : IntKind) (n : Int) : List (Value × Value) → Option (Option Value)
  | [] => some none
  | (.int k' m, v) :: es => if k = k' then if n = m then some (some v) else findInt k n es else none
  | _ => none
def sliceV (h : Heap) (e : TypeId) (k : Nat) (x : Value) (lo hi mx : Option Value) : Option Value :=
  match x with
  | .slice a n c => (bound mx c c).bind fun m => (bound hi n m).bind fun j => (bound lo 0 j).bind fun i =>
    match a with
    | none => some (.slice none (j - i) (m - i))
    | some a => match h[a.block]? with
      | some (.cells _ e') => if e' = e then some (.slice (some (if m = i then a else a.add (i * k))) (j - i) (m - i)) else none
      | some .dead => some (.slice (some (if m = i then a else a.add (i * k))) (j - i) (m - i))
      | _ => none
  | _ => none
def aVal (env : Env) (h : Heap) : AOp → Option Value
  | .mov x => some (x.val env)
  | .pick c a b => match c.val env with
    | .bool t => some (if t then a.val env else b.val env)
    | _ => none
  | .build z ps => (fillL z (ps.map fun p => (p.1, p.2.1, p.2.2.val env))).map fun l => .agg l.toArray
  | .load1 a => rd1 h (a.val env)
  | .loadN n a => rdN h n (a.val env)
  | .nilCheck x => match x.val env with
    | .pointer (some a) => some (.pointer (some a))
    | .func (.func f) a b => some (.func (.func f) a b)
    | .iface t v => some (.iface t v)
    | _ => none
  | .bin op x y => binV op (x.val env) (y.val env)
  | .eqv neg ks agg x y => (eqV ks agg (x.val env) (y.val env)).map fun b => .bool (if neg then !b else b)
  | .un op x => unV op (x.val env)
  | .convInt k x => match x.val env with
    | .int _ n => some (.int k (k.wrap n))
    | _ => none
  | .bytesStr x => match x.val env with
    | .slice none _ _ => some (.string .empty)
    | .slice (some a) n c => (srcCells h 1 (.slice (some a) n c)).bind fun p => (bytesOf p.2).map fun bs => .string ⟨bs.toArray⟩
    | _ => none
  | .mkIface t x => some (.iface t (x.val env))
  | .mkFunc fn first cap => some (.func fn (first.map (·.val env)).toArray (cap.map (·.val env)).toArray)
  | .sliceStr x lo hi => match x.val env with
    | .string s => (bound (hi.map (·.val env)) s.size s.size).bind fun j => (bound (lo.map (·.val env)) 0 j).map fun i => .string (s.extract i j)
    | _ => none
  | .slice e k x lo hi mx => sliceV h e k (x.val env) (lo.map (·.val env)) (hi.map (·.val env)) (mx.map (·.val env))
  | .addOff n x => match x.val env with
    | .pointer (some a) => some (.pointer (some (a.add n)))
    | _ => none
  | .field1 off x => match x.val env with
    | .agg cs => cs.toList[off]?
    | _ => none
  | .fieldN off n x => match x.val env with
    | .agg cs => some (.agg ((cs.toList.drop off).take n).toArray)
    | _ => none
  | .idxA k x i => match x.val env, i.val env with
    | .slice (some a) n _, .int _ j => if 0 ≤ j ∧ j < n then some (.pointer (some (a.add (j.toNat * k)))) else none
    | _, _ => none
  | .idxArr n k x i => match x.val env, i.val env with
    | .pointer (some a), .int _ j => if 0 ≤ j ∧ j < n then some (.pointer (some (a.add (j.toNat * k)))) else none
    | _, _ => none
  | .ixStr x i => match x.val env, i.val env with
    | .string s, .int _ j => if 0 ≤ j then (s.data.toList[j.toNat]?).map fun b => .int .u8 b.toNat else none
    | _, _ => none
  | .ixAgg n k agg x i => match x.val env, i.val env with
    | .agg cs, .int _ j => if 0 ≤ j ∧ j < n then
        if agg then some (.agg ((cs.toList.drop (j.toNat * k)).take k).toArray) else cs.toList[j.toNat * k]?
      else none
    | _, _ => none
  | .extract x i => match x.val env with
    | .tuple vs => vs.toList[i]?
    | _ => none
  | .len x => match x.val env with
    | .slice _ n _ => some (.int .i64 n)
    | _ => none
  | .lenStr x => match x.val env with
    | .string s => some (.int .i64 s.size)
    | _ => none
  | .lenC n => some (.int .i64 n)
  | .tyAssert t ok z x => match x.val env with
    | .nilIface => if ok then some (.tuple #[z, .bool false]) else none
    | .iface u v => if u = t then some (if ok then .tuple #[v, .bool true] else v) else if ok then some (.tuple #[z, .bool false]) else none
    | _ => none
  | .maxI x y => match x.val env, y.val env with
    | .int k a, .int _ b => some (.int k (if b > a then b else a))
    | _, _ => none
  | .minI x y => match x.val env, y.val env with
    | .int k a, .int _ b => some (.int k (if b < a then b else a))
    | _, _ => none
  | .lookup ok z m k => match m.val env, k.val env with
    | .map (some r), .int kk n => match h[r]? with
      | some (.map es) => match findInt kk n es with
        | some (some v) => some (if ok then .tuple #[v, .bool true] else v)
        | some none => some (if ok then .tuple #[z, .bool false] else z)
        | none => none
      | _ => none
    | _, _ => none
  | _ => none
def aNew (env : Env) : AOp → Option (AObj × (Nat → Value))
  | .box e x => if (x.val env).cells.toList.all one then some (.cells (x.val env).cells.toList e, fun b => .pointer (some ⟨b, 0, none⟩)) else none
  | .alloc e z => some (.cells z e, fun b => .pointer (some ⟨b, 0, none⟩))
  | .buildSlice e n z ps => (fillL z (ps.map fun p => (p.1, p.2.1, p.2.2.val env))).map fun l => (.cells l e, fun b => .slice (some ⟨b, 0, none⟩) n n)
  | .makeSlice e by_ z n c => match n.val env, c.val env with
    | .int _ n, .int _ c => if 0 ≤ n ∧ n ≤ c ∧ c * by_ ≤ 35184372088832 ∧ c ≤ 35184372088832 then
        some (.cells (List.replicate c.toNat z).flatten e, fun b => .slice (some ⟨b, 0, none⟩) n.toNat c.toNat) else none
    | _, _ => none
  | .makeMap => some (.map [], fun b => .map (some b))
  | .rangeS x => match x.val env with
    | .string s => some (.iter s 0, fun b => .pointer (some ⟨b, 0, none⟩))
    | _ => none
  | _ => none
def aPure (env : Env) (h : Heap) (o : AOp) : Option (Value × Heap) :=
  match aNew env o with
  | some (x, mk) => some (mk h.size, h.push x)
  | none => (aVal env h o).map (·, h)
def aAppend (κ : Ctx) (h : Heap) (e : TypeId) (k by_ : Nat) (s x : Value) : Option (Value × Heap) :=
  match s, srcCells h k x with
  | .slice a n c, some (m, l) =>
    if a.any (·.spot.isSome) then none else
    if (n + m) * by_ > 140737488355328 ∨ n + m > 35184372088832 then none else
    if n + m ≤ c then
      match a with
      | none => if m = 0 then some (.slice none n c, h) else none
      | some b => if m * k = 0 then some (.slice a (n + m) c, h) else (wr κ h b.block (b.off + n * k) l).map fun h' => (.slice a (n + m) c, h')
    else
      match a with
      | none => if n = 0 && l.all one then some (.slice (some ⟨h.size, 0, none⟩) m m, h.push (.cells l e)) else none
      | some b => match srcCells h k s, h[b.block]? with
        | some (_, old), some (.cells _ e') =>
          if decide (κ.fl ≤ b.block) && (e' == e) && l.all one && old.all one then
            some (.slice (some ⟨h.size, 0, none⟩) (n + m) (n + m), (h.setIfInBounds b.block .dead).push (.cells (old ++ l) e))
          else none
        | _, _ => none
  | _, _ => none
def aCopy (κ : Ctx) (h : Heap) (k : Nat) (d x : Value) : Option (Value × Heap) :=
  match d, srcCells h k x with
  | .slice a n _, some (m, l) =>
    match a with
    | none => some (.int .i64 0, h)
    | some b => if b.spot.isSome then none else
      if (Nat.min m n) * k = 0 then some (.int .i64 (Nat.min m n : Nat), h) else
      (wr κ h b.block b.off (l.take (Nat.min m n * k))).map fun h' => (.int .i64 (Nat.min m n : Nat), h')
  | _, _ => none
def aNext (κ : Ctx) (h : Heap) (it : Value) : Option (Value × Heap) :=
  match it with
  | .pointer (some ⟨r, 0, _⟩) => match h[r]? with
    | some (.iter s pos) => if κ.fl ≤ r then
        if pos < s.size then
          some (.tuple #[.bool true, .int .i64 pos, .int .i32 (Utf8.decode s pos).1], h.setIfInBounds r (.iter s (pos + (Utf8.decode s pos).2)))
        else some (.tuple #[.bool false], h)
      else none
    | _ => none
  | _ => none
def aClear (κ : Ctx) (h : Heap) (z : List Value) (s : Value) : Option (Value × Heap) :=
  match s with
  | .slice _ 0 _ => some (.tuple #[], h)
  | .slice (some a) n _ => if a.spot.isSome then none else (wr κ h a.block a.off (List.replicate n z).flatten).map fun h' => (.tuple #[], h')
  | _ => none
def aInsert (κ : Ctx) (h : Heap) (m k x : Value) : Option (Value × Heap) :=
  match m, k with
  | .map (some r), .int kk n => match h[r]? with
    | some (.map es) => if mayPut κ r [x] then match findInt kk n es with
        | some none => some (undef, h.setIfInBounds r (.map (es ++ [(.int kk n, x)])))
        | _ => none
      else none
    | _ => none
  | _, _ => none
def aOp (call : Value → List Value → Heap → Option (Value × Heap)) (meth : TypeId → String → Option FuncId) (κ : Ctx) (env : Env) (h : Heap) : AOp → Option (Value × Heap)
  | .store n a x => match a.val env with
    | .pointer (some p) => if p.spot.isSome then none else
      if (x.val env).cells.size = n then (wr κ h p.block p.off (x.val env).cells.toList).map fun h' => (undef, h') else none
    | _ => none
  | .append e k b s x => aAppend κ h e k b (s.val env) (x.val env)
  | .copy k d x => aCopy κ h k (d.val env) (x.val env)
  | .nextS x => aNext κ h (x.val env)
  | .clear _ z s => aClear κ h z (s.val env)
  | .insert m k x => aInsert κ h (m.val env) (k.val env) (x.val env)
  | .call f args => call (f.val env) (args.map (·.val env)) h
  | .invoke r name args => match r.val env with
    | .iface t v => match meth t name with
      | some f => call (.func (.func f) #[] #[]) (v :: args.map (·.val env)) h
      | none => none
    | _ => none
  | o => aPure env h o
def wanted (env : Env) : Option (Nat × Bool) → Bool
  | none => true
  | some (t, want) => match env t with
    | .bool b => b == want
    | _ => false
def put (env : Env) (d : Option Nat) (v : Value) : Env :=
  match d with
  | some t => upd env t v
  | none => env
def aIns (call : Value → List Value → Heap → Option (Value × Heap)) (meth : TypeId → String → Option FuncId) (κ : Ctx) (i : AIns) (env : Env) (h : Heap) : Option (Option Value × Env × Heap) :=
  if wanted env i.guard then
    match aOp call meth κ env h i.op with
    | some (v, h') => some (some v, put env i.dst v, h')
    | none => none
  else some (none, put env i.dst undef, h)
def aReg (call : Value → List Value → Heap → Option (Value × Heap)) (meth : TypeId → String → Option FuncId) (κ : Ctx) : List AIns → Env → Heap → Option (Env × Heap)
  | [], env, h => some (env, h)
  | i :: is, env, h => match aIns call meth κ i env h with
    | some (_, env', h') => aReg call meth κ is env' h'
    | none => none
def still (is : List AIns) (re : List Nat) (h : Heap) (s : Nat × Env × Value) : Bool :=
  !re.contains s.1 || match is[s.1]? with
    | some i => match aVal s.2.1 h i.op with
      | some v => veq s.2.2 v
      | none => false
    | none => true
def snapped (j : Nat) (env : Env) (v : Option Value) (snap : List (Nat × Env × Value)) : List (Nat × Env × Value) :=
  match v with
  | some v => (j, env, v) :: snap
  | none => snap
def aRegD (call : Value → List Value → Heap → Option (Value × Heap)) (meth : TypeId → String → Option FuncId) (κ : Ctx) (is : List AIns) : List (Nat × List Nat) → List (Nat × Env × Value) → Env → Heap → Option (Env × Heap)
  | [], _, env, h => some (env, h)
  | (j, re) :: rest, snap, env, h => match is[j]? with
    | none => none
    | some i => match aIns call meth κ i env h with
      | none => none
      | some (v, env', h') => if snap.all (still is re h') then aRegD call meth κ is rest (snapped j env v snap) env' h' else none
def resOf (env : Env) (h : Heap) : List ARes → Option (List Value)
  | [] => some []
  | r :: rs =>
    match (match r with
      | .tmp t => some (env t)
      | .cell1 a => rd1 h (env a)
      | .cellN a n => rdN h n (env a)), resOf env h rs with
    | some v, some vs => some (v :: vs)
    | _, _ => none
def tup : List Value → Value
  | [v] => v
  | vs => .tuple vs.toArray
def outLeaf (n : Nat) (h : Heap) (seen : List Nat) (new : List AObj) (v : Value) : Option (Value × List Nat × List AObj) :=
  if vBelow n v then some (v, seen, new) else
  match v with
  | .slice (some a) len cap =>
    if a.spot.isSome || seen.contains a.block || decide (a.block < n) then none else
    match h[a.block]? with
    | some (.cells c e) => if decide (a.off ≤ 0) && (c.drop a.off).all (vBelow n) then some (.slice (some ⟨n + new.length, 0, none⟩) len cap, a.block :: seen, new ++ [.cells (c.drop a.off) e]) else none
    | _ => none
  | _ => none
def outList (f : List Nat → List AObj → Value → Option (Value × List Nat × List AObj)) : List Value → List Nat → List AObj → Option (List Value × List Nat × List AObj)
  | [], seen, new => some ([], seen, new)
  | v :: vs, seen, new => match f seen new v with
    | some (v', seen', new') => match outList f vs seen' new' with
      | some (vs', s, w) => some (v' :: vs', s, w)
      | none => none
    | none => none
def outAgg (n : Nat) (h : Heap) (seen : List Nat) (new : List AObj) (v : Value) : Option (Value × List Nat × List AObj) :=
  if vBelow n v then some (v, seen, new) else
  match v with
  | .agg cs => match outList (outLeaf n h) cs.toList seen new with
    | some (l, s, w) => some (.agg l.toArray, s, w)
    | none => none
  | v => outLeaf n h seen new v
def outTop (n : Nat) (h : Heap) (v : Value) : Option (Value × List AObj) :=
  if vBelow n v then some (v, []) else
  match v with
  | .tuple vs => match outList (outAgg n h) vs.toList [] [] with
    | some (l, _, w) => some (.tuple l.toArray, w)
    | none => none
  | v => match outAgg n h [] [] v with
    | some (v', _, w) => some (v', w)
    | none => none
def finish (flag : Flag) (h h' : Heap) (v : Value) : Option (Value × Heap) :=
  match flag with
  | .plain => some (v, h')
  | .pure => (outTop h.size h' v).map fun (v', w) => (v', w.foldl Array.push h)
  | .state => (outTop h.size h' v).map fun (v', w) => (v', w.foldl Array.push (h'.take h.size))
structure Tab where
  fn : FuncId → Option AFn
  ext : FuncId → Option (Ctx → List Value → Heap → Option (Value × Heap))
  meth : TypeId → String → Option FuncId
def env0 (args : List Value) : Env := fun t => (args[t]?).getD undef
def Flag.ctx (f : Flag) (κ : Ctx) (n : Nat) : Ctx :=
  match f with
  | .plain => κ
  | .pure => { κ with fl := n }
  | .state => { κ with cs := n :: κ.cs }
def setPs (env : Env) (l : List (Nat × Value)) : Env := l.foldl (fun e (t, v) => upd e t v) env
mutual
def exec (X : Tab) : (n : Nat) → Ctx → ACode → Env → Heap → Option (AExit × Env × Heap)
  | 0, _, _, _, _ => none
  | n + 1, κ, c, env, h =>
    match c with
    | .skip => some (.normal, env, h)
    | .reg is => (aReg (callV X n κ) X.meth κ is env h).map fun (e, h) => (.normal, e, h)
    | .regD is plan => (aRegD (callV X n κ) X.meth κ is plan [] env h).map fun (e, h) => (.normal, e, h)
    | .seq a b => match exec X n κ a env h with
      | some (.normal, e, h) => exec X n κ b e h
      | r => r
    | .cond c a b => match c.val env with
      | .bool t => exec X n κ (if t then a else b) env h
      | _ => none
    | .block id a => match exec X n κ a env h with
      | some (.exit i, e, h) => some (if i = id then .normal else .exit i, e, h)
      | r => r
    | .loop a => match exec X n κ a env h with
      | some (.normal, e, h) => exec X n κ (.loop a) e h
      | r => r
    | .exit id => some (.exit id, env, h)
    | .ret => some (.ret, env, h)
    | .rangeF f ps asg body =>
      match f.val env with
      | .func (.func g) first cap =>
        match callF X n κ g (first.toList ++ [.func (.yield h.size) #[] #[]] ++ cap.toList) (h.push (.loop ⟨.ready, .normal, env, ps, asg, body⟩)) with
        | some (_, h1) => match h1[h.size]? with
          | some (.loop lp) => if lp.state = .busy then none else some (lp.pending, env, h1.setIfInBounds h.size (.loop { lp with state := .exhausted }))
          | _ => none
        | none => none
      | _ => none
def callV (X : Tab) : (n : Nat) → Ctx → Value → List Value → Heap → Option (Value × Heap)
  | 0, _, _, _, _ => none
  | n + 1, κ, f, args, h =>
    match f with
    | .func (.func g) first cap => callF X n κ g (first.toList ++ args ++ cap.toList) h
    | .func (.yield l) _ _ =>
      match h[l]? with
      | some (.loop lp) =>
        if decide (κ.fl ≤ l) && lp.ps.length == args.length then
          match exec X n κ lp.asg (setPs lp.env (lp.ps.zip args)) h with
          | some (.normal, e, h1) => match h1[l]? with
            | some (.loop lp1) => if lp1.state = .ready then
                match exec X n κ lp.body e (h1.setIfInBounds l (.loop { lp1 with state := .busy })) with
                | some (ex, _, h2) => match h2[l]? with
                  | some (.loop lp2) => match ex with
                    | .normal => some (.bool true, h2.setIfInBounds l (.loop { lp2 with state := .ready, pending := .normal }))
                    | ex => some (.bool false, h2.setIfInBounds l (.loop { lp2 with state := .done, pending := ex }))
                  | _ => none
                | none => none
              else none
            | _ => none
          | _ => none
        else none
      | _ => none
    | _ => none
def callF (X : Tab) : (n : Nat) → Ctx → FuncId → List Value → Heap → Option (Value × Heap)
  | 0, _, _, _, _ => none
  | n + 1, κ, g, args, h =>
    match X.ext g with
    | some s => s κ args h
    | none => match X.fn g with
      | none => none
      | some fn => match exec X n (fn.flag.ctx κ h.size) fn.body (env0 args) h with
        | some (ex, env, h') => match ex with
          | .exit _ => none
          | _ => match resOf env h' fn.results with
            | some vs => finish fn.flag h h' (tup vs)
            | none => none
        | none => none
end
end Go.AM
end

section
namespace Go.AM
def const1 : Value → Bool
  | .bool _ | .int _ _ | .string _ | .pointer none | .map none | .nilFunc | .nilIface => true
  | .slice none n c => n == 0 && c == 0
  | .func (.func _) a b => a.size == 0 && b.size == 0
  | _ => false
def constOk : Value → Bool
  | .agg cs => cs.toList.all const1
  | .tuple cs => cs.toList.all const1
  | v => const1 v
def cOpd : Operand → Option Opd
  | .tmp t => some (.t t)
  | .const v => if constOk v then some (.c v) else none
  | .func f => some (.c (.func (.func f) #[] #[]))
  | .global _ => none
def cOpds (l : List Operand) : Option (List Opd) := l.mapM cOpd
def optOpd : Option Operand → Option (Option Opd)
  | none => some none
  | some x => (cOpd x).map some
def tySize (P : Program) (t : TypeId) : Option Nat := (P.info? t).map (·.size)
def descAgg : TypeDesc → Bool
  | .struct _ | .array _ _ => true
  | _ => false
def tyAgg (P : Program) (t : TypeId) : Option Bool := (P.underlying t).map descAgg
def tyBytes (P : Program) (t : TypeId) : Option Nat := (P.info? t).map (·.bytes)
def tyZero (P : Program) (t : TypeId) : Option (List Value) :=
  match (P.info? t).bind (·.zero) with
  | some v => if v.cells.toList.all const1 then some v.cells.toList else none
  | none => none
def tyZeroV (P : Program) (t : TypeId) : Option Value :=
  match (P.info? t).bind (·.zero) with
  | some v => if constOk v then some v else none
  | none => none
def zeroIf (P : Program) (ok : Bool) (t : TypeId) : Option Value := if ok then tyZeroV P t else some undef
def eqLeaf (P : Program) (t : TypeId) : Option EqK :=
  match P.underlying t with
  | some .bool => some .b
  | some (.pointer _) => some .ptr
  | some (.slice _) => some .sl
  | some (.func _ _ _) => some .fn
  | some (.interface _) => some .ifc
  | _ => none
def eqFields (P : Program) (f : TypeId → Option (List EqK)) : List Field → Nat → Option (List EqK)
  | [], _ => some []
  | x :: xs, off => if x.name != "_" && x.offset == off then match f x.type with
      | some ks => if tySize P x.type == some ks.length then (eqFields P f xs (off + ks.length)).map (ks ++ ·) else none
      | none => none
    else none
def eqKinds (P : Program) : (d : Nat) → TypeId → Option (List EqK)
  | 0, _ => none
  | d + 1, t => match P.underlying t with
    | some .bool => some [.b]
    | some (.int _) => some [.i]
    | some .string => some [.s]
    | some (.struct fs) => if P.stoodInHeld t then none else eqFields P (eqKinds P d) fs.toList 0
    | _ => none
def structFields (P : Program) (t : TypeId) : Option (Array Field) :=
  match P.underlying t with
  | some (.struct fs) => some fs
  | _ => none
def bldTy (P : Program) (e : TypeId) : Bool :=
  match structFields P e with
  | some fs => match fs.toList.map fun f => P.underlying f.type with
    | [some (.pointer e'), some (.slice _)] => e' == e
    | _ => false
  | none => false
def sliceElem (P : Program) (t : TypeId) : Option TypeId :=
  match P.underlying t with
  | some (.slice e) => some e
  | _ => none
def cPart (P : Program) (t : TypeId) (off : Nat) (x : Opd) : Option AOp := do
  if ← tyAgg P t then pure (.fieldN off (← tySize P t) x) else pure (.field1 off x)
def cParts (place : Nat → Option (Nat × Nat)) : List (Nat × Operand) → Option (List (Nat × Nat × Opd))
  | [] => some []
  | p :: ps => match place p.1, cOpd p.2, cParts place ps with
    | some q, some x, some r => some ((q.1, q.2, x) :: r)
    | _, _, _ => none
def buildPlaces (P : Program) (t : TypeId) (ps : List (Nat × Operand)) : Option (List (Nat × Nat × Opd)) :=
  match P.underlying t with
  | some (.struct fs) => if fs.toList.all fun f => (tySize P f.type).isSome then cParts (fun i => (fs[i]?).bind fun f => (tySize P f.type).map fun s => (f.offset, s)) ps else none
  | some (.array _ e) => (tySize P e).bind fun s => cParts (fun i => some (i * s, s)) ps
  | _ => none
def isNilIface : Operand → Bool
  | .const .nilIface => true
  | _ => false
def cEq (P : Program) (op : BinOp) (neg : Bool) (t : TypeId) (a b : Opd) : Option AOp :=
  match P.underlying t with
  | some (.int _) => some (.bin op a b)
  | some .string => some (.bin op a b)
  | some (.struct _) => if P.eqGuardType P.depth t then none else (eqKinds P 64 t).map fun ks => .eqv neg ks true a b
  | some _ => (eqLeaf P t).map fun k => .eqv neg [k] false a b
  | none => none
def cLen (P : Program) (t : TypeId) (x : Operand) : Option AOp :=
  match P.underlying t with
  | some .string => (cOpd x).map .lenStr
  | some (.slice _) => (cOpd x).map .len
  | some (.array n _) => some (.lenC n)
  | _ => none
def isIntTy (P : Program) (t : TypeId) : Bool :=
  match P.underlying t with
  | some (.int _) => true
  | none => true
  | _ => false
def cAppend (P : Program) (t u : TypeId) (s x : Operand) : Option AOp := do
  let e ← sliceElem P t
  let k ← tySize P e
  let b ← tyBytes P e
  let z ← tyZero P e
  if isIntTy P u || z.length != k || k == 0 || bldTy P e then none else
  pure (.append e k b (← cOpd s) (← cOpd x))
def cCopy (P : Program) (t : TypeId) (s x : Operand) : Option AOp := do
  let e ← sliceElem P t
  pure (.copy (← tySize P e) (← cOpd s) (← cOpd x))
def cClear (P : Program) (t : TypeId) (s : Operand) : Option AOp := do
  let e ← sliceElem P t
  let z ← tyZero P e
  let k ← tySize P e
  if z.length != k || k == 0 then none else pure (.clear k z (← cOpd s))
def cBuiltin (P : Program) (b : Builtin) (c : Call) : Option AOp :=
  match b, c.argTypes.toList, c.args.toList with
  | .len, t :: _, x :: _ => cLen P t x
  | .append, t :: u :: _, s :: x :: _ => cAppend P t u s x
  | .copy, t :: _, s :: x :: _ => cCopy P t s x
  | .clear, t :: _, s :: _ => cClear P t s
  | .max, _, [x, y] => do pure (.maxI (← cOpd x) (← cOpd y))
  | .min, _, [x, y] => do pure (.minI (← cOpd x) (← cOpd y))
  | _, _, _ => none
def cOp (P : Program) (o : Oper) : Option AOp :=
  match o.op with
  | .move x | .assign x => do pure (.mov (← cOpd x))
  | .pick c a b => do pure (.pick (← cOpd c) (← cOpd a) (← cOpd b))
  | .alloc e => do pure (.alloc e (← tyZero P e))
  | .box e x => do pure (.box e (← cOpd x))
  | .build t ps => do
    let z ← tyZero P t
    pure (.build z (← buildPlaces P t ps.toList))
  | .buildSlice t n ps => do
    let e ← sliceElem P t
    let s ← tySize P e
    let z ← tyZero P e
    if n * s > 2 ^ 24 || z.length != s then none else
    pure (.buildSlice e n (List.replicate n z).flatten (← cParts (fun i => some (i * s, s)) ps.toList))
  | .load t a => do
    if ← tyAgg P t then pure (.loadN (← tySize P t) (← cOpd a)) else pure (.load1 (← cOpd a))
  | .store t a x => do pure (.store (← tySize P t) (← cOpd a) (← cOpd x))
  | .nilCheck x => do pure (.nilCheck (← cOpd x))
  | .binOp op t x y _ => do
    let a ← cOpd x
    let b ← cOpd y
    match op with
    | .eql => cEq P op false t a b
    | .neq => cEq P op true t a b
    | _ => pure (.bin op a b)
  | .unOp op _ x => do pure (.un op (← cOpd x))
  | .convert s d x => do
    match ← P.underlying s, ← P.underlying d with
    | .int _, .int k => pure (.convInt k (← cOpd x))
    | .slice e, .string => match ← P.underlying e with
      | .int .u8 => pure (.bytesStr (← cOpd x))
      | _ => none
    | _, _ => none
  | .makeInterface t x => do
    match ← P.underlying t with
    | .interface _ => none
    | _ => pure (.mkIface t (← cOpd x))
  | .makeFunc fn first cap => do
    match fn with
    | .func _ => pure (.mkFunc fn (← cOpds first.toList) (← cOpds cap.toList))
    | _ => none
  | .makeSlice t n c => do
    let e ← sliceElem P t
    let z ← tyZero P e
    let s ← tySize P e
    if z.length != s || s == 0 then none else
    pure (.makeSlice e (← tyBytes P e) z (← cOpd n) (← cOpd c))
  | .slice t x lo hi mx => do
    match ← P.underlying t with
    | .string => if mx.isSome then none else pure (.sliceStr (← cOpd x) (← optOpd lo) (← optOpd hi))
    | .slice e => if mx.isSome && hi.isNone then none else pure (.slice e (← tySize P e) (← cOpd x) (← optOpd lo) (← optOpd hi) (← optOpd mx))
    | _ => none
  | .fieldAddr s x i => do
    let f ← (← structFields P s)[i]?
    let n ← tySize P f.type
    if n == 0 then none else pure (.addOff f.offset (← cOpd x))
  | .field t x i => do
    let f ← (← structFields P t)[i]?
    cPart P f.type f.offset (← cOpd x)
  | .indexAddr t x i => do
    match ← P.underlying t with
    | .slice e => pure (.idxA (← tySize P e) (← cOpd x) (← cOpd i))
    | .array n e => pure (.idxArr n (← tySize P e) (← cOpd x) (← cOpd i))
    | _ => none
  | .index t x i => do
    match ← P.underlying t with
    | .string => pure (.ixStr (← cOpd x) (← cOpd i))
    | .array n e => pure (.ixAgg n (← tySize P e) (← tyAgg P e) (← cOpd x) (← cOpd i))
    | _ => none
  | .extract x i => do pure (.extract (← cOpd x) i)
  | .typeAssert x _ t ok => do
    let z ← zeroIf P ok t
    match ← P.underlying t with
    | .interface _ => none
    | _ => pure (.tyAssert t ok z (← cOpd x))
  | .makeMap t none => do
    match ← P.underlying t with
    | .map k _ => match ← P.underlying k with
      | .int _ => pure .makeMap
      | _ => none
    | _ => none
  | .makeMap t (some (.const (.int _ _))) => do
    match ← P.underlying t with
    | .map k _ => match ← P.underlying k with
      | .int _ => pure .makeMap
      | _ => none
    | _ => none
  | .insert t m k x => do
    match ← P.underlying t with
    | .map kt _ => match ← P.underlying kt with
      | .int _ => pure (.insert (← cOpd m) (← cOpd k) (← cOpd x))
      | _ => none
    | _ => none
  | .lookup t m k ok => do
    match ← P.underlying t with
    | .map kt e => match ← P.underlying kt with
      | .int _ => pure (.lookup ok (← tyZeroV P e) (← cOpd m) (← cOpd k))
      | _ => none
    | _ => none
  | .range t x => do
    match ← P.underlying t with
    | .string => pure (.rangeS (← cOpd x))
    | _ => none
  | .next x true => do pure (.nextS (← cOpd x))
  | .call c => do
    match c.callee with
    | .value f => pure (.call (← cOpd f) (← cOpds c.args.toList))
    | .invoke r name => pure (.invoke (← cOpd r) name (← cOpds c.args.toList))
    | .builtin b => cBuiltin P b c
  | _ => none
def cGuard (ops : Array Oper) : Option (Nat × Bool) → Option (Option (Nat × Bool))
  | none => some none
  | some (j, want) => match (ops[j]?).bind (·.dst) with
    | some d => some (some (d, want))
    | none => none
def dstOk (n : Nat) : Option Nat → Bool
  | some d => decide (d < n)
  | none => true
def cIns (P : Program) (n : Nat) (ops : Array Oper) (o : Oper) : Option AIns :=
  match cOp P o, cGuard ops o.guard, dstOk n o.dst with
  | some op, some g, true => some { dst := o.dst, op := op, guard := g }
  | _, _, _ => none
def isD : Op → Bool
  | .store .. | .call { callee := .value _, .. } | .call { callee := .invoke _ _, .. } | .insert .. | .next .. => true
  | .call { callee := .builtin b, .. } => match b with
    | .append | .copy | .clear => true
    | _ => false
  | _ => false
def isR : Op → Bool
  | .load .. | .convert .. | .lookup .. | .slice .. => true
  | _ => false
def planGo (ops : Array Oper) (B : Array Nat) : (fuel : Nat) → (done : Nat) → (reads : List Nat) → Option (List (Nat × List Nat))
  | 0, done, _ => if done = 2 ^ ops.size - 1 then some [] else none
  | f + 1, done, reads =>
    let ready (d : Bool) := (List.range ops.size).find? fun i => !done.testBit i && (isD (ops.getD i default).op == d) && (B.getD i 0 &&& done == B.getD i 0)
    match ready false with
    | some i => (planGo ops B f (done ||| 2 ^ i) (if isR (ops.getD i default).op then i :: reads else reads)).map ((i, []) :: ·)
    | none => match ready true with
      | some i => (planGo ops B f (done ||| 2 ^ i) reads).map ((i, reads.filter fun j => !(B.getD i 0).testBit j) :: ·)
      | none => if done = 2 ^ ops.size - 1 then some [] else none
def looks (ops : Array Oper) (o : Oper) : List Nat :=
  (match o.guard with
   | some (g, _) => ((ops[g]?).bind (·.dst)).toList
   | none => []) ++ o.op.operands.toList.filterMap fun | .tmp t => some t | _ => none
def notAmong (d : Option Nat) (l : List Nat) : Bool :=
  match d with
  | some d => !l.contains d
  | none => true
def pairOk (ops : Array Oper) (B : Array Nat) (x y : Nat × List Nat) : Bool :=
  x.1 != y.1 && (
    let a := ops.getD x.1 default
    let b := ops.getD y.1 default
    (a.dst.isNone || a.dst != b.dst) &&
    ((B.getD y.1 0).testBit x.1 ||
      (!isD a.op && (!(isD b.op) || !(isR a.op) || y.2.contains x.1) && notAmong a.dst (looks ops b) && notAmong b.dst (looks ops a))))
def pairsOk (ops : Array Oper) (B : Array Nat) : List (Nat × List Nat) → Bool
  | [] => true
  | x :: rest => rest.all (pairOk ops B x) && pairsOk ops B rest
def ahead (ops : Array Oper) : List Nat → List (Nat × List Nat) → Bool
  | _, [] => true
  | seen, x :: rest => ((ops.getD x.1 default).after.all fun e => !Region.binds .any e || seen.contains e.on) && ahead ops (x.1 :: seen) rest
def planOk (ops : Array Oper) (B : Array Nat) (p : List (Nat × List Nat)) : Bool :=
  p.length == ops.size && (List.range ops.size).all (fun i => p.any (·.1 == i)) && pairsOk ops B p && ahead ops [] p
def plan (ops : Array Oper) : Option (List (Nat × List Nat)) :=
  let B := Region.before ops
  match planGo ops B ops.size 0 [] with
  | some p => if planOk ops B p then some p else none
  | none => none
def cIs (P : Program) (n : Nat) (ops : Array Oper) : List Oper → Option (List AIns)
  | [] => some []
  | o :: os => match cIns P n ops o, cIs P n ops os with
    | some i, some is => some (i :: is)
    | _, _ => none
def cCode (P : Program) (n : Nat) (inR : Bool) : Code → Option ACode
  | .skip => some .skip
  | .region _ ops draw => match cIs P n ops ops.toList, draw with
    | some is, false => some (.reg is)
    | some is, true => (plan ops).map fun p => .regD is p
    | none, _ => none
  | .seq a b => match cCode P n inR a, cCode P n inR b with
    | some a', some b' => some (.seq a' b')
    | _, _ => none
  | .cond c a b => match cOpd c, cCode P n inR a, cCode P n inR b with
    | some c', some a', some b' => some (.cond c' a' b')
    | _, _, _ => none
  | .block id a => (cCode P n inR a).map (.block id)
  | .loop a => (cCode P n inR a).map .loop
  | .exit id => some (.exit id)
  | .ret => some .ret
  | .rangeFunc f ps a b => if inR || !(ps.toList.all fun p => decide (p < n)) then none else match cOpd f, cCode P n true a, cCode P n true b with
    | some f', some a', some b' => some (.rangeF f' ps.toList a' b')
    | _, _, _ => none
  | _ => none
def cRes (P : Program) : ResultVar → Option ARes
  | .tmp t => some (.tmp t)
  | .cell a t => do if ← tyAgg P t then pure (.cellN a (← tySize P t)) else pure (.cell1 a)
def cFn (P : Program) (fl : Flag) (f : FuncId) : Option AFn := do
  let fn ← P.funcs[f]?
  let b ← fn.body
  if fn.name == "runtime.NumGoroutine" then none else
  pure { ntmps := fn.ntmps, body := ← cCode P fn.ntmps false b, results := ← fn.results.toList.mapM (cRes P), flag := fl }
def cMeth (P : Program) (t : TypeId) (name : String) : Option FuncId := do
  let i ← P.info? t
  let m ← i.methods.find? (·.name == name)
  match ← P.underlying t, m.path.isEmpty, m.func with
  | .pointer _, true, some (f, true) => pure f
  | _, _, _ => none
end Go.AM
end

section
namespace Go.AM
inductive Mp where
  | un
  | dead
  | at (c d n k : Nat)
abbrev Mu := Nat → Mp
inductive VR (μ : Mu) : Value → Value → Prop where
  | bool (b : Bool) : VR μ (.bool b) (.bool b)
  | int (k : IntKind) (n : Int) : VR μ (.int k n) (.int k n)
  | float (k : FloatKind) (n : Nat) : VR μ (.float k n) (.float k n)
  | string (s : ByteArray) : VR μ (.string s) (.string s)
  | ptrNil : VR μ (.pointer none) (.pointer none)
  | ptr {b o c d n k : Nat} (h : μ b = .at c d n k) : VR μ (.pointer (some ⟨b, o, none⟩)) (.pointer (some ⟨c, o + d, none⟩))
  | ptrDead {b o : Nat} {c : Addr} (h : μ b = .dead) : VR μ (.pointer (some ⟨b, o, none⟩)) (.pointer (some c))
  | slNil : VR μ (.slice none 0 0) (.slice none 0 0)
  | sl {b o len cap c d n k o' cap' : Nat} (h : μ b = .at c d n k) (hl : len ≤ cap) (hc : cap ≤ cap') (ho : cap = 0 ∨ o' = o + d) (hr : o' + cap' * k ≤ n) :
      VR μ (.slice (some ⟨b, o, none⟩) len cap) (.slice (some ⟨c, o', none⟩) len cap')
  | slDead {b o len cap cap' : Nat} {c : Addr} (h : μ b = .dead) (hl : len ≤ cap) (hc : cap ≤ cap') : VR μ (.slice (some ⟨b, o, none⟩) len cap) (.slice (some c) len cap')
  | mapNil : VR μ (.map none) (.map none)
  | map {r c d n k : Nat} (h : μ r = .at c d n k) : VR μ (.map (some r)) (.map (some c))
  | mapDead {r c : Nat} (h : μ r = .dead) : VR μ (.map (some r)) (.map (some c))
  | fn {f : FuncId} {a b a' b' : Array Value} (ha : a.size = a'.size) (hb : b.size = b'.size)
      (hea : ∀ (i : Nat) (x y : Value), a[i]? = some x → a'[i]? = some y → VR μ x y)
      (heb : ∀ (i : Nat) (x y : Value), b[i]? = some x → b'[i]? = some y → VR μ x y) : VR μ (.func (.func f) a b) (.func (.func f) a' b')
  | yld {l c d n k : Nat} (h : μ l = .at c d n k) : VR μ (.func (.yield l) #[] #[]) (.func (.yield c) #[] #[])
  | yldDead {l c : Nat} (h : μ l = .dead) : VR μ (.func (.yield l) #[] #[]) (.func (.yield c) #[] #[])
  | nilFunc : VR μ .nilFunc .nilFunc
  | iface (t : TypeId) {x y : Value} (h : VR μ x y) : VR μ (.iface t x) (.iface t y)
  | nilIface : VR μ .nilIface .nilIface
  | agg {a b : Array Value} (hs : a.size = b.size) (h : ∀ (i : Nat) (x y : Value), a[i]? = some x → b[i]? = some y → VR μ x y) : VR μ (.agg a) (.agg b)
  | tuple {a b : Array Value} (hs : a.size = b.size) (h : ∀ (i : Nat) (x y : Value), a[i]? = some x → b[i]? = some y → VR μ x y) : VR μ (.tuple a) (.tuple b)
def VRs (μ : Mu) (l m : List Value) : Prop := l.length = m.length ∧ ∀ (i : Nat) (x y : Value), l[i]? = some x → m[i]? = some y → VR μ x y
theorem VRs.nil {μ : Mu} : VRs μ [] [] := ⟨rfl, by simp⟩
theorem VRs.cons {μ : Mu} {x y : Value} {l m : List Value} (h : VR μ x y) (hs : VRs μ l m) : VRs μ (x :: l) (y :: m) := by
  refine ⟨by simp [hs.1], fun i a b ha hb => ?_⟩
  cases i with
  | zero => simp at ha hb; exact ha ▸ hb ▸ h
  | succ i => exact hs.2 i a b (by simpa using ha) (by simpa using hb)
theorem VRs.head {μ : Mu} {x y : Value} {l m : List Value} (h : VRs μ (x :: l) (y :: m)) : VR μ x y := h.2 0 x y rfl rfl
theorem VRs.tail {μ : Mu} {x y : Value} {l m : List Value} (h : VRs μ (x :: l) (y :: m)) : VRs μ l m :=
  ⟨by simpa using h.1, fun i a b ha hb => h.2 (i + 1) a b (by simpa using ha) (by simpa using hb)⟩
theorem VRs.cons_inv {μ : Mu} {x : Value} {l m : List Value} (h : VRs μ (x :: l) m) : ∃ y m', m = y :: m' ∧ VR μ x y ∧ VRs μ l m' := by
  cases m with
  | nil => have := h.1; simp at this
  | cons y m' => exact ⟨y, m', rfl, h.head, h.tail⟩
theorem VRs.nil_inv {μ : Mu} {m : List Value} (h : VRs μ [] m) : m = [] := by
  cases m with
  | nil => rfl
  | cons y m' => have := h.1; simp at this
theorem VRs.append {μ : Mu} {l m l' m' : List Value} (h : VRs μ l m) (h' : VRs μ l' m') : VRs μ (l ++ l') (m ++ m') := by
  induction l generalizing m with
  | nil => rw [h.nil_inv]; exact h'
  | cons x l ih => obtain ⟨y, m₁, rfl, hx, hl⟩ := h.cons_inv; exact .cons hx (ih hl)
theorem VRs.take {μ : Mu} {l m : List Value} (h : VRs μ l m) (n : Nat) : VRs μ (l.take n) (m.take n) := by
  refine ⟨by simp [h.1], fun i a b ha hb => ?_⟩
  rw [List.getElem?_take] at ha hb
  split at ha
  · rename_i hi; rw [if_pos hi] at hb; exact h.2 i a b ha hb
  · cases ha
theorem VRs.drop {μ : Mu} {l m : List Value} (h : VRs μ l m) (n : Nat) : VRs μ (l.drop n) (m.drop n) := by
  refine ⟨by simp [h.1], fun i a b ha hb => ?_⟩
  rw [List.getElem?_drop] at ha hb
  exact h.2 _ a b ha hb
theorem VRs.get {μ : Mu} {l m : List Value} (h : VRs μ l m) {i : Nat} {x : Value} (hx : l[i]? = some x) : ∃ y, m[i]? = some y ∧ VR μ x y := by
  have hi : i < m.length := by rw [← h.1]; exact (List.getElem?_eq_some_iff.1 hx).1
  exact ⟨m[i], by simp [hi], h.2 i x _ hx (by simp [hi])⟩
theorem VRs.replicate {μ : Mu} {l m : List Value} (h : VRs μ l m) (n : Nat) : VRs μ (List.replicate n l).flatten (List.replicate n m).flatten := by
  induction n with
  | zero => exact .nil
  | succ n ih => simp only [List.replicate_succ, List.flatten_cons]; exact h.append ih
theorem VRs.of_agg {μ : Mu} {a b : Array Value} (hs : a.size = b.size) (h : ∀ (i : Nat) (x y : Value), a[i]? = some x → b[i]? = some y → VR μ x y) : VRs μ a.toList b.toList :=
  ⟨by simpa using hs, fun i x y hx hy => h i x y (by simpa using hx) (by simpa using hy)⟩
theorem VRs.agg {μ : Mu} {l m : List Value} (h : VRs μ l m) : VR μ (.agg l.toArray) (.agg m.toArray) :=
  .agg (by simpa using h.1) fun i x y hx hy => h.2 i x y (by simpa using hx) (by simpa using hy)
theorem VRs.tuple {μ : Mu} {l m : List Value} (h : VRs μ l m) : VR μ (.tuple l.toArray) (.tuple m.toArray) :=
  .tuple (by simpa using h.1) fun i x y hx hy => h.2 i x y (by simpa using hx) (by simpa using hy)
def Mu.le (μ μ' : Mu) : Prop := ∀ b, (∀ c d n k, μ b = .at c d n k → μ' b = .at c d n k ∨ μ' b = .dead) ∧ (μ b = .dead → μ' b = .dead)
theorem Mu.le.refl (μ : Mu) : Mu.le μ μ := fun _ => ⟨fun _ _ _ _ h => .inl h, fun h => h⟩
theorem Mu.le.trans {μ μ' μ'' : Mu} (h : Mu.le μ μ') (h' : Mu.le μ' μ'') : Mu.le μ μ'' := fun b =>
  ⟨fun c d n k e => by
    rcases (h b).1 c d n k e with e' | e'
    · exact (h' b).1 c d n k e'
    · exact .inr ((h' b).2 e'), fun e => (h' b).2 ((h b).2 e)⟩
theorem VR.mono {μ μ' : Mu} (hle : Mu.le μ μ') {x y : Value} (h : VR μ x y) : VR μ' x y := by
  induction h with
  | bool b => exact .bool b
  | int k n => exact .int k n
  | float k n => exact .float k n
  | string s => exact .string s
  | ptrNil => exact .ptrNil
  | ptr h =>
    rcases (hle _).1 _ _ _ _ h with e | e
    · exact .ptr e
    · exact .ptrDead e
  | ptrDead h => exact .ptrDead ((hle _).2 h)
  | slNil => exact .slNil
  | sl h hl hc ho hr =>
    rcases (hle _).1 _ _ _ _ h with e | e
    · exact .sl e hl hc ho hr
    · exact .slDead e hl hc
  | slDead h hl hc => exact .slDead ((hle _).2 h) hl hc
  | mapNil => exact .mapNil
  | map h =>
    rcases (hle _).1 _ _ _ _ h with e | e
    · exact .map e
    · exact .mapDead e
  | mapDead h => exact .mapDead ((hle _).2 h)
  | fn ha hb _ _ ia ib => exact .fn ha hb ia ib
  | yld h =>
    rcases (hle _).1 _ _ _ _ h with e | e
    · exact .yld e
    · exact .yldDead e
  | yldDead h => exact .yldDead ((hle _).2 h)
  | nilFunc => exact .nilFunc
  | iface t _ ih => exact .iface t ih
  | nilIface => exact .nilIface
  | agg hs _ ih => exact .agg hs ih
  | tuple hs _ ih => exact .tuple hs ih
theorem VRs.mono {μ μ' : Mu} (hle : Mu.le μ μ') {l m : List Value} (h : VRs μ l m) : VRs μ' l m := ⟨h.1, fun i x y hx hy => (h.2 i x y hx hy).mono hle⟩
inductive Bel (n : Nat) : Value → Prop where
  | bool (b : Bool) : Bel n (.bool b)
  | int (k : IntKind) (m : Int) : Bel n (.int k m)
  | float (k : FloatKind) (m : Nat) : Bel n (.float k m)
  | string (s : ByteArray) : Bel n (.string s)
  | ptrNil : Bel n (.pointer none)
  | ptr {b o : Nat} (h : b < n) : Bel n (.pointer (some ⟨b, o, none⟩))
  | slNil {l c : Nat} : Bel n (.slice none l c)
  | sl {b o l c : Nat} (h : b < n) : Bel n (.slice (some ⟨b, o, none⟩) l c)
  | mapNil : Bel n (.map none)
  | map {r : Nat} (h : r < n) : Bel n (.map (some r))
  | fn {f : FuncId} {a b : Array Value} (ha : ∀ (i : Nat) (x : Value), a[i]? = some x → Bel n x) (hb : ∀ (i : Nat) (x : Value), b[i]? = some x → Bel n x) : Bel n (.func (.func f) a b)
  | yld {l : Nat} (h : l < n) : Bel n (.func (.yield l) #[] #[])
  | nilFunc : Bel n .nilFunc
  | iface (t : TypeId) {x : Value} (h : Bel n x) : Bel n (.iface t x)
  | nilIface : Bel n .nilIface
  | agg {a : Array Value} (h : ∀ (i : Nat) (x : Value), a[i]? = some x → Bel n x) : Bel n (.agg a)
  | tuple {a : Array Value} (h : ∀ (i : Nat) (x : Value), a[i]? = some x → Bel n x) : Bel n (.tuple a)
theorem get_of_size {a b : Array Value} (hs : a.size = b.size) {i : Nat} {x : Value} (hx : a[i]? = some x) : ∃ y, b[i]? = some y := by
  have := (Array.getElem?_eq_some_iff.1 hx).1
  exact ⟨b[i]'(by omega), by simp⟩
theorem VR.bel {μ : Mu} {n : Nat} (hd : ∀ b, μ b ≠ .un → b < n) {x y : Value} (h : VR μ x y) : Bel n x := by
  have hat : ∀ {b c d m k : Nat}, μ b = .at c d m k → b < n := fun e => hd _ (by rw [e]; exact fun e => Mp.noConfusion e)
  have hde : ∀ {b : Nat}, μ b = .dead → b < n := fun e => hd _ (by rw [e]; exact fun e => Mp.noConfusion e)
  induction h with
  | bool b => exact .bool b
  | int k m => exact .int k m
  | float k m => exact .float k m
  | string s => exact .string s
  | ptrNil => exact .ptrNil
  | ptr h => exact .ptr (hat h)
  | ptrDead h => exact .ptr (hde h)
  | slNil => exact .slNil
  | sl h _ _ _ _ => exact .sl (hat h)
  | slDead h _ _ => exact .sl (hde h)
  | mapNil => exact .mapNil
  | map h => exact .map (hat h)
  | mapDead h => exact .map (hde h)
  | fn ha hb _ _ ia ib =>
    exact .fn (fun i x hx => let ⟨y, hy⟩ := get_of_size ha hx; ia i x y hx hy) (fun i x hx => let ⟨y, hy⟩ := get_of_size hb hx; ib i x y hx hy)
  | yld h => exact .yld (hat h)
  | yldDead h => exact .yld (hde h)
  | nilFunc => exact .nilFunc
  | iface t _ ih => exact .iface t ih
  | nilIface => exact .nilIface
  | agg hs _ ih => exact .agg fun i x hx => let ⟨y, hy⟩ := get_of_size hs hx; ih i x y hx hy
  | tuple hs _ ih => exact .tuple fun i x hx => let ⟨y, hy⟩ := get_of_size hs hx; ih i x y hx hy
theorem VR.bel_vb {μ : Mu} {n : Nat} {x y : Value} (h : VR μ x y) : ∀ d, vb d n x = true → Bel n x := by
  induction h with
  | bool b => exact fun _ _ => .bool b
  | int k m => exact fun _ _ => .int k m
  | float k m => exact fun _ _ => .float k m
  | string s => exact fun _ _ => .string s
  | ptrNil => exact fun _ _ => .ptrNil
  | ptr h | ptrDead h =>
    intro d hd
    cases d with
    | zero => simp [vb] at hd
    | succ d => simp [vb] at hd; exact .ptr hd
  | slNil => exact fun _ _ => .slNil
  | sl h _ _ _ _ =>
    intro d hd
    cases d with
    | zero => simp [vb] at hd
    | succ d => simp [vb] at hd; exact .sl hd
  | slDead h _ _ =>
    intro d hd
    cases d with
    | zero => simp [vb] at hd
    | succ d => simp [vb] at hd; exact .sl hd
  | mapNil => exact fun _ _ => .mapNil
  | map h | mapDead h =>
    intro d hd
    cases d with
    | zero => simp [vb] at hd
    | succ d => simp [vb] at hd; exact .map hd
  | fn ha hb _ _ ia ib =>
    intro d hd
    cases d with
    | zero => simp [vb] at hd
    | succ d =>
      simp only [vb, Bool.true_and, Bool.and_eq_true, List.all_eq_true] at hd
      exact .fn (fun i x hx => let ⟨y, hy⟩ := get_of_size ha hx; ia i x y hx hy d (hd.1 x (List.mem_of_getElem? (i := i) (by simpa using hx))))
        (fun i x hx => let ⟨y, hy⟩ := get_of_size hb hx; ib i x y hx hy d (hd.2 x (List.mem_of_getElem? (i := i) (by simpa using hx))))
  | yld h | yldDead h =>
    intro d hd
    cases d with
    | zero => simp [vb] at hd
    | succ d => simp [vb] at hd; exact .yld hd
  | nilFunc => exact fun _ _ => .nilFunc
  | iface t _ ih =>
    intro d hd
    cases d with
    | zero => simp [vb] at hd
    | succ d => simp only [vb] at hd; exact .iface t (ih d hd)
  | nilIface => exact fun _ _ => .nilIface
  | agg hs _ ih =>
    intro d hd
    cases d with
    | zero => simp [vb] at hd
    | succ d =>
      simp only [vb, List.all_eq_true] at hd
      exact .agg fun i x hx => let ⟨y, hy⟩ := get_of_size hs hx; ih i x y hx hy d (hd x (List.mem_of_getElem? (i := i) (by simpa using hx)))
  | tuple hs _ ih =>
    intro d hd
    cases d with
    | zero => simp [vb] at hd
    | succ d =>
      simp only [vb, List.all_eq_true] at hd
      exact .tuple fun i x hx => let ⟨y, hy⟩ := get_of_size hs hx; ih i x y hx hy d (hd x (List.mem_of_getElem? (i := i) (by simpa using hx)))
theorem VR.restrict {μ μ' : Mu} {n : Nat} (hμ : ∀ b, b < n → μ' b = μ b) {x y : Value} (h : VR μ x y) : Bel n x → VR μ' x y := by
  induction h with
  | bool b => exact fun _ => .bool b
  | int k m => exact fun _ => .int k m
  | float k m => exact fun _ => .float k m
  | string s => exact fun _ => .string s
  | ptrNil => exact fun _ => .ptrNil
  | ptr h => intro hb; cases hb with | ptr hb => exact .ptr (by rw [hμ _ hb, h])
  | ptrDead h => intro hb; cases hb with | ptr hb => exact .ptrDead (by rw [hμ _ hb, h])
  | slNil => exact fun _ => .slNil
  | sl h hl hc ho hr => intro hb; cases hb with | sl hb => exact .sl (by rw [hμ _ hb, h]) hl hc ho hr
  | slDead h hl hc => intro hb; cases hb with | sl hb => exact .slDead (by rw [hμ _ hb, h]) hl hc
  | mapNil => exact fun _ => .mapNil
  | map h => intro hb; cases hb with | map hb => exact .map (by rw [hμ _ hb, h])
  | mapDead h => intro hb; cases hb with | map hb => exact .mapDead (by rw [hμ _ hb, h])
  | fn ha hb _ _ ia ib => intro hB; cases hB with | fn h1 h2 => exact .fn ha hb (fun i x y hx hy => ia i x y hx hy (h1 i x hx)) (fun i x y hx hy => ib i x y hx hy (h2 i x hx))
  | yld h => intro hb; cases hb with | yld hb => exact .yld (by rw [hμ _ hb, h])
  | yldDead h => intro hb; cases hb with | yld hb => exact .yldDead (by rw [hμ _ hb, h])
  | nilFunc => exact fun _ => .nilFunc
  | iface t _ ih => intro hb; cases hb with | iface _ hb => exact .iface t (ih hb)
  | nilIface => exact fun _ => .nilIface
  | agg hs _ ih => intro hb; cases hb with | agg hb => exact .agg hs fun i x y hx hy => ih i x y hx hy (hb i x hx)
  | tuple hs _ ih => intro hb; cases hb with | tuple hb => exact .tuple hs fun i x y hx hy => ih i x y hx hy (hb i x hx)
theorem VR.within {μ μ' : Mu} {n : Nat} (hd : ∀ b, μ b ≠ .un → b < n) (hμ : ∀ b, b < n → μ' b = μ b) {x y : Value} (h : VR μ x y) : VR μ' x y := by
  refine h.mono fun b => ?_
  by_cases hb : μ b = .un
  · exact ⟨fun c d n k e => absurd e (by rw [hb]; exact fun e => Mp.noConfusion e), fun e => absurd e (by rw [hb]; exact fun e => Mp.noConfusion e)⟩
  · have := hμ b (hd b hb)
    exact ⟨fun c d n k e => .inl (this.trans e), fun e => this.trans e⟩
def envR (μ : Mu) (env : Env) (tmps : Array Value) : Prop := ∀ t, VR μ (env t) (tmps.getD t undef)
def pendR : AExit → Option Code → Prop
  | .normal, none => True
  | .exit id, some (.exit id') => id = id'
  | .ret, some .ret => True
  | _, _ => False
structure LoopR (P : Program) (μ : Mu) (lp : ALoop) (r : Loop) : Prop where
  state : lp.state = r.state
  pend : pendR lp.pending r.pending
  env : envR μ lp.env r.tmps
  ps : lp.ps = r.params.toList
  nt : ∃ nt, nt ≤ r.tmps.size ∧ cCode P nt true r.assign = some lp.asg ∧ cCode P nt true r.body = some lp.body ∧ ∀ p ∈ lp.ps, p < nt
def own1 (P : Program) (l : List Value) (e te : TypeId) (fz : Nat × Nat) (d n : Nat) : Prop := fz = (0, 0) ∧ te = e ∧ (bldTy P e = true → d = 0 ∧ n = l.length)
def OR (P : Program) (μ : Mu) (low : Prop) (x : AObj) (o : Obj) (d n k : Nat) : Prop :=
  match x, o with
  | .cells l e, .cells cc te fz => cc.size = n ∧ d + l.length ≤ n ∧ (low ∨ own1 P l e te fz d n) ∧ k = P.cellsOf e ∧
      ∀ (i : Nat) (v : Value), l[i]? = some v → ∃ u, cc[d + i]? = some u ∧ VR μ v u
  | .iter s p, .stringIter s' p' => s = s' ∧ p = p' ∧ d = 0
  | .map es, .map ces _ => es.length = ces.size ∧ ∀ (i : Nat) (e : Value × Value) (c : MapEntry), es[i]? = some e → ces[i]? = some c →
      (∃ kk m, e.1 = .int kk m ∧ c.key = .int kk m) ∧ VR μ e.2 c.val
  | .loop lp, .loop r => LoopR P μ lp r
  | _, _ => False
theorem OR.within {P : Program} {μ μ' : Mu} {low : Prop} {x : AObj} {o : Obj} {d n k : Nat} (h : OR P μ low x o d n k) (hv : ∀ v u, VR μ v u → VR μ' v u) : OR P μ' low x o d n k := by
  cases x <;> cases o <;> simp only [OR] at h ⊢
  · exact ⟨h.1, h.2.1, h.2.2.1, h.2.2.2.1, fun i v hi => let ⟨u, hu, r⟩ := h.2.2.2.2 i v hi; ⟨u, hu, hv _ _ r⟩⟩
  · exact h
  · exact ⟨h.1, fun i e c he hc => ⟨(h.2 i e c he hc).1, hv _ _ (h.2 i e c he hc).2⟩⟩
  · exact ⟨h.state, h.pend, fun t => hv _ _ (h.env t), h.ps, h.nt⟩
structure HR (P : Program) (B0 : Nat × Nat) (μ : Mu) (h : Heap) (w : World) : Prop where
  dom : ∀ b, μ b ≠ .un → b < h.size
  dead : ∀ b, μ b = .dead → h[b]? = some .dead
  obj : ∀ b c d n k, μ b = .at c d n k → ∃ x o, h[b]? = some x ∧ w.heap[c]? = some o ∧ OR P μ (b < B0.1) x o d n k
  inj : ∀ b b' c d n k d' n' k', B0.2 ≤ c → μ b = .at c d n k → μ b' = .at c d' n' k' → b = b'
  lowc : ∀ b c d n k, μ b = .at c d n k → B0.1 ≤ b → B0.2 ≤ c
  base : B0.1 ≤ h.size ∧ B0.2 ≤ w.heap.size
structure Fr (B0 : Nat × Nat) (fl : Nat) (μ : Mu) (h : Heap) (w : World) (μ' : Mu) (h' : Heap) (w' : World) : Prop where
  le : Mu.le μ μ'
  size : h.size ≤ h'.size
  un : ∀ b, b < h.size → μ b = .un → h'[b]? = h[b]? ∧ μ' b = .un
  low : ∀ b, b < fl → h'[b]? = h[b]? ∧ μ' b = μ b
  csize : w.heap.size ≤ w'.heap.size
  cun : ∀ c, c < w.heap.size → (∀ b d n k, μ b ≠ .at c d n k) → w'.heap[c]? = w.heap[c]? ∧ ∀ b d n k, μ' b ≠ .at c d n k
  clow : ∀ c, c < B0.2 → w'.heap[c]? = w.heap[c]?
  os : w'.os = w.os
  tape : w'.tape = w.tape
  output : w'.output = w.output ∧ w.drawn ≤ w'.drawn
theorem Fr.refl (B0 : Nat × Nat) (fl : Nat) (μ : Mu) (h : Heap) (w : World) : Fr B0 fl μ h w μ h w :=
  ⟨.refl μ, Nat.le_refl _, fun _ _ e => ⟨rfl, e⟩, fun _ _ => ⟨rfl, rfl⟩, Nat.le_refl _, fun _ _ h => ⟨rfl, h⟩, fun _ _ => rfl, rfl, rfl, ⟨rfl, Nat.le_refl _⟩⟩
theorem Fr.trans {B0 : Nat × Nat} {fl fl' : Nat} {μ μ' μ'' : Mu} {h h' h'' : Heap} {w w' w'' : World} (hf : fl ≤ fl') (a : Fr B0 fl μ h w μ' h' w') (b : Fr B0 fl' μ' h' w' μ'' h'' w'') :
    Fr B0 fl μ h w μ'' h'' w'' where
  le := a.le.trans b.le
  size := Nat.le_trans a.size b.size
  un x hx e := by
    obtain ⟨e1, e2⟩ := a.un x hx e
    obtain ⟨e3, e4⟩ := b.un x (Nat.lt_of_lt_of_le hx a.size) e2
    exact ⟨e3.trans e1, e4⟩
  low x hx := by
    obtain ⟨e1, e2⟩ := a.low x hx
    obtain ⟨e3, e4⟩ := b.low x (Nat.lt_of_lt_of_le hx hf)
    exact ⟨e3.trans e1, e4.trans e2⟩
  csize := Nat.le_trans a.csize b.csize
  cun c hc e := by
    obtain ⟨e1, e2⟩ := a.cun c hc e
    obtain ⟨e3, e4⟩ := b.cun c (Nat.lt_of_lt_of_le hc a.csize) e2
    exact ⟨e3.trans e1, e4⟩
  clow c hc := (b.clow c hc).trans (a.clow c hc)
  os := b.os.trans a.os
  tape := b.tape.trans a.tape
  output := ⟨b.output.1.trans a.output.1, Nat.le_trans a.output.2 b.output.2⟩
def oBelow (c : Nat) : AObj → Prop
  | .cells l _ => ∀ v ∈ l, Bel c v
  | .map es => ∀ e ∈ es, Bel c e.2
  | .loop lp => ∀ t, Bel c (lp.env t)
  | _ => True
structure St (P : Program) (B0 : Nat × Nat) (κ : Ctx) (μ : Mu) (h : Heap) (w : World) : Prop where
  hr : HR P B0 μ h w
  fl : B0.1 ≤ κ.fl
  fle : κ.fl ≤ h.size
  cle : ∀ c ∈ κ.cs, c ≤ h.size
  ceil : ∀ c ∈ κ.cs, ∀ b, b < c → μ b ≠ .un → ∀ x, h[b]? = some x → oBelow c x
structure Go1 (P : Program) (B0 : Nat × Nat) (κ : Ctx) (μ : Mu) (h : Heap) (w : World) (μ' : Mu) (h' : Heap) (w' : World) : Prop where
  st : St P B0 κ μ' h' w'
  fr : Fr B0 κ.fl μ h w μ' h' w'
end Go.AM
end

section
namespace Go.AM
variable {P : Program} {B0 : Nat × Nat} {κ : Ctx} {μ : Mu} {h : Heap} {w : World}
def Mu.set (μ : Mu) (b : Nat) (m : Mp) : Mu := fun x => if x = b then m else μ x
theorem Mu.set_same (μ : Mu) (b : Nat) (m : Mp) : μ.set b m b = m := by simp [Mu.set]
theorem Mu.set_ne (μ : Mu) {b x : Nat} (m : Mp) (hx : x ≠ b) : μ.set b m x = μ x := by simp [Mu.set, hx]
theorem HR.lt {b c d n k : Nat} (H : HR P B0 μ h w) (e : μ b = .at c d n k) : b < h.size := H.dom b (by rw [e]; exact fun e => Mp.noConfusion e)
theorem HR.clt {b c d n k : Nat} (H : HR P B0 μ h w) (e : μ b = .at c d n k) : c < w.heap.size := by
  obtain ⟨x, o, _, ho, _⟩ := H.obj b c d n k e
  exact (Array.getElem?_eq_some_iff.1 ho).1
theorem HR.heap {w' : World} (H : HR P B0 μ h w) (e : w'.heap = w.heap) : HR P B0 μ h w' :=
  ⟨H.dom, H.dead, fun b c d n k eb => by rw [e]; exact H.obj b c d n k eb, H.inj, H.lowc, by rw [e]; exact H.base⟩
theorem St.heap {w' : World} (S : St P B0 κ μ h w) (e : w'.heap = w.heap) : St P B0 κ μ h w' := ⟨S.hr.heap e, S.fl, S.fle, S.cle, S.ceil⟩
theorem Fr.of_heap {fl : Nat} {w' : World} (e : w'.heap = w.heap) (h1 : w'.os = w.os) (h2 : w'.tape = w.tape) (h3 : w'.output = w.output ∧ w.drawn ≤ w'.drawn) : Fr B0 fl μ h w μ h w' :=
  ⟨.refl μ, Nat.le_refl _, fun _ _ e => ⟨rfl, e⟩, fun _ _ => ⟨rfl, rfl⟩, by rw [e]; exact Nat.le_refl _, fun _ _ h => ⟨by rw [e], h⟩, fun _ _ => by rw [e], h1, h2, h3⟩
theorem St.drew (S : St P B0 κ μ h w) : Go1 P B0 κ μ h w μ h w.drew := ⟨S.heap rfl, .of_heap rfl rfl rfl ⟨rfl, Nat.le_succ _⟩⟩
theorem Go1.refl (S : St P B0 κ μ h w) : Go1 P B0 κ μ h w μ h w := ⟨S, .refl ..⟩
theorem Go1.trans {μ' μ'' : Mu} {h' h'' : Heap} {w' w'' : World} (a : Go1 P B0 κ μ h w μ' h' w') (b : Go1 P B0 κ μ' h' w' μ'' h'' w'') : Go1 P B0 κ μ h w μ'' h'' w'' :=
  ⟨b.st, a.fr.trans (Nat.le_refl _) b.fr⟩
theorem HR.push (H : HR P B0 μ h w) (x : AObj) : HR P B0 μ (h.push x) w where
  dom b e := by have := H.dom b e; simp; omega
  dead b e := by rw [Array.getElem?_push_lt (H.dom b (by rw [e]; exact fun e => Mp.noConfusion e)), ← Array.getElem?_eq_getElem]; exact H.dead b e
  obj b c d n k e := by
    obtain ⟨y, o, h1, h2, h3⟩ := H.obj b c d n k e
    refine ⟨y, o, ?_, h2, h3⟩
    rw [Array.getElem?_push_lt (H.lt e), ← Array.getElem?_eq_getElem]; exact h1
  inj := H.inj
  lowc := H.lowc
  base := ⟨by have := H.base.1; simp; omega, H.base.2⟩
theorem HR.place {b n k : Nat} {x : AObj} {o : Obj} (H : HR P B0 μ h w) (hb : h[b]? = some x) (hu : μ b = .un) (hB : B0.1 ≤ b)
    (hO : OR P (μ.set b (.at w.heap.size 0 n k)) (b < B0.1) x o 0 n k) : HR P B0 (μ.set b (.at w.heap.size 0 n k)) h (w.alloc o) where
  dom y e := by
    by_cases hy : y = b
    · subst hy; exact (Array.getElem?_eq_some_iff.1 hb).1
    · rw [Mu.set_ne _ _ hy] at e; exact H.dom y e
  dead y e := by
    by_cases hy : y = b
    · subst hy; rw [Mu.set_same] at e; cases e
    · rw [Mu.set_ne _ _ hy] at e; exact H.dead y e
  obj y c d n' k' e := by
    by_cases hy : y = b
    · subst hy
      rw [Mu.set_same] at e
      cases e
      exact ⟨x, o, hb, by show (w.heap.push o)[w.heap.size]? = _; simp, hO⟩
    · rw [Mu.set_ne _ _ hy] at e
      obtain ⟨z, o', h1, h2, h3⟩ := H.obj y c d n' k' e
      refine ⟨z, o', h1, ?_, h3.within fun v u r => r.mono ?_⟩
      · show (w.heap.push o)[c]? = _
        rw [Array.getElem?_push_lt (H.clt e), ← Array.getElem?_eq_getElem]; exact h2
      · intro q
        by_cases hq : q = b
        · subst hq; exact ⟨fun _ _ _ _ e => (nomatch hu.symm.trans e), fun e => (nomatch hu.symm.trans e)⟩
        · rw [Mu.set_ne _ _ hq]; exact ⟨fun _ _ _ _ e => .inl e, fun e => e⟩
  inj y y' c d n1 k1 d' n2 k2 hc0 e e' := by
    by_cases hy : y = b
    · by_cases hy' : y' = b
      · rw [hy, hy']
      · subst hy; rw [Mu.set_same] at e; cases e
        rw [Mu.set_ne _ _ hy'] at e'
        have := H.clt e'; omega
    · by_cases hy' : y' = b
      · subst hy'; rw [Mu.set_same] at e'; cases e'
        rw [Mu.set_ne _ _ hy] at e
        have := H.clt e; omega
      · rw [Mu.set_ne _ _ hy] at e; rw [Mu.set_ne _ _ hy'] at e'; exact H.inj _ _ _ _ _ _ _ _ _ hc0 e e'
  lowc y c d n' k' e hy' := by
    by_cases hy : y = b
    · subst hy; rw [Mu.set_same] at e; cases e; exact H.base.2
    · rw [Mu.set_ne _ _ hy] at e; exact H.lowc _ _ _ _ _ e hy'
  base := ⟨H.base.1, by have := H.base.2; simp; omega⟩
theorem Mu.le_set_un {b : Nat} {m : Mp} (hu : μ b = .un) : Mu.le μ (μ.set b m) := by
  intro q
  by_cases hq : q = b
  · subst hq; exact ⟨fun _ _ _ _ e => (nomatch hu.symm.trans e), fun e => (nomatch hu.symm.trans e)⟩
  · rw [Mu.set_ne _ _ hq]; exact ⟨fun _ _ _ _ e => .inl e, fun e => e⟩
theorem HR.un_size (H : HR P B0 μ h w) : μ h.size = .un := by
  cases e : μ h.size with
  | un => rfl
  | dead => have := H.dom h.size (by rw [e]; exact fun e => Mp.noConfusion e); omega
  | «at» c d n k => have := H.lt e; omega
theorem St.alloc {x : AObj} {o : Obj} {n k : Nat} (S : St P B0 κ μ h w)
    (hO : OR P (μ.set h.size (.at w.heap.size 0 n k)) (h.size < B0.1) x o 0 n k) :
    Go1 P B0 κ μ h w (μ.set h.size (.at w.heap.size 0 n k)) (h.push x) (w.alloc o) := by
  have hu := S.hr.un_size
  refine ⟨⟨(S.hr.push x).place (by simp) hu S.hr.base.1 hO, S.fl, by have := S.fle; simp; omega, fun c hc => by have := S.cle c hc; simp; omega, fun c hc b hb hm y hy => ?_⟩, ?_⟩
  · have := S.cle c hc
    rw [Mu.set_ne _ _ (by omega)] at hm
    rw [Array.getElem?_push_lt (by omega), ← Array.getElem?_eq_getElem] at hy
    exact S.ceil c hc b hb hm y hy
  · refine ⟨Mu.le_set_un hu, by simp, fun b hb e => ?_, fun b hb => ?_, by simp, fun c hc e => ?_, fun c hc => ?_, rfl, rfl, ⟨rfl, Nat.le_refl _⟩⟩
    · rw [Mu.set_ne _ _ (by omega), Array.getElem?_push_lt hb, ← Array.getElem?_eq_getElem]; exact ⟨rfl, e⟩
    · have := S.fle
      rw [Mu.set_ne _ _ (by omega), Array.getElem?_push_lt (by omega), ← Array.getElem?_eq_getElem]; exact ⟨rfl, rfl⟩
    · refine ⟨?_, fun b d n' k' e' => ?_⟩
      · show (w.heap.push o)[c]? = _
        rw [Array.getElem?_push_lt hc, ← Array.getElem?_eq_getElem]
      · by_cases hb : b = h.size
        · subst hb; rw [Mu.set_same] at e'; cases e'; omega
        · rw [Mu.set_ne _ _ hb] at e'; exact e b d n' k' e'
    · have := S.hr.base.2
      show (w.heap.push o)[c]? = _
      rw [Array.getElem?_push_lt (by omega), ← Array.getElem?_eq_getElem]
def putArr (cc : Array Value) (off : Nat) (us : List Value) (cc' : Array Value) : Prop :=
  cc'.size = cc.size ∧ ∀ j, cc'[j]? = if off ≤ j ∧ j < off + us.length then us[j - off]? else cc[j]?
theorem putAt_get {l vs : List Value} {off i : Nat} (hl : off + vs.length ≤ l.length) : (putAt l off vs)[i]? = if off ≤ i ∧ i < off + vs.length then vs[i - off]? else l[i]? := by
  unfold putAt
  by_cases h1 : i < off
  · rw [if_neg (by omega), List.getElem?_append_left (by simp; omega), List.getElem?_take, if_pos h1]
  · rw [List.getElem?_append_right (by simp; omega)]
    have hlen : (l.take off).length = off := by simp; omega
    rw [hlen]
    by_cases h2 : i < off + vs.length
    · rw [if_pos ⟨by omega, h2⟩, List.getElem?_append_left (by omega)]
    · rw [if_neg (by omega), List.getElem?_append_right (by omega), List.getElem?_drop]
      congr 1; omega
theorem putAt_length {l vs : List Value} {off : Nat} (hl : off + vs.length ≤ l.length) : (putAt l off vs).length = l.length := by
  unfold putAt; simp; omega
theorem St.write {b c d n k off : Nat} {l vs us : List Value} {e : TypeId} {cc cc' : Array Value} {e' : TypeId} {fz : Nat × Nat} {w' : World} (S : St P B0 κ μ h w)
    (hb : μ b = .at c d n k) (hl : h[b]? = some (.cells l e)) (hc : w.heap[c]? = some (.cells cc e' fz)) (hv : VRs μ vs us) (hoff : off + vs.length ≤ l.length)
    (hm : mayPut κ b vs = true) (hp : putArr cc (off + d) us cc') (hw : w'.heap = w.heap.setIfInBounds c (.cells cc' e' fz))
    (h1 : w'.os = w.os) (h2 : w'.tape = w.tape) (h3 : w'.output = w.output ∧ w.drawn ≤ w'.drawn) :
    Go1 P B0 κ μ h w μ (h.setIfInBounds b (.cells (putAt l off vs) e)) w' := by
  have hbl := S.hr.lt hb
  have hcl := S.hr.clt hb
  simp only [mayPut, Bool.and_eq_true, decide_eq_true_eq, List.all_eq_true, Bool.or_eq_true] at hm
  obtain ⟨hfl, hcs⟩ := hm
  have hB : B0.1 ≤ b := Nat.le_trans S.fl hfl
  have hBc := S.hr.lowc b c d n k hb hB
  have hOR : OR P μ (b < B0.1) (.cells (putAt l off vs) e) (.cells cc' e' fz) d n k := by
    obtain ⟨x, o, hx, ho, hr⟩ := S.hr.obj b c d n k hb
    rw [hl] at hx; cases hx
    rw [hc] at ho; cases ho
    obtain ⟨q1, q2, q3, q3', q4⟩ := hr
    refine ⟨by rw [hp.1]; exact q1, by rw [putAt_length hoff]; exact q2, by unfold own1; rw [putAt_length hoff]; exact q3, q3', fun i v hi => ?_⟩
    rw [putAt_get hoff] at hi
    rw [hp.2]
    by_cases hin : off ≤ i ∧ i < off + vs.length
    · rw [if_pos hin] at hi
      rw [if_pos (by have := hv.1; omega), show d + i - (off + d) = i - off by omega]
      exact hv.get hi
    · rw [if_neg hin] at hi
      rw [if_neg (by have := hv.1; omega)]
      exact q4 i v hi
  refine ⟨⟨⟨fun y ey => by simp; exact S.hr.dom y ey, fun y ey => ?_, fun y c1 d1 n1 k1 ey => ?_, S.hr.inj, S.hr.lowc, ?_⟩, S.fl, by simp; exact S.fle, fun q hq => by simp; exact S.cle q hq, fun q hq y hy hmy z hz => ?_⟩, ?_⟩
  · rw [Array.getElem?_setIfInBounds]
    by_cases hyb : b = y
    · subst hyb; rw [hb] at ey; cases ey
    · rw [if_neg hyb]; exact S.hr.dead y ey
  · by_cases hyb : b = y
    · subst hyb
      rw [hb] at ey; cases ey
      exact ⟨_, _, by simp [hbl], by rw [hw]; simp [hcl], hOR⟩
    · obtain ⟨x, o, hx, ho, hr⟩ := S.hr.obj y c1 d1 n1 k1 ey
      refine ⟨x, o, by rw [Array.getElem?_setIfInBounds, if_neg hyb]; exact hx, ?_, hr⟩
      rw [hw, Array.getElem?_setIfInBounds, if_neg ?_]
      · exact ho
      · intro hcc; subst hcc; exact hyb (S.hr.inj _ _ _ _ _ _ _ _ _ hBc hb ey)
  · exact ⟨by simp; exact S.hr.base.1, by rw [hw]; simp; exact S.hr.base.2⟩
  · rw [Array.getElem?_setIfInBounds] at hz
    by_cases hyb : b = y
    · subst hyb
      rw [if_pos rfl, if_pos hbl] at hz
      cases hz
      have hold := S.ceil q hq b hy hmy _ hl
      intro v hv'
      rcases hcs q hq with hle | hall
      · omega
      · obtain ⟨i, hi⟩ := List.mem_iff_getElem?.1 hv'
        rw [putAt_get hoff] at hi
        split at hi
        · obtain ⟨u, _, hr⟩ := hv.get hi
          exact hr.bel_vb 6 (hall v (List.mem_of_getElem? hi))
        · exact hold v (List.mem_of_getElem? hi)
    · rw [if_neg hyb] at hz; exact S.ceil q hq y hy hmy z hz
  · refine ⟨.refl μ, by simp, fun y hy ey => ⟨?_, ey⟩, fun y hy => ⟨?_, rfl⟩, by rw [hw]; simp, fun q hq e => ⟨?_, e⟩, fun q hq => ?_, h1, h2, h3⟩
    · rw [Array.getElem?_setIfInBounds, if_neg]; intro hyb; subst hyb; rw [hb] at ey; cases ey
    · rw [Array.getElem?_setIfInBounds, if_neg]; omega
    · rw [hw, Array.getElem?_setIfInBounds, if_neg]; intro hcq; subst hcq; exact e b d n k hb
    · rw [hw, Array.getElem?_setIfInBounds, if_neg]; omega
end Go.AM
end
