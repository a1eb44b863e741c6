/-
The abstract machine: what it knows of types and functions, its operations, its code.
-/
import Derived.Test.YtcfohnfnajfahaaDoorAbs1
namespace Go.Abs
open Go

inductive Sh where
  | int (k : IntKind) | bool | str | ptr | slice (sz : Nat) | map | func | iface

inductive TK where
  | scalar
  | slice (e : TypeId)
  | struct (fs : List (Nat × TypeId))
  | array (n : Nat) (e : TypeId)
  | map (k e : TypeId)

structure TI where
  shape : List Sh
  agg : Bool
  bytes : Nat
  kind : TK

/-- What the machine knows of a program; 'loc', 'mask', 'free' are hints. -/
structure Tab where
  ti : TypeId → Option TI
  fn : FuncId → Option Func
  loc : FuncId → Nat → Bool
  mask : FuncId → Nat → List Nat
  join : FuncId → Nat → List Nat
  quiet : FuncId → Nat → List Bool
  glob : Nat → Bool
  eq : TypeId → Bool
  tup : TypeId → Option (List TypeId)

/-! ### Memory -/
abbrev Env := List AVal
abbrev Locs := List LBlk

def Heap.row? (σ : Heap) (b : Nat) : Option (List AVal) :=
  match σ[b]? with
  | some (.row cs .ro) => some cs
  | some (.row cs .rw) => some cs
  | _ => none
def Heap.cell? (σ : Heap) (b o : Nat) : Option AVal := (σ.row? b).bind fun cs => cs[o]?
/-- Cells are written. -/
def overwrite : List AVal → Nat → List AVal → List AVal
  | cs, _, [] => cs
  | cs, o, v :: vs => overwrite (cs.set o v) (o + 1) vs
def Heap.store (σ : Heap) (b o : Nat) (vs : List AVal) : Option Heap :=
  match σ[b]? with
  | some (.row cs .rw) => if o + vs.length ≤ cs.length then some (σ.set b (.row (overwrite cs o vs) .rw)) else none
  | _ => none
/-- The cells of a slice. -/
def Heap.read (σ : Heap) (b : Option Nat) (o n z : Nat) : Option (List AVal) :=
  match b with
  | none => some []
  | some b => (σ.row? b).bind fun cs => if o + n * z ≤ cs.length then some ((cs.drop o).take (n * z)) else none
/-- Values behind a slice: its row is another one from then on. -/
def Heap.append (σ : Heap) (b : Option Nat) (o n z bytes : Nat) (vs : List AVal) (k : Nat) : Option ((Option Nat × Nat × Nat) × Heap) :=
  if k = 0 then some ((b, o, n), σ)
  else if (n + k) * bytes ≤ 70368744177664 ∧ n + k ≤ 70368744177664 ∧ vs.length = k * z then
    match b with
    | none => some ((some σ.length, 0, k), σ ++ [.row vs .rw])
    | some b =>
      match σ[b]? with
      | some (.row cs .rw) =>
        if o + n * z ≤ cs.length then some ((some σ.length, 0, n + k), σ.set b (.row [] .dead) ++ [.row ((cs.drop o).take (n * z) ++ vs) .rw]) else none
      | _ => none
  else none

/-- What can be read of a place of the frame's own. -/
def LBlk.cells? : LBlk → Option (List AVal)
  | .cells cs => some cs
  | .fcells cs => some cs
  | _ => Option.none

/-! ### Values told by their kinds -/
def int? (x : Option AVal) (k : IntKind) : Option Int := match x with | some (.int k' n) => if k' = k then some n else none | _ => none
def bool? (x : Option AVal) : Option Bool := match x with | some (.bool b) => some b | _ => none
def str? (x : Option AVal) : Option ByteArray := match x with | some (.str b) => some b | _ => none
def ptr? (x : Option AVal) : Option (Option (Nat × Nat)) := match x with | some (.ptr p) => some p | _ => none
def slice? (x : Option AVal) (sz : Nat) : Option (Option Nat × Nat × Nat) :=
  match x with
  | some (.slice b o n z) =>
    match decide (z = sz) with
    | true => some (b, o, n)
    | false => match b with | none => some (none, o, n) | some _ => none
  | _ => none
def map? (x : Option AVal) : Option (Option Nat) := match x with | some (.map b) => some b | _ => none
def func? (x : Option AVal) : Option AVal :=
  match x with
  | some (.func fn cs) => some (.func fn cs)
  | some .nilfunc => some .nilfunc
  | _ => none
def iface? (x : Option AVal) : Option AVal :=
  match x with
  | some (.iface t v) => some (.iface t v)
  | some .niliface => some .niliface
  | _ => none

variable {R : Type}
def Sh.fetch (s : Sh) (x : Option AVal) (k : AVal → Option R) : Option R :=
  match s with
  | .int kd => (int? x kd).bind fun n => k (.int kd n)
  | .bool => (bool? x).bind fun b => k (.bool b)
  | .str => (str? x).bind fun b => k (.str b)
  | .ptr => (ptr? x).bind fun p => k (.ptr p)
  | .slice z => (slice? x z).bind fun q => k (.slice q.1 q.2.1 q.2.2 z)
  | .map => (map? x).bind fun b => k (.map b)
  | .func => (func? x).bind fun v => k v
  | .iface => (iface? x).bind fun v => k v
def fetches : List Sh → (Nat → Option AVal) → Nat → (List AVal → Option R) → Option R
  | [], _, _, k => k []
  | s :: ss, g, j, k => s.fetch (g j) fun v => fetches ss g (j + 1) fun vs => k (v :: vs)

def Sh.zero : Sh → AVal
  | .int k => .int k 0
  | .bool => .bool false
  | .str => .str ⟨#[]⟩
  | .ptr => .ptr none
  | .slice z => .slice none 0 0 z
  | .map => .map none
  | .func => .nilfunc
  | .iface => .niliface
def TI.zeros (i : TI) : List AVal := i.shape.map Sh.zero
def TI.size (i : TI) : Nat := i.shape.length
def TI.val (i : TI) (vs : List AVal) : AVal := if i.agg then .agg vs else vs.headD .undef

def ofConst : Value → AVal
  | .bool b => .bool b
  | .int k n => .int k n
  | .string s => .str s
  | .pointer none => .ptr none
  | .slice none 0 0 => .slice none 0 0 0
  | .map none => .map none
  | .nilFunc => .nilfunc
  | .nilIface => .niliface
  | _ => .undef

def ev (T : Tab) (e : Env) : Operand → AVal
  | .tmp t => e.getD t .undef
  | .const v => ofConst v
  | .global g => match T.glob g with | true => .ptr (some (g, 0)) | false => .undef
  | .func f => .func (.func f) []

def put (e : Env) (dst : Option Nat) (v : AVal) : Env := match dst with | some d => e.set d v | none => e

/-! ### Operations without memory -/
def eqCells : List Sh → List AVal → List AVal → Option Bool
  | [], [], [] => some true
  | .bool :: ss, .bool a :: xs, .bool b :: ys => (eqCells ss xs ys).map fun r => (a == b) && r
  | .int k :: ss, .int k1 a :: xs, .int k2 b :: ys => if k1 = k then if k2 = k then (eqCells ss xs ys).map fun r => (a == b) && r else none else none
  | .str :: ss, .str a :: xs, .str b :: ys => (eqCells ss xs ys).map fun r => (a.toList == b.toList) && r
  | _, _, _ => none

def intBin (op : BinOp) (k : IntKind) (a b : Int) : Option AVal :=
  match op with
  | .add => some (.int k (k.wrap (a + b)))
  | .sub => some (.int k (k.wrap (a - b)))
  | .mul => some (.int k (k.wrap (a * b)))
  | .quo => if b = 0 then none else some (.int k (k.wrap (a.tdiv b)))
  | .rem => if b = 0 then none else some (.int k (a.tmod b))
  | .and => some (.int k (k.wrap (BitVec.ofInt k.bits a &&& BitVec.ofInt k.bits b).toNat))
  | .or => some (.int k (k.wrap (BitVec.ofInt k.bits a ||| BitVec.ofInt k.bits b).toNat))
  | .xor => some (.int k (k.wrap (BitVec.ofInt k.bits a ^^^ BitVec.ofInt k.bits b).toNat))
  | .andNot => some (.int k (k.wrap (BitVec.ofInt k.bits a &&& ~~~(BitVec.ofInt k.bits b)).toNat))
  | .eql => some (.bool (a == b))
  | .neq => some (.bool (a != b))
  | .lss => some (.bool (decide (a < b)))
  | .leq => some (.bool (decide (a ≤ b)))
  | .gtr => some (.bool (decide (a > b)))
  | .geq => some (.bool (decide (a ≥ b)))
  | _ => none

def strBin (op : BinOp) (x y : ByteArray) : Option AVal :=
  match op with
  | .add => if x.size + y.size ≤ 9223372036854775807 then some (.str (x ++ y)) else none
  | .eql => some (.bool (x.toList == y.toList))
  | .neq => some (.bool (!(x.toList == y.toList)))
  | .lss => some (.bool (Op.bytesLess x.toList y.toList))
  | .leq => some (.bool (Op.bytesLess x.toList y.toList || x.toList == y.toList))
  | .gtr => some (.bool (!(Op.bytesLess x.toList y.toList || x.toList == y.toList)))
  | .geq => some (.bool (!(Op.bytesLess x.toList y.toList)))
  | _ => none

def isNilBin (op : BinOp) (b : Bool) : Option AVal := match op with | .eql => some (.bool b) | .neq => some (.bool (!b)) | _ => none
def binC (op : BinOp) (i : Option TI) (q : Bool) (x y : AVal) : Option AVal :=
  match x, y with
  | .int k a, .int k' b =>
    match op with
    | .shl => if b < 0 then none else some (.int k (k.wrap (a * 2 ^ (min b.toNat k.bits))))
    | .shr => if b < 0 then none else some (.int k (a.fdiv (2 ^ (min b.toNat k.bits))))
    | _ => if k = k' then intBin op k a b else none
  | .str a, .str b => strBin op a b
  | .bool a, .bool b => i.bind fun i => match i.agg, i.shape with | false, [.bool] => isNilBin op (a == b) | _, _ => none
  | .agg xs, .agg ys => match q with
    | true => i.bind fun i => match i.agg with | true => (eqCells i.shape xs ys).bind fun r => isNilBin op r | false => none
    | false => none
  | .slice b _ _ _, .slice none _ _ _ => i.bind fun i => match i.kind with | .slice _ => isNilBin op b.isNone | _ => none
  | .ptr p, .ptr none => i.bind fun i => match i.agg, i.shape with | false, [.ptr] => isNilBin op p.isNone | _, _ => none
  | _, _ => none

/-- .. and what follows. -/
def binK {R : Type} (op : BinOp) (i : Option TI) (q : Bool) (x y : AVal) (k : AVal → Option R) : Option R :=
  match x, y with
  | .int kd a, .int kd' b =>
    match op with
    | .shl => if b < 0 then none else k (.int kd (kd.wrap (a * 2 ^ (min b.toNat kd.bits))))
    | .shr => if b < 0 then none else k (.int kd (a.fdiv (2 ^ (min b.toNat kd.bits))))
    | .quo => if kd = kd' then (if b = 0 then none else k (.int kd (kd.wrap (a.tdiv b)))) else none
    | .rem => if kd = kd' then (if b = 0 then none else k (.int kd (a.tmod b))) else none
    | _ => (binC op i q (.int kd a) (.int kd' b)).bind k
  | .str a, .str b =>
    match op with
    | .add => if a.size + b.size ≤ 9223372036854775807 then k (.str (a ++ b)) else none
    | _ => (binC op i q (.str a) (.str b)).bind k
  | x, y => (binC op i q x y).bind k
theorem binK_eq {R : Type} (op : BinOp) (i : Option TI) (q : Bool) (x y : AVal) (k : AVal → Option R) : binK op i q x y k = (binC op i q x y).bind k := by
  unfold binK
  split
  · split
    · simp only [binC]; split <;> rfl
    · simp only [binC]; split <;> rfl
    · simp only [binC, intBin]; split
      · split <;> rfl
      · rfl
    · simp only [binC, intBin]; split
      · split <;> rfl
      · rfl
    · rfl
  · split
    · simp only [binC, strBin]; split <;> rfl
    · rfl
  · rfl

def unC (op : UnOp) (x : AVal) : Option AVal :=
  match op, x with
  | .not, .bool b => some (.bool (!b))
  | .neg, .int k n => some (.int k (k.wrap (0 - n)))
  | .xor, .int k n => some (.int k (k.wrap (BitVec.ofInt k.bits (if k.signed then -1 else k.max) ^^^ BitVec.ofInt k.bits n).toNat))
  | _, _ => none

def pickC (c a b : AVal) : Option AVal :=
  match c with
  | .bool true => some a
  | .bool false => some b
  | _ => none
def pickB (c : AVal) (a b : AVal) (k : AVal → Option R) : Option R :=
  match c with
  | .bool c => match a, b with
    | .bool x, .bool y => k (.bool (bif c then x else y))
    | .int k1 x, .int k2 y => if k1 = k2 then k (.int k1 (bif c then x else y)) else none
    | a, b => bif c then k a else k b
  | _ => none

def fillC (place : Nat → Option (Nat × Nat)) (cells : List AVal) : List (Nat × AVal) → Option (List AVal)
  | [] => some cells
  | (i, v) :: rest =>
    match place i with
    | none => none
    | some (off, size) => if v.cells.length = size then (if off + size ≤ cells.length then fillC place (overwrite cells off v.cells) rest else none) else none

/-- The cells of a row of bytes, of runes, as a string. -/
def bytesOf : List AVal → Option (List UInt8)
  | [] => some []
  | .int .u8 n :: r => (bytesOf r).map fun l => UInt8.ofNat n.toNat :: l
  | _ => none

def cellAll : List AVal → Bool
  | [] => true
  | c :: cs => c.isCell && cellAll cs

/-- A part of a literal has cells that are told. -/
def partsOk (T : Tab) (e : Env) (parts : Array (Nat × Operand)) : Bool := parts.toList.all fun p => cellAll (ev T e p.2).cells

/-- The runes of a text. -/
def runesA (s : ByteArray) : Nat → Nat → List Int
  | 0, _ => []
  | n + 1, i => if i < s.size then (Int.ofNat (Utf8.decode s i).1) :: runesA s n (i + (Utf8.decode s i).2) else []
def runesIn : List AVal → Option (List Int)
  | [] => some []
  | .int .i32 n :: r => (runesIn r).map fun l => n :: l
  | _ => none
def encodeAll (rs : List Int) : ByteArray := rs.foldl (fun r n => r ++ Utf8.encode n) ByteArray.empty

def convC (T : Tab) (si di : TI) (x : AVal) (l : Locs) (σ : Heap) (k : AVal → Locs → Heap → Option R) : Option R :=
  match di.agg, di.shape, x with
  | false, [.int kd], .int _ n => k (.int kd (kd.wrap n)) l σ
  | false, [.str], .int _ n => k (.str (Utf8.encode n)) l σ
  | false, [.str], .str s => k (.str s) l σ
  | false, [.str], .slice b o n _ => match si.kind with
    | .slice et => (T.ti et).bind fun ie => match ie.agg, ie.shape with
      | false, [.int .u8] => (σ.read b o n 1).bind fun cs => (bytesOf cs).bind fun bs => k (.str ⟨bs.toArray⟩) l σ
      | false, [.int .i32] => (σ.read b o n 1).bind fun cs => (runesIn cs).bind fun rs => k (.str (encodeAll rs)) l σ
      | _, _ => none
    | _ => none
  | false, [.slice _], .str s => match di.kind with
    | .slice et => (T.ti et).bind fun ie => match ie.agg, ie.shape with
      | false, [.int .u8] => match decide (s.size ≤ 70368744177664) with
        | true => k (.slice (some σ.length) 0 s.size 1) l (σ ++ [.row (s.data.toList.map fun b => .int .u8 b.toNat) .rw])
        | false => none
      | false, [.int .i32] => match decide (s.size ≤ 70368744177664) with
        | true => k (.slice (some σ.length) 0 (runesA s s.size 0).length 1) l (σ ++ [.row ((runesA s s.size 0).map fun n => .int .i32 n) .rw])
        | false => none
      | _, _ => none
    | _ => none
  | _, _, _ => none

/-- What a builtin appends, copies: cells, and how many elements they are. -/
def srcC (xi ie : TI) (x : AVal) (m : Nat) (l : Locs) (σ : Heap) : Option (List AVal) :=
  match x with
  | .slice b o _ z => match xi.kind, decide (z = ie.size ∨ b = none) with
    | .slice _, true => σ.read b o m ie.size
    | _, _ => none
  | .lslice s n z => match xi.kind, (l[s]?).bind LBlk.cells?, decide (z = ie.size) && decide (m ≤ n) with
    | .slice _, some cs, true => if cs.length = n * ie.size then some (cs.take (m * ie.size)) else none
    | _, _, _ => none
  | .str s => match xi.agg, xi.shape, ie.agg, ie.shape with
    | false, [.str], false, [.int .u8] => some ((s.data.toList.map fun b => .int .u8 b.toNat).take m)
    | _, _, _, _ => none
  | _ => none
def srcLen : AVal → Option Nat
  | .slice _ _ n _ => some n
  | .lslice _ n _ => some n
  | .str s => some s.size
  | _ => none

def builtinC (T : Tab) (b : Builtin) (ts : List TypeId) (vs : List AVal) (l : Locs) (σ : Heap) (k : AVal → Locs → Heap → Option R) : Option R :=
  match b, ts, vs with
  | .len, [t], [x] => (T.ti t).bind fun i => match x with
    | .slice _ _ n _ => match i.kind with | .slice _ => k (.int .i64 n) l σ | _ => none
    | .lslice _ n _ => match i.kind with | .slice _ => k (.int .i64 n) l σ | _ => none
    | .str s => match i.agg, i.shape with | false, [.str] => k (.int .i64 s.size) l σ | _, _ => none
    | _ => none
  | .append, [t, xt], [.slice b o n z, x] => (T.ti t).bind fun i => (T.ti xt).bind fun xi => match i.kind with
    | .slice et => (T.ti et).bind fun ie => match decide (z = ie.size ∨ b = none) with
      | true => (srcLen x).bind fun m => (srcC xi ie x m l σ).bind fun vs => (σ.append b o n ie.size ie.bytes vs m).bind fun q => k (.slice q.1.1 q.1.2.1 q.1.2.2 ie.size) l q.2
      | false => none
    | _ => none
  | .copy, [t, xt], [.slice b o n z, x] => (T.ti t).bind fun i => (T.ti xt).bind fun xi => match i.kind with
    | .slice et => (T.ti et).bind fun ie => match decide (z = ie.size ∨ b = none) with
      | true => (srcLen x).bind fun m => (srcC xi ie x (min m n) l σ).bind fun vs => match b with
        | none => k (.int .i64 ((min m n : Nat) : Int)) l σ
        | some b => (σ.store b o vs).bind fun σ' => k (.int .i64 ((min m n : Nat) : Int)) l σ'
      | false => none
    | _ => none
  | .max, _, [.int kd a, .int kd' b] => if kd = kd' then k (.int kd (if b > a then b else a)) l σ else none
  | .min, _, [.int kd a, .int kd' b] => if kd = kd' then k (.int kd (if b < a then b else a)) l σ else none
  | _, _, _ => none

/-- A nil slice that was told without its elements' size has that of its type. -/
def fixV (T : Tab) (t : TypeId) (v : AVal) : AVal :=
  match v with
  | .slice b o n 0 => match b with
    | none => match T.ti t with
      | some i => match i.shape with
        | [.slice z] => .slice none o n z
        | _ => .slice none o n 0
      | none => .slice none o n 0
    | some b => .slice (some b) o n 0
  | v => v

/-- What an operation that isn't a call of a Go function does. -/
def opC (T : Tab) (f : FuncId) (dst : Option Nat) (type : TypeId) (op : Op) (e : Env) (l : Locs) (σ : Heap) (k : AVal → Locs → Heap → Option R) : Option R :=
  match op with
  | .move x => k (fixV T type (ev T e x)) l σ
  | .assign x => k (fixV T type (ev T e x)) l σ
  | .pick c a b => pickB (ev T e c) (ev T e a) (ev T e b) fun v => k v l σ
  | .alloc t => (T.ti t).bind fun i =>
      match dst with
      | some d => match T.loc f d with
        | true => match l[d]? with
          | some .none => k (.lptr d 0) (l.set d (.cells i.zeros)) σ
          | _ => none
        | false => k (.ptr (some (σ.length, 0))) l (σ ++ [.row i.zeros .rw])
      | none => none
  | .box t x => (T.ti t).bind fun _ =>
      match cellAll (ev T e x).cells with
      | true => match dst with
        | some d => match T.loc f d with
          | true => match l[d]? with
            | some .none => k (.lptr d 0) (l.set d (.cells (ev T e x).cells)) σ
            | _ => none
          | false => k (.ptr (some (σ.length, 0))) l (σ ++ [.row (ev T e x).cells .rw])
        | none => none
      | false => none
  | .build t parts => (T.ti t).bind fun i =>
      match partsOk T e parts with
      | true => match i.kind with
        | .struct fs => (fillC (fun j => (fs[j]?).bind fun p => (T.ti p.2).map fun i => (p.1, i.size)) i.zeros (parts.toList.map fun p => (p.1, ev T e p.2))).bind fun cs => k (.agg cs) l σ
        | .array _ et => (T.ti et).bind fun ie => (fillC (fun j => some (j * ie.size, ie.size)) i.zeros (parts.toList.map fun p => (p.1, ev T e p.2))).bind fun cs => k (.agg cs) l σ
        | _ => none
      | false => none
  | .buildSlice t len parts => (T.ti t).bind fun i =>
      match partsOk T e parts with
      | true => match i.kind with
        | .slice et => (T.ti et).bind fun ie =>
            (fillC (fun j => some (j * ie.size, ie.size)) ((List.replicate len ie.zeros).flatten) (parts.toList.map fun p => (p.1, ev T e p.2))).bind fun cs =>
              match decide (len * ie.size ≤ 16777216) && decide (len ≤ 16777216) with
              | true => match dst with
                | some d => match T.loc f d with
                  | true => match l[d]? with
                    | some .none => k (.lslice d len ie.size) (l.set d (.cells cs)) σ
                    | _ => none
                  | false => k (.slice (some σ.length) 0 len ie.size) l (σ ++ [.row cs .rw])
                | none => none
              | false => none
        | _ => none
      | false => none
  | .load t a => (T.ti t).bind fun i =>
      match ev T e a with
      | .ptr p => p.bind fun q => fetches i.shape (fun j => σ.cell? q.1 (q.2 + j)) 0 fun vs => k (i.val vs) l σ
      | .lptr s o => match (l[s]?).bind LBlk.cells? with
        | some cs => fetches i.shape (fun j => cs[o + j]?) 0 fun vs => k (i.val vs) l σ
        | _ => none
      | _ => none
  | .store t a x => (T.ti t).bind fun i =>
      match cellAll (ev T e x).cells && decide ((ev T e x).cells.length = i.size) with
      | true => match ev T e a with
        | .ptr p => p.bind fun q => (σ.store q.1 q.2 (ev T e x).cells).bind fun σ' => k .void l σ'
        | .lptr s o => match l[s]? with
          | some (.cells cs) => match decide (o + i.size ≤ cs.length) with
            | true => k .void (l.set s (.cells (overwrite cs o (ev T e x).cells))) σ
            | false => none
          | _ => none
        | _ => none
      | false => none
  | .nilCheck x => match ev T e x with
      | .ptr p => p.bind fun q => k (.ptr (some q)) l σ
      | .lptr s o => k (.lptr s o) l σ
      | .func (.func g) cs => k (.func (.func g) cs) l σ
      | _ => none
  | .binOp op t x y _ => binK op (T.ti t) (T.eq t) (ev T e x) (ev T e y) fun v => k v l σ
  | .unOp op _ x => (unC op (ev T e x)).bind fun v => k v l σ
  | .convert src dst' x => (T.ti src).bind fun si => (T.ti dst').bind fun di => convC T si di (ev T e x) l σ k
  | .slice t x lo hi mx => (T.ti t).bind fun i =>
      match ev T e x, mx with
      | .str s, none => match i.agg, i.shape with
        | false, [.str] =>
          (match hi with | some y => int? (some (ev T e y)) .i64 | none => some (s.size : Int)).bind fun h =>
          (match lo with | some y => int? (some (ev T e y)) .i64 | none => some 0).bind fun w =>
          match decide (0 ≤ w) && decide (w ≤ h) && decide (h ≤ s.size) with
            | true => k (.str (s.extract w.toNat h.toNat)) l σ
            | false => none
        | _, _ => none
      | .slice b o n z, none => match i.kind with
        | .slice et => (T.ti et).bind fun ie =>
          (match hi with | some y => int? (some (ev T e y)) .i64 | none => some (n : Int)).bind fun h =>
          (match lo with | some y => int? (some (ev T e y)) .i64 | none => some 0).bind fun w =>
          match decide (z = ie.size) with
          | true => match decide (0 ≤ w) && decide (w ≤ h) && decide (h ≤ n) with
            | true => k (.slice b (o + w.toNat * z) (h.toNat - w.toNat) z) l σ
            | false => none
          | false => none
        | _ => none
      | .slice b o n z, some m => match i.kind with
        | .slice et => (T.ti et).bind fun ie =>
          (match hi with | some y => int? (some (ev T e y)) .i64 | none => none).bind fun h =>
          (match lo with | some y => int? (some (ev T e y)) .i64 | none => some 0).bind fun w =>
          (int? (some (ev T e m)) .i64).bind fun m =>
          match decide (z = ie.size) with
          | true => match decide (0 ≤ w) && decide (w ≤ h) && decide (h ≤ m) && decide (m ≤ n) with
            | true => k (.slice b (o + w.toNat * z) (h.toNat - w.toNat) z) l σ
            | false => none
          | false => none
        | _ => none
      | _, _ => none
  | .fieldAddr s x fd => (T.ti s).bind fun i =>
      match i.kind with
      | .struct fs => (fs[fd]?).bind fun p => match ev T e x with
        | .ptr q => q.bind fun q => k (.ptr (some (q.1, q.2 + p.1))) l σ
        | .lptr t o => k (.lptr t (o + p.1)) l σ
        | _ => none
      | _ => none
  | .field s x fd => (T.ti s).bind fun i =>
      match i.kind with
      | .struct fs => (fs[fd]?).bind fun p => (T.ti p.2).bind fun fi => match ev T e x with
        | .agg cs => fetches fi.shape (fun j => cs[p.1 + j]?) 0 fun vs => k (fi.val vs) l σ
        | _ => none
      | _ => none
  | .indexAddr t x ix => (T.ti t).bind fun i =>
      match i.kind, ev T e x, int? (some (ev T e ix)) .i64 with
      | .slice et, .slice b o n z, some j => (T.ti et).bind fun ie => match decide (z = ie.size) with
        | true => match decide (0 ≤ j) && decide (j < n) with
          | true => b.bind fun b => k (.ptr (some (b, o + j.toNat * z))) l σ
          | false => none
        | false => none
      | .array n et, .ptr p, some j => (T.ti et).bind fun ie => match decide (0 ≤ j) && decide (j < n) with
        | true => p.bind fun q => k (.ptr (some (q.1, q.2 + j.toNat * ie.size))) l σ
        | false => none
      | .array n et, .lptr s o, some j => (T.ti et).bind fun ie => match decide (0 ≤ j) && decide (j < n) with
        | true => k (.lptr s (o + j.toNat * ie.size)) l σ
        | false => none
      | _, _, _ => none
  | .index t x ix => (T.ti t).bind fun i =>
      match ev T e x, int? (some (ev T e ix)) .i64 with
      | .str s, some j => match i.agg, i.shape with
        | false, [.str] => match decide (0 ≤ j) && decide (j < s.size) with
          | true => k (.int .u8 ((s.data.toList.getD j.toNat 0).toNat : Int)) l σ
          | false => none
        | _, _ => none
      | .agg cs, some j => match i.kind with
        | .array n et => (T.ti et).bind fun ie => match decide (0 ≤ j) && decide (j < n) with
          | true => fetches ie.shape (fun m => cs[j.toNat * ie.size + m]?) 0 fun vs => k (ie.val vs) l σ
          | false => none
        | _ => none
      | _, _ => none
  | .extract t ix => match ev T e t with
      | .tuple vs => (vs[ix]?).bind fun v => k v l σ
      | _ => none
  | .makeSlice t n c => (T.ti t).bind fun i =>
      match i.kind, int? (some (ev T e n)) .i64, int? (some (ev T e c)) .i64 with
      | .slice et, some n, some c => (T.ti et).bind fun ie =>
          match decide (0 ≤ n) && decide (n ≤ c) && decide (ie.bytes * c ≤ 70368744177664) && decide (c ≤ 70368744177664) with
          | true => k (.slice (some σ.length) 0 n.toNat ie.size) l (σ ++ [.row ((List.replicate c.toNat ie.zeros).flatten) .rw])
          | false => none
      | _, _, _ => none
  | .makeFunc fn first caps => match first.size with
      | 0 => k (.func fn (caps.toList.map (ev T e))) l σ
      | _ => none
  | .range t x => (T.ti t).bind fun i => match i.agg, i.shape, ev T e x with
      | false, [.str], .str s => match dst with
        | some d => match l[d]? with
          | some .none => k (.lptr d 0) (l.set d (.iter s 0)) σ
          | _ => none
        | none => none
      | _, _, _ => none
  | .next x isS => match isS, ev T e x with
      | true, .lptr t 0 => match l[t]? with
        | some (.iter s pos) =>
          bif decide (pos < s.size) then k (.tuple [.bool true, .int .i64 pos, .int .i32 (Utf8.decode s pos).1]) (l.set t (.iter s (pos + (Utf8.decode s pos).2))) σ
          else k (.tuple [.bool false]) l σ
        | _ => none
      | _, _ => none
  | .call c => match c.callee with
      | .builtin b => builtinC T b c.argTypes.toList (c.args.toList.map (ev T e)) l σ k
      | _ => none
  | _ => none

/-! ### Calls, regions, code -/
def castV (T : Tab) (t : TypeId) (v : AVal) (k : AVal → Option R) : Option R :=
  (T.ti t).bind fun i => match i.agg with
    | false => match i.shape with
      | [s] => s.fetch (some v) k
      | _ => none
    | true => match v with
      | .agg cs => match decide (cs.length = i.size) with
        | true => fetches i.shape (fun j => cs[j]?) 0 fun vs => k (.agg vs)
        | false => none
      | _ => none
def castVs (T : Tab) : List TypeId → List AVal → (List AVal → Option R) → Option R
  | [], [], k => k []
  | t :: ts, v :: vs, k => castV T t v fun v => castVs T ts vs fun vs => k (v :: vs)
  | _, _, _ => none

/-- What a call answers, told by its type. -/
def castR (T : Tab) (t : TypeId) (v : AVal) (k : AVal → Option R) : Option R :=
  match T.tup t with
  | none => castV T t v k
  | some ts => match v with
    | .tuple vs => castVs T ts vs fun vs => k (.tuple vs)
    | _ => none

abbrev CallF1 (R : Type) := List AVal → Heap → (AVal → Heap → Option R) → Option R
abbrev CallF (R : Type) := FuncId → CallF1 R

/-- All that is there can be read alone. -/
def Blk.frz : Blk → Blk
  | .row cs .rw => .row cs .ro
  | .map _ => .row [] .dead
  | b => b
def Heap.frz (σ : Heap) : Heap := σ.map Blk.frz
/-- What was there as it was, and what has come. -/
def Heap.back (σ σ' : Heap) : Heap := σ ++ σ'.drop σ.length
def LBlk.frz : LBlk → LBlk
  | .cells cs => .fcells cs
  | .iter s p => .fiter s p
  | b => b
def Locs.frz (l : Locs) : Locs := l.map LBlk.frz
def Locs.back : Locs → Locs → Locs
  | [], ys => ys
  | x :: xs, [] => x :: xs
  | x :: xs, y :: ys => (match x with | .none => y | x => x) :: Locs.back xs ys

def stepC (T : Tab) (f : FuncId) (callF : CallF R) (o : Oper) (e : Env) (l : Locs) (σ : Heap) (k : AVal → Locs → Heap → Option R) : Option R :=
  match o.op with
  | .call { callee := .value x, args, .. } => match ev T e x with
    | .func (.func g) caps => match noLocs (args.toList.map (ev T e) ++ caps) with
      | true => callF g (args.toList.map (ev T e) ++ caps) σ fun v σ' => castR T o.type v fun v => k v l σ'
      | false => none
    | _ => none
  | op => opC T f o.dst o.type op e l σ k

/-- An operation that makes no memory and changes none. -/
def still (T : Tab) : Op → Bool
  | .move _ | .assign _ | .pick _ _ _ | .build _ _ | .load _ _ | .nilCheck _ | .binOp _ _ _ _ _ | .unOp _ _ _ | .slice _ _ _ _ _ | .fieldAddr _ _ _ | .field _ _ _ | .indexAddr _ _ _ | .index _ _ _ | .extract _ _ | .makeFunc _ _ _ => true
  | .convert _ d _ => match T.ti d with
    | some di => match di.shape with
      | [.int _] => true
      | [.str] => true
      | _ => false
    | none => false
  | .call c => match c.callee with
    | .builtin .len | .builtin .max | .builtin .min => true
    | _ => false
  | _ => false

/-- 'q': an operation whose order is the tape's: it leaves all memory that was there as it was. -/
def runC (T : Tab) (f : FuncId) (callF : CallF R) (q : Bool) (o : Oper) (e : Env) (l : Locs) (σ : Heap) (k : AVal → Locs → Heap → Option R) : Option R :=
  match q with
  | false => stepC T f callF o e l σ k
  | true => match still T o.op with
    | true => stepC T f callF o e l σ k
    | false => stepC T f callF o e l.frz σ.frz fun v l' σ' => k v (l.back l') (σ.back σ')

def opsC (T : Tab) (f : FuncId) (callF : CallF R) (all : Array Oper) : List Oper → List Bool → Env → Locs → Heap → (Env → Locs → Heap → Option R) → Option R
  | [], _, e, l, σ, k => k e l σ
  | o :: os, qs, e, l, σ, k =>
    match o.guard with
    | none => runC T f callF (qs.headD false) o e l σ fun v l σ => opsC T f callF all os qs.tail (put e o.dst v) l σ k
    | some (g, want) =>
      match (all[g]?).bind (·.dst) with
      | none => opsC T f callF all os qs.tail (put e o.dst .void) l σ k
      | some d =>
        match e.getD d .undef with
        | .bool b =>
          match want with
          | true => bif b then runC T f callF (qs.headD false) o (e.set d (.bool true)) l σ fun v l σ => opsC T f callF all os qs.tail (put (e.set d (.bool true)) o.dst v) l σ k
              else opsC T f callF all os qs.tail (put (e.set d (.bool false)) o.dst .void) l σ k
          | false => bif b then opsC T f callF all os qs.tail (put (e.set d (.bool true)) o.dst .void) l σ k
              else runC T f callF (qs.headD false) o (e.set d (.bool false)) l σ fun v l σ => opsC T f callF all os qs.tail (put (e.set d (.bool false)) o.dst v) l σ k
        | .void => opsC T f callF all os qs.tail (put e o.dst .void) l σ k
        | _ => none

inductive Ex where
  | normal
  | exit (id : Nat)
  | ret

def firstRegion : Code → Nat
  | .region id _ _ => id
  | .seq a _ => firstRegion a
  | .block _ c => firstRegion c
  | .loop c => firstRegion c
  | _ => 0

def maskE : List Nat → Env → Env
  | [], e => e
  | t :: ts, e => maskE ts (e.set t .undef)
def maskL (e : Env) : List Nat → Locs → Locs
  | [], l => l
  | t :: ts, l => maskL e ts (match hasTs t e with | true => l | false => l.set t .none)

abbrev Cont (R : Type) := Ex → Env → Locs → Heap → Option R

def iterC (m : List Nat) (body : Env → Locs → Heap → Cont R → Option R) : Nat → Env → Locs → Heap → Cont R → Option R
  | 0, _, _, _, _ => none
  | n + 1, e, l, σ, K => body e l σ fun x e l σ =>
      match x with
      | .normal => iterC m body n (maskE m e) (maskL (maskE m e) m l) σ K
      | x => K x e l σ

def codeC (T : Tab) (n : Nat) (f : FuncId) (callF : CallF R) : Code → Env → Locs → Heap → Cont R → Option R
  | .skip, e, l, σ, K => K .normal e l σ
  | .region id ops draw, e, l, σ, K => opsC T f callF ops ops.toList (match draw with | true => T.quiet f id | false => []) e l σ fun e l σ => K .normal e l σ
  | .seq a b, e, l, σ, K => codeC T n f callF a e l σ fun x e l σ =>
      match x with
      | .normal => codeC T n f callF b (maskE (T.join f (firstRegion b)) e) (maskL (maskE (T.join f (firstRegion b)) e) (T.join f (firstRegion b)) l) σ K
      | x => K x e l σ
  | .cond c a b, e, l, σ, K =>
      match ev T e c with
      | .bool t => bif t then codeC T n f callF a e l σ K else codeC T n f callF b e l σ K
      | _ => none
  | .block id c, e, l, σ, K => codeC T n f callF c e l σ fun x e l σ =>
      match x with
      | .exit id' => if id' = id then K .normal e l σ else K (.exit id') e l σ
      | x => K x e l σ
  | .loop c, e, l, σ, K => iterC (T.mask f (firstRegion c)) (codeC T n f callF c) n (maskE (T.mask f (firstRegion c)) e) (maskL (maskE (T.mask f (firstRegion c)) e) (T.mask f (firstRegion c)) l) σ K
  | .exit id, e, l, σ, K => K (.exit id) e l σ
  | .ret, e, l, σ, K => K .ret e l σ
  | _, _, _, _, _ => none

def resultC (T : Tab) (e : Env) (l : Locs) (σ : Heap) : ResultVar → (AVal → Option R) → Option R
  | .tmp t, k => match (e.getD t .undef).noLoc with
    | true => k (e.getD t .undef)
    | false => none
  | .cell a t, k => (T.ti t).bind fun i =>
      match e.getD a .undef with
      | .ptr p => p.bind fun q => fetches i.shape (fun j => σ.cell? q.1 (q.2 + j)) 0 fun vs => k (i.val vs)
      | .lptr s o => match (l[s]?).bind LBlk.cells? with
        | some cs => fetches i.shape (fun j => cs[o + j]?) 0 fun vs => k (i.val vs)
        | _ => none
      | _ => none
def resultsC (T : Tab) (e : Env) (l : Locs) (σ : Heap) : List ResultVar → (List AVal → Option R) → Option R
  | [], k => k []
  | r :: rs, k => resultC T e l σ r fun v => resultsC T e l σ rs fun vs => k (v :: vs)

/-- What is known of functions already: what a call of it does. -/
def Known := FuncId → Option (∀ R : Type, CallF1 R)

def callC {R : Type} (T : Tab) (O : Known) (L : Nat) : Nat → CallF R
  | 0, _, _, _, _ => none
  | n + 1, f, args, σ, K =>
    match O f with
    | some g => g R args σ K
    | none =>
    match T.fn f with
    | none => none
    | some fn =>
      match fn.body with
      | none => none
      | some c =>
        codeC T L f (callC T O L n) c (args ++ List.replicate (fn.ntmps - args.length) .undef) (List.replicate fn.ntmps .none) σ fun x e l σ' =>
          match x with
          | .exit _ => none
          | _ => resultsC T e l σ' fn.results.toList fun vs =>
              match vs with
              | [v] => K v σ'
              | vs => K (.tuple vs) σ'

end Go.Abs
