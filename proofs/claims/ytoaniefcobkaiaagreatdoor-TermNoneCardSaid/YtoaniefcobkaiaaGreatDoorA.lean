/- Proved here, with the other texts of this claim: the law TermNone of package marqueelaw18 answers true for every input, and each argument reads behind the call as before; without any condition. These texts hold an evaluator of the program's code over memories of which a part is known, its soundness, and the walks of the functions that the law calls. -/
import GoSem.Dispatch
import GoSem.Machine.Frame
import Derived.Calls
import Derived.Laws.Sem
import Derived.Laws.World
import Derived.Laws.Cells
import Derived.Laws.StructEq
import Derived.DeepKeys
import Derived.Laws.BytesArg
import Derived.Laws.BytesString
import Derived.Laws.MakeOwn
import Derived.Laws.Append
section
/- An evaluator of the model's code in an abstract memory: no tape, blocks named by birth, append by a fresh block. -/
namespace Go.Ev
noncomputable section

/-! tries keyed by numbers -/
inductive Tr (α : Type) where
  | leaf
  | node (l : Tr α) (v : Option α) (r : Tr α)
namespace Tr
variable {α : Type}
def get (t : Tr α) : Nat → Option α :=
  Tr.rec (motive := fun _ => Nat → Option α) (fun _ => none)
    (fun _ v _ gl gr n => Nat.rec (motive := fun _ => Option α) v
      (fun _ _ => Bool.rec (motive := fun _ => Option α) (gr (Nat.sub (Nat.div n 2) 1)) (gl (Nat.div n 2)) (Nat.beq (Nat.mod n 2) 1)) n) t
def setTop (x : Option α) (t : Tr α) : Tr α :=
  Tr.rec (motive := fun _ => Tr α) (.node .leaf x .leaf) (fun l _ r _ _ => .node l x r) t
def putF (x : Option α) (f : Nat) : Tr α → Nat → Tr α :=
  Nat.rec (motive := fun _ => Tr α → Nat → Tr α) (fun t _ => setTop x t)
    (fun _ ih t n => Nat.rec (motive := fun _ => Tr α) (setTop x t)
      (fun _ _ => Tr.rec (motive := fun _ => Tr α)
        (Bool.rec (motive := fun _ => Tr α) (.node .leaf none (ih .leaf (Nat.sub (Nat.div n 2) 1))) (.node (ih .leaf (Nat.div n 2)) none .leaf) (Nat.beq (Nat.mod n 2) 1))
        (fun l v r _ _ => Bool.rec (motive := fun _ => Tr α) (.node l v (ih r (Nat.sub (Nat.div n 2) 1))) (.node (ih l (Nat.div n 2)) v r) (Nat.beq (Nat.mod n 2) 1)) t) n) f
def put (t : Tr α) (n : Nat) (x : Option α) : Tr α := putF x n t n
def fill : List α → Nat → Tr α → Tr α
  | [], _, t => t
  | x :: l, n, t => fill l (n + 1) (t.put n (some x))
end Tr

/-! what is known of a type -/
structure TI where
  desc : TypeDesc
  size : Nat
  bytes : Nat
  zero : Option Value
  agg : Bool
  eqOk : Bool

inductive AObj where
  | cells (c : List Value) (elem : TypeId) (fz : Nat) (str : Bool)
  | siter (s : ByteArray) (pos : Nat)
  | map (es : List MapEntry) (clock : Nat)
  | miter (map : Option Nat) (since : Nat) (seen : List Nat) (stepped : Nat)

structure AH where
  next : Nat
  tr : Tr AObj

def AH.get (h : AH) (b : Nat) : Option AObj := h.tr.get b
def AH.alloc (h : AH) (o : AObj) : AH := { next := h.next + 1, tr := h.tr.put h.next (some o) }
def AH.put (h : AH) (b : Nat) (o : Option AObj) : AH := { h with tr := h.tr.put b o }

def over : List Value → List Value → List Value
  | c, [] => c
  | [], _ => []
  | _ :: c, v :: vs => v :: over c vs
def setAt : List Value → Nat → List Value → List Value
  | c, 0, vs => over c vs
  | [], _, _ => []
  | x :: c, n + 1, vs => x :: setAt c n vs

/-- The cells from a place on: so many. -/
def AH.cellsAt (h : AH) (p : Addr) (n : Nat) : Option (List Value) :=
  match h.get p.block with
  | some (.cells c _ _ _) => match Nat.ble (p.off + n) c.length with
    | true => some ((c.drop p.off).take n)
    | false => none
  | _ => none

def AH.cell (h : AH) (p : Addr) : Option Value :=
  match h.get p.block with
  | some (.cells c _ _ _) => c[p.off]?
  | _ => none

/-- a slice's cells, that nobody may write: its cells, its length, an element's cells -/
abbrev immV (l : List Value) (n k : Nat) : Value := .func (.yield 0) ⟨l⟩ ⟨[.slice none n k]⟩
/-- where such cells begin -/
abbrev immP (l : List Value) : Value := .func (.yield 1) ⟨l⟩ ⟨[]⟩
/-- a value of which nothing is known -/
abbrev UNK : Value := .func (.yield 2) ⟨[]⟩ ⟨[]⟩
def leaf : Value → Bool
  | .agg _ | .tuple _ => false
  | .func (.yield n) _ _ => Nat.blt n 2
  | _ => true
def kn : Value → Bool
  | .func (.yield n) _ _ => Nat.blt n 2
  | _ => true

def AH.store (h : AH) (p : Addr) (vs : List Value) : Option AH :=
  match h.get p.block with
  | some (.cells c e fz s) => match Nat.ble (p.off + vs.length) c.length && Nat.ble fz p.off && vs.all leaf with
    | true => some (h.put p.block (some (.cells (setAt c p.off vs) e fz s)))
    | false => none
  | _ => none

/-! equality of values as data -/
mutual
def veq : Value → Value → Bool
  | .bool a, .bool b => a == b
  | .int j a, .int k b => decide (j = k) && decide (a = b)
  | .string a, .string b => decide (a = b)
  | .pointer a, .pointer b => decide (a = b)
  | .slice a n m, .slice b k l => decide (a = b) && Nat.beq n k && Nat.beq m l
  | .map a, .map b => decide (a = b)
  | .func f ⟨a⟩ ⟨b⟩, .func g ⟨c⟩ ⟨d⟩ => decide (f = g) && veqs a c && veqs b d
  | .nilFunc, .nilFunc => true
  | .iface t v, .iface u w => Nat.beq t u && veq v w
  | .nilIface, .nilIface => true
  | .agg ⟨a⟩, .agg ⟨b⟩ => veqs a b
  | .tuple ⟨a⟩, .tuple ⟨b⟩ => veqs a b
  | _, _ => false
def veqs : List Value → List Value → Bool
  | [], [] => true
  | a :: l, b :: m => veq a b && veqs l m
  | _, _ => false
end

/-! every block that a value names is an elder one -/
mutual
def vb (n : Nat) : Value → Bool
  | .pointer (some a) => Nat.blt a.block n
  | .slice (some a) _ _ => Nat.blt a.block n
  | .map (some r) => Nat.blt r n
  | .func (.yield _) _ _ => true
  | .func _ ⟨a⟩ ⟨b⟩ => vbs n a && vbs n b
  | .iface _ v => vb n v
  | .agg ⟨a⟩ => vbs n a
  | .tuple ⟨a⟩ => vbs n a
  | _ => true
def vbs (n : Nat) : List Value → Bool
  | [] => true
  | a :: l => vb n a && vbs n l
end

structure Env where
  ti : TypeId → Option TI
  fn : FuncId → Option Func
  intr : FuncId → Option (List Value → AH → Option (Value × AH))

/-- What an operation comes to. -/
inductive AR where
  | pur (v : Value)
  | read (v : Value)
  | new (v : Value) (o : AObj)
  | eff (v : Value) (h : AH)
  | call (f : FuncId) (args : List Value)

def ev (tm : Tr Value) : Operand → Value
  | .tmp t => match tm.get t with
    | some v => v
    | none => UNK
  | .const v => v
  | .global g => .pointer (some ⟨g, 0, none⟩)
  | .func f => .func (.func f) #[] #[]

def cellsOf : Value → List Value
  | .agg cs => cs.toList
  | v => [v]

def zeros (z : Value) : Nat → List Value
  | 0 => []
  | n + 1 => cellsOf z ++ zeros z n

/-- parts laid into cells -/
def fillL (place : Nat → Option (Nat × Nat)) : List (Nat × Value) → List Value → Option (List Value)
  | [], cells => some cells
  | (i, v) :: rest, cells =>
    match place i with
    | none => none
    | some (off, size) => match kn v && Nat.beq (cellsOf v).length size && Nat.ble (off + (cellsOf v).length) cells.length with
      | true => fillL place rest (setAt cells off (cellsOf v))
      | false => none

section ops
variable (E : Env)

def partOf (t : TypeId) (cs : List Value) (off : Nat) : Option Value :=
  match E.ti t with
  | some i => match i.agg with
    | true => match Nat.ble (off + i.size) cs.length with
      | true => some (.agg ⟨(cs.drop off).take i.size⟩)
      | false => none
    | false => cs[off]?
  | none => none

def aload (t : TypeId) (h : AH) (p : Addr) : Option Value :=
  match E.ti t with
  | some i => match i.agg with
    | true => match h.cellsAt p i.size with
      | some cs => some (.agg ⟨cs⟩)
      | none => none
    | false => h.cell p
  | none => none

/-- the same out of cells that are at hand -/
def iload (t : TypeId) (l : List Value) : Option Value :=
  match E.ti t with
  | some i => match i.agg with
    | true => match Nat.ble i.size l.length with
      | true => some (.agg ⟨l.take i.size⟩)
      | false => none
    | false => l[0]?
  | none => none

def astore (t : TypeId) (h : AH) (p : Addr) (v : Value) : Option AH :=
  match E.ti t with
  | some i => match kn v && Nat.beq (cellsOf v).length i.size with
    | true => h.store p (cellsOf v)
    | false => none
  | none => none

/-- equality of two values at a type -/
def eqFields (rec : TypeId → Value → Value → Option Bool) : List Field → List Value → List Value → Option Bool
  | [], _, _ => some true
  | f :: fs, xs, ys => match decide (f.name = "_") with
    | true => eqFields rec fs xs ys
    | false => match partOf E f.type xs f.offset, partOf E f.type ys f.offset with
      | some a, some b => match rec f.type a b with
        | some true => eqFields rec fs xs ys
        | some false => some false
        | none => none
      | _, _ => none
def eqElems (rec : TypeId → Value → Value → Option Bool) (e : TypeId) (size : Nat) : Nat → Nat → List Value → List Value → Option Bool
  | 0, _, _, _ => some true
  | n + 1, i, xs, ys => match partOf E e xs (i * size), partOf E e ys (i * size) with
    | some a, some b => match rec e a b with
      | some true => eqElems rec e size n (i + 1) xs ys
      | some false => some false
      | none => none
    | _, _ => none

def aeq : Nat → TypeId → Value → Value → Option Bool
  | 0, _, _, _ => none
  | d + 1, t, x, y => match E.ti t with
    | none => none
    | some i => match i.desc, x, y with
      | .bool, .bool a, .bool b => some (a == b)
      | .int _, .int k a, .int k' b => match decide (k = k') with
        | true => some (a == b)
        | false => none
      | .string, .string a, .string b => some (a == b)
      | .pointer _, .pointer none, .pointer b => some b.isNone
      | .pointer _, .pointer (some _), .pointer none => some false
      | .struct fs, .agg xs, .agg ys => match i.eqOk with
        | true => eqFields E (aeq d) fs.toList xs.toList ys.toList
        | false => none
      | .array n e, .agg xs, .agg ys => match i.eqOk, E.ti e with
        | true, some ie => eqElems E (aeq d) e ie.size n 0 xs.toList ys.toList
        | _, _ => none
      | .slice _, .slice none _ _, .slice b _ _ => some b.isNone
      | .slice _, .slice (some _) _ _, .slice none _ _ => some false
      | .map _ _, .map none, .map b => some b.isNone
      | .map _ _, .map (some _), .map none => some false
      | .func _ _ _, .nilFunc, .nilFunc => some true
      | .func _ _ _, .nilFunc, .func (.func _) _ _ => some false
      | .func _ _ _, .func (.func _) _ _, .nilFunc => some false
      | .slice _, .slice none _ _, .func (.yield 0) ⟨_⟩ ⟨[.slice none n _]⟩ => match n with
        | 0 => none
        | _ + 1 => some false
      | .slice _, .func (.yield 0) ⟨_⟩ ⟨[.slice none n _]⟩, .slice none _ _ => match n with
        | 0 => none
        | _ + 1 => some false
      | .pointer _, .pointer none, .func (.yield 1) _ _ => some false
      | .pointer _, .func (.yield 1) _ _, .pointer none => some false
      | .interface _, .nilIface, .iface _ _ => some false
      | .interface _, .iface _ _, .nilIface => some false
      | _, _, _ => none

/-- operators; strings' sum wants the length to be an int -/
def shiftA (op : BinOp) (k : IntKind) (x y : Int) : Option Value :=
  match decide (y < 0) with
  | true => none
  | false => match op with
    | .shl => some (.int k (k.wrap (x * 2 ^ (min y.toNat k.bits))))
    | .shr => some (.int k (x.fdiv (2 ^ (min y.toNat k.bits))))
    | _ => none

def bitsA (op : BinOp) (k : IntKind) (x y : Int) : Option Value :=
  match op with
  | .and => some (.int k (k.wrap (BitVec.ofInt k.bits x &&& BitVec.ofInt k.bits y).toNat))
  | .or => some (.int k (k.wrap (BitVec.ofInt k.bits x ||| BitVec.ofInt k.bits y).toNat))
  | .xor => some (.int k (k.wrap (BitVec.ofInt k.bits x ^^^ BitVec.ofInt k.bits y).toNat))
  | .andNot => some (.int k (k.wrap (BitVec.ofInt k.bits x &&& ~~~BitVec.ofInt k.bits y).toNat))
  | _ => none

def intA (op : BinOp) (k : IntKind) (x y : Int) : Option Value :=
  match op with
  | .add => some (.int k (k.wrap (x + y)))
  | .sub => some (.int k (k.wrap (x - y)))
  | .mul => some (.int k (k.wrap (x * y)))
  | .quo => match decide (y = 0) with
    | true => none
    | false => some (.int k (k.wrap (x.tdiv y)))
  | .rem => match decide (y = 0) with
    | true => none
    | false => some (.int k (x.tmod y))
  | .and | .or | .xor | .andNot => bitsA op k x y
  | .eql => some (.bool (x == y))
  | .neq => some (.bool (x != y))
  | .lss => some (.bool (decide (x < y)))
  | .leq => some (.bool (decide (x ≤ y)))
  | .gtr => some (.bool (decide (x > y)))
  | .geq => some (.bool (decide (x ≥ y)))
  | _ => none

def strA (op : BinOp) (x y : ByteArray) : Option Value :=
  match op with
  | .add => match Nat.ble (x.size + y.size) 9223372036854775807 with
    | true => some (.string (x ++ y))
    | false => none
  | .eql => some (.bool (x.toList == y.toList))
  | .neq => some (.bool (!(x.toList == y.toList)))
  | .lss => some (.bool (Op.bytesLess x.toList y.toList))
  | .leq => some (.bool (Op.bytesLess x.toList y.toList || x.toList == y.toList))
  | .gtr => some (.bool (!(Op.bytesLess x.toList y.toList || x.toList == y.toList)))
  | .geq => some (.bool (!Op.bytesLess x.toList y.toList))
  | _ => none

def binA (op : BinOp) (t : TypeId) (x y : Value) : Option Value :=
  match x, y with
  | .int k a, .int yk b => match op with
    | .shl | .shr => shiftA op k a b
    | _ => match decide (k = yk) with
      | true => intA op k a b
      | false => none
  | .string a, .string b => strA op a b
  | x, y => match op with
    | .eql => match aeq E 100 t x y with
      | some b => some (.bool b)
      | none => none
    | .neq => match aeq E 100 t x y with
      | some b => some (.bool !b)
      | none => none
    | _ => none

/-- two nil interface values, one of which is the word nil -/
def nilsA (op : BinOp) (t : TypeId) (x y : Operand) (a b : Value) : Option Value :=
  match a, b with
  | .nilIface, .nilIface => match (match x with | .const _ => true | _ => false) || (match y with | .const _ => true | _ => false), E.ti t with
    | true, some i => match i.desc, op with
      | .interface _, .eql => some (.bool true)
      | .interface _, .neq => some (.bool false)
      | _, _ => none
    | _, _ => none
  | _, _ => none

def unA (op : UnOp) (x : Value) : Option Value :=
  match op, x with
  | .neg, .int k n => some (.int k (k.wrap (0 - n)))
  | .xor, .int k n => bitsA .xor k (if k.signed then -1 else k.max) n
  | .not, .bool b => some (.bool !b)
  | _, _ => none

def buildA (t : TypeId) (parts : List (Nat × Value)) : Option Value :=
  match E.ti t with
  | none => none
  | some i => match i.zero, i.desc with
    | some z, .struct fs =>
      match fillL (fun k => match fs.toList[k]? with
        | some f => match E.ti f.type with
          | some fi => some (f.offset, fi.size)
          | none => none
        | none => none) parts (cellsOf z) with
      | some cs => some (.agg ⟨cs⟩)
      | none => none
    | some z, .array _ e => match E.ti e with
      | some ei => match fillL (fun k => some (k * ei.size, ei.size)) parts (cellsOf z) with
        | some cs => some (.agg ⟨cs⟩)
        | none => none
      | none => none
    | _, _ => none

def buildSliceA (t : TypeId) (len : Nat) (parts : List (Nat × Value)) (next : Nat) : Option AR :=
  match E.ti t with
  | some i => match i.desc with
    | .slice e => match E.ti e with
      | some ei => match ei.zero, Nat.ble (len * ei.size) 16777216 && Nat.ble 1 ei.size with
        | some z, true => match fillL (fun k => some (k * ei.size, ei.size)) parts (zeros z len) with
          | some cs => some (.new (.slice (some ⟨next, 0, none⟩) len ei.size) (.cells cs e 0 false))
          | none => none
        | _, _ => none
      | none => none
    | _ => none
  | none => none

def addO (o n : Nat) : Nat := match o with
  | 0 => n
  | o + 1 => o + 1 + n
theorem addO_eq (o n : Nat) : addO o n = o + n := by cases o <;> simp [addO]
def off (a : Addr) (n : Nat) : Addr := match a with
  | ⟨b, o, none⟩ => ⟨b, addO o n, none⟩
  | a => a

def fieldAddrA (s : TypeId) (x : Value) (k : Nat) : Option Value :=
  match E.ti s, x with
  | some i, .func (.yield 1) ⟨l⟩ _ => match i.desc with
    | .struct fs => match fs.toList[k]? with
      | some f => match E.ti f.type with
        | some fi => match Nat.beq fi.size 0 with
          | true => none
          | false => some (immP (l.drop f.offset))
        | none => none
      | none => none
    | _ => none
  | some i, .pointer (some a) => match i.desc with
    | .struct fs => match fs.toList[k]? with
      | some f => match E.ti f.type with
        | some fi => match Nat.beq fi.size 0 with
          | true => none
          | false => some (.pointer (some (off a f.offset)))
        | none => none
      | none => none
    | _ => none
  | _, _ => none

def indexAddrA (t : TypeId) (x ix : Value) : Option Value :=
  match E.ti t, x, ix with
  | some i, .func (.yield 1) ⟨l⟩ _, .int _ n => match i.desc with
    | .array len e => match E.ti e with
      | some ei => match decide (0 ≤ n) && decide (n < (len : Int)) with
        | true => some (immP (l.drop (n.toNat * ei.size)))
        | false => none
      | none => none
    | _ => none
  | some i, .func (.yield 0) ⟨l⟩ ⟨[.slice none len k]⟩, .int _ n => match i.desc with
    | .slice e => match E.ti e with
      | some ei => match Nat.beq k ei.size && decide (0 ≤ n) && decide (n < (len : Int)) with
        | true => some (immP (l.drop (n.toNat * ei.size)))
        | false => none
      | none => none
    | _ => none
  | some i, .pointer (some a), .int _ n => match i.desc with
    | .array len e => match E.ti e with
      | some ei => match decide (0 ≤ n) && decide (n < (len : Int)) with
        | true => some (.pointer (some (off a (n.toNat * ei.size))))
        | false => none
      | none => none
    | _ => none
  | some i, .slice (some a) len _, .int _ n => match i.desc with
    | .slice e => match E.ti e with
      | some ei => match decide (0 ≤ n) && decide (n < (len : Int)) with
        | true => some (.pointer (some (off a (n.toNat * ei.size))))
        | false => none
      | none => none
    | _ => none
  | _, _, _ => none

def indexA (t : TypeId) (x ix : Value) : Option Value :=
  match E.ti t, x, ix with
  | some i, .agg cs, .int _ n => match i.desc with
    | .array len e => match E.ti e with
      | some ei => match decide (0 ≤ n) && decide (n < (len : Int)) with
        | true => partOf E e cs.toList (n.toNat * ei.size)
        | false => none
      | none => none
    | _ => none
  | some i, .string s, .int _ n => match i.desc with
    | .string => match decide (0 ≤ n) with
      | true => match s.data.toList[n.toNat]? with
        | some b => some (.int .u8 b.toNat)
        | none => none
      | false => none
    | _ => none
  | _, _, _ => none

def bound (x : Option Value) (y usual : Nat) : Option Nat :=
  match x with
  | none => some usual
  | some (.int _ i) => match decide (0 ≤ i) && decide (i ≤ (y : Int)) with
    | true => some i.toNat
    | false => none
  | some _ => none

/-- slices bear the cells of an element where Go has the capacity -/
def sliceSlA (t : TypeId) (a : Option Addr) (len k : Nat) (lo hi : Option Value) : Option AR :=
  match E.ti t with
  | some i => match i.desc with
    | .slice e => match E.ti e, bound hi len len with
      | some ei, some h => match bound lo h 0, a with
        | some l, some a => match Nat.beq k ei.size with
          | true => some (.pur (.slice (some (off a (l * ei.size))) (h - l) k))
          | false => none
        | some _, none => some (.pur (.slice none 0 0))
        | none, _ => none
      | _, _ => none
    | _ => none
  | none => none
def sliceStrA (t : TypeId) (s : ByteArray) (lo hi : Option Value) : Option AR :=
  match E.ti t with
  | some i => match i.desc with
    | .string => match bound hi s.size s.size with
      | some h => match bound lo h 0 with
        | some l => some (.pur (.string (s.extract l h)))
        | none => none
      | none => none
    | _ => none
  | none => none
def arrayOf (t : TypeId) : Option (Nat × TypeId) :=
  match E.ti t with
  | some i => match i.desc with
    | .array n e => some (n, e)
    | .pointer u => match E.ti u with
      | some ui => match ui.desc with
        | .array n e => some (n, e)
        | _ => none
      | none => none
    | _ => none
  | none => none
def sliceArrA (t : TypeId) (a : Addr) (lo hi : Option Value) (h : AH) : Option AR :=
  match arrayOf E t with
  | some (n, e) => match E.ti e, bound hi n n with
    | some ei, some b => match bound lo b 0, h.cellsAt a (n * ei.size) with
      | some l, some _ => some (.read (.slice (some (off a (l * ei.size))) (b - l) ei.size))
      | _, _ => none
    | _, _ => none
  | none => none
/-- cells that nobody writes -/
def sliceImA (t : TypeId) (c : List Value) (len k : Nat) (lo hi : Option Value) : Option AR :=
  match E.ti t with
  | some i => match i.desc with
    | .slice e => match E.ti e, bound hi len len with
      | some ei, some h => match bound lo h 0 with
        | some l => match Nat.beq k ei.size with
          | true => some (.pur (immV (c.drop (l * ei.size)) (h - l) k))
          | false => none
        | none => none
      | _, _ => none
    | _ => none
  | none => none
def sliceA (t : TypeId) (x : Value) (lo hi mx : Option Value) (h : AH) : Option AR :=
  match mx with
  | some _ => none
  | none => match x with
    | .func (.yield 0) ⟨l⟩ ⟨[.slice none len k]⟩ => sliceImA E t l len k lo hi
    | .string s => sliceStrA E t s lo hi
    | .slice a len k => sliceSlA E t a len k lo hi
    | .pointer (some a) => sliceArrA E t a lo hi h
    | _ => none

def fieldA (t : TypeId) (x : Value) (k : Nat) : Option Value :=
  match E.ti t, x with
  | some i, .agg cs => match i.desc with
    | .struct fs => match fs.toList[k]? with
      | some f => partOf E f.type cs.toList f.offset
      | none => none
    | _ => none
  | _, _ => none

def bytesL : List Value → Option (List UInt8)
  | [] => some []
  | .int .u8 n :: l => match bytesL l with
    | some bs => some (UInt8.ofNat n.toNat :: bs)
    | none => none
  | _ => none

def ofBytes (s : ByteArray) : List Value := s.data.toList.map fun b => .int .u8 b.toNat

def bytesOfStr (e : TypeId) (s : ByteArray) (next : Nat) : Option AR :=
  match E.ti e with
  | some ei => match ei.desc, Nat.beq ei.size 1 with
    | .int .u8, true => some (.new (.slice (some ⟨next, 0, none⟩) s.size ei.size) (.cells (ofBytes s) e 0 true))
    | _, _ => none
  | none => none
def markBytes (e : TypeId) (a : Addr) (len k : Nat) (h : AH) : Option AR :=
  match E.ti e with
  | some ei => match ei.desc, h.get a.block, Nat.ble 1 len with
    | .int .u8, some (.cells c e' 0 false), true => some (.eff (.slice (some a) len k) (h.put a.block (some (.cells c e' 0 true))))
    | _, _, _ => none
  | none => none
def strOfBytes (e : TypeId) (a : Option Addr) (len : Nat) (h : AH) : Option AR :=
  match E.ti e with
  | some ei => match ei.desc, a with
    | .int .u8, none => some (.read (.string .empty))
    | .int .u8, some a => match h.cellsAt a len with
      | some cs => match bytesL cs with
        | some bs => some (.read (.string ⟨⟨bs⟩⟩))
        | none => none
      | none => none
    | _, _ => none
  | none => none
def strOfIm (e : TypeId) (l : List Value) (len k : Nat) : Option AR :=
  match E.ti e with
  | some ei => match ei.desc, Nat.beq k 1 && Nat.ble len l.length with
    | .int .u8, true => match bytesL (l.take len) with
      | some bs => some (.read (.string ⟨⟨bs⟩⟩))
      | none => none
    | _, _ => none
  | none => none
def convertA (src dst : TypeId) (x : Value) (h : AH) : Option AR :=
  match E.ti src, E.ti dst with
  | some si, some di => match x with
    | .int _ n => match di.desc with
      | .int k => some (.pur (.int k (k.wrap n)))
      | _ => none
    | .string s => match di.desc with
      | .string => some (.pur (.string s))
      | .slice e => bytesOfStr E e s h.next
      | _ => none
    | .func (.yield 0) ⟨l⟩ ⟨[.slice none len k]⟩ => match si.desc, di.desc with
      | .slice e, .string => strOfIm E e l len k
      | _, _ => none
    | .slice a len k => match si.desc, di.desc, a with
      | .slice _, .slice e, some a => match Nat.beq src dst with
        | true => markBytes E e a len k h
        | false => none
      | .slice e, .string, a => strOfBytes E e a len h
      | _, _, _ => none
    | _ => none
  | _, _ => none

def makeSliceA (t : TypeId) (len cap : Value) (next : Nat) : Option AR :=
  match E.ti t, len, cap with
  | some i, .int _ l, .int _ c => match i.desc with
    | .slice e => match E.ti e with
      | some ei => match ei.zero, decide (0 ≤ l) && decide (l ≤ c) && decide (c ≤ 9223372036854775807) && decide (ei.bytes * c ≤ 281474976710656) && Nat.ble 1 ei.size with
        | some z, true => some (.new (.slice (some ⟨next, 0, none⟩) l.toNat ei.size) (.cells (zeros z l.toNat) e 0 false))
        | _, _ => none
      | none => none
    | _ => none
  | _, _, _ => none

def lenA (t : TypeId) (x : Value) : Option Value :=
  match E.ti t with
  | some i => match i.desc, x with
    | .string, .string s => some (.int .i64 s.size)
    | .array n _, _ => some (.int .i64 n)
    | .slice _, .slice _ n _ => some (.int .i64 n)
    | .slice _, .func (.yield 0) ⟨_⟩ ⟨[.slice none n _]⟩ => some (.int .i64 n)
    | .pointer a, _ => match E.ti a with
      | some ai => match ai.desc with
        | .array n _ => some (.int .i64 n)
        | _ => none
      | none => none
    | _, _ => none
  | none => none

/-- the cells of what is appended, or copied: at most so many elements (strings: bytes) -/
def firstA (h : AH) (size n : Nat) : Value → Option (List Value)
  | .func (.yield 0) ⟨l⟩ ⟨[.slice none len k]⟩ => match Nat.beq k size && Nat.ble n len && Nat.ble (n * size) l.length with
    | true => some (l.take (n * size))
    | false => none
  | .slice (some a) _ _ => h.cellsAt a (n * size)
  | .slice none _ _ => some []
  | .string s => some ((ofBytes s).take n)
  | _ => none
def lenOfA : Value → Option Nat
  | .func (.yield 0) ⟨_⟩ ⟨[.slice none n _]⟩ => some n
  | .slice _ n _ => some n
  | .string s => some s.size
  | _ => none

def fzOf (fz at_ : Nat) : Nat :=
  match fz with
  | 0 => 0
  | fz => Nat.max 1 (fz - at_)
/-- elements behind a slice: a block of its own; the elder one is no more -/
def growA (e : TypeId) (size : Nat) (a : Addr) (len k : Nat) (new : List Value) (n : Nat) (h : AH) : Option AR :=
  match h.get a.block with
  | some (.cells c e' fz s) => match decide (e = e') && Nat.beq k size && Nat.ble (a.off + len * size) c.length && Nat.ble fz (a.off + len * size) && new.all leaf with
    | true => some (.eff (.slice (some ⟨h.next, 0, none⟩) (len + n) size)
        ((h.put a.block none).alloc (.cells ((c.drop a.off).take (len * size) ++ new) e (fzOf fz a.off) s)))
    | false => none
  | _ => none
def appendTo (e : TypeId) (size : Nat) (base : Option Addr) (len k : Nat) (new : List Value) (n : Nat) (h : AH) : Option AR :=
  match base with
  | none => match Nat.beq len 0 with
    | true => some (.eff (.slice (some ⟨h.next, 0, none⟩) n size) (h.alloc (.cells new e 0 false)))
    | false => none
  | some a => growA e size a len k new n h
def appendNone (base : Option Addr) (len k : Nat) (h : AH) : Option AR :=
  match base with
  | none => match Nat.beq len 0 with
    | true => some (.eff (.slice none 0 0) h)
    | false => none
  | some a => some (.eff (.slice (some a) len k) h)
def appendSl (e : TypeId) (base : Option Addr) (len k : Nat) (x : Value) (h : AH) : Option AR :=
  match E.ti e, lenOfA x with
  | some ei, some n => match ei.zero, Nat.ble 1 ei.size && Nat.ble 1 ei.bytes && Nat.ble ((len + n) * ei.bytes) 140737488355328 with
    | some _, true => match n with
      | 0 => appendNone base len k h
      | n + 1 => match firstA h ei.size (n + 1) x with
        | some new => match Nat.beq new.length ((n + 1) * ei.size) with
          | true => appendTo e ei.size base len k new (n + 1) h
          | false => none
        | none => none
    | _, _ => none
  | _, _ => none
def appendA (ts : List TypeId) (args : List Value) (h : AH) : Option AR :=
  match ts, args with
  | [st, xt], [.slice base len k, x] => match E.ti st, E.ti xt with
    | some si, some xi => match si.desc, xi.desc with
      | _, .int _ => none
      | .slice e, _ => appendSl E e base len k x h
      | _, _ => none
    | _, _ => none
  | _, _ => none

def copyA (ts : List TypeId) (args : List Value) (h : AH) : Option AR :=
  match ts, args with
  | dt :: _, [.slice base len _, x] => match E.ti dt, lenOfA x with
    | some di, some n => match di.desc with
      | .slice e => match E.ti e with
        | some ei => match firstA h ei.size (Nat.min n len) x with
          | some cs => match base with
            | none => some (.eff (.int .i64 (Nat.min n len : Nat)) h)
            | some a => match h.store a cs with
              | some h' => some (.eff (.int .i64 (Nat.min n len : Nat)) h')
              | none => none
          | none => none
        | none => none
      | _ => none
    | _, _ => none
  | _, _ => none

def clearA (ts : List TypeId) (args : List Value) (h : AH) : Option AR :=
  match ts, args with
  | t :: _, [.slice base len _] => match E.ti t with
    | some i => match i.desc, base with
      | .slice e, some a => match E.ti e with
        | some ei => match ei.zero with
          | some z => match h.store a (zeros z len) with
            | some h' => some (.eff (.tuple #[]) h')
            | none => none
          | none => none
        | none => none
      | .slice _, none => some (.eff (.tuple #[]) h)
      | _, _ => none
    | none => none
  | _, _ => none

def max2A : Value → Value → Option Value
  | .int k x, .int _ y => some (.int k (if y > x then y else x))
  | _, _ => none
def min2A : Value → Value → Option Value
  | .int k x, .int _ y => some (.int k (if y < x then y else x))
  | _, _ => none
def foldA (f : Value → Value → Option Value) : Value → List Value → Option Value
  | x, [] => some x
  | x, y :: l => match f x y with
    | some z => foldA f z l
    | none => none

/-! maps: keys are numbers, texts, bools -/
def keyEq : TypeDesc → Value → Value → Option Bool
  | .int _, .int k a, .int k' b => match decide (k = k') with
    | true => some (a == b)
    | false => none
  | .string, .string a, .string b => some (a == b)
  | .bool, .bool a, .bool b => some (a == b)
  | _, _, _ => none
def findA (d : TypeDesc) (k : Value) : List MapEntry → Nat → Option (Option (Nat × Value))
  | [], _ => some none
  | e :: es, i => match keyEq d k e.key with
    | some true => some (some (i, e.val))
    | some false => findA d k es (i + 1)
    | none => none
def plainKey : TypeDesc → Value → Bool
  | .int _, .int _ _ => true
  | .string, .string _ => true
  | .bool, .bool _ => true
  | _, _ => false
def mapOf (h : AH) : Value → Option (List MapEntry × Nat)
  | .map (some r) => match h.get r with
    | some (.map es c) => some (es, c)
    | _ => none
  | _ => none
def lookupA (t : TypeId) (x k : Value) (ok : Bool) (h : AH) : Option AR :=
  match E.ti t with
  | some i => match i.desc with
    | .map kt et => match E.ti kt, E.ti et with
      | some ki, some ei => match plainKey ki.desc k, ei.zero, (match x with | .map none => some [] | x => (mapOf h x).map (·.1)) with
        | true, some z, some es => match findA ki.desc k es 0 with
          | some (some (_, v)) => some (.read (match ok with | true => .tuple #[v, .bool true] | false => v))
          | some none => some (.read (match ok with | true => .tuple #[z, .bool false] | false => z))
          | none => none
        | _, _, _ => none
      | _, _ => none
    | _ => none
  | none => none
def mapUpdateA (t : TypeId) (m k v : Value) (h : AH) : Option AR :=
  match E.ti t, m with
  | some i, .map (some r) => match i.desc with
    | .map kt _ => match E.ti kt, h.get r with
      | some ki, some (.map es c) => match plainKey ki.desc k, findA ki.desc k es 0 with
        | true, some (some (j, _)) => some (.eff undef (h.put r (some (.map (es.modify j fun e => { e with key := k, val := v }) c))))
        | true, some none => some (.eff undef (h.put r (some (.map (es ++ [{ key := k, val := v, born := c }]) (c + 1)))))
        | _, _ => none
      | _, _ => none
    | _ => none
  | _, _ => none
def deleteA (ts : List TypeId) (args : List Value) (h : AH) : Option AR :=
  match ts, args with
  | t :: _, [m, k] => match E.ti t, m with
    | some i, .map (some r) => match i.desc with
      | .map kt _ => match E.ti kt, h.get r with
        | some ki, some (.map es c) => match plainKey ki.desc k, findA ki.desc k es 0 with
          | true, some (some (j, _)) => some (.eff (.tuple #[]) (h.put r (some (.map (es.eraseIdx j) c))))
          | true, some none => some (.eff (.tuple #[]) h)
          | _, _ => none
        | _, _ => none
      | _ => none
    | _, _ => none
  | _, _ => none

def lenMapA (t : TypeId) (m : Option Nat) (h : AH) : Option AR :=
  match E.ti t with
  | some i => match i.desc, m with
    | .map _ _, none => some (.pur (.int .i64 0))
    | .map _ _, some r => match h.get r with
      | some (.map es _) => some (.read (.int .i64 es.length))
      | _ => none
    | _, _ => none
  | none => none
def builtinA (b : Builtin) (ts : List TypeId) (args : List Value) (h : AH) : Option AR :=
  match b with
  | .len => match ts, args with
    | t :: _, x :: _ => match x with
      | .map m => lenMapA E t m h
      | x => match lenA E t x with
        | some v => some (.pur v)
        | none => none
    | _, _ => none
  | .delete => deleteA E ts args h
  | .append => appendA E ts args h
  | .copy => copyA E ts args h
  | .clear => clearA E ts args h
  | .max => match args with
    | x :: l => match foldA max2A x l with
      | some v => some (.pur v)
      | none => none
    | [] => none
  | .min => match args with
    | x :: l => match foldA min2A x l with
      | some v => some (.pur v)
      | none => none
    | [] => none
  | _ => none

def rangeA (t : TypeId) (x : Value) (next : Nat) : Option AR :=
  match E.ti t, x with
  | some i, .string s => match i.desc with
    | .string => some (.new (.pointer (some ⟨next, 0, none⟩)) (.siter s 0))
    | _ => none
  | some i, .map none => match i.desc with
    | .map _ _ => some (.new (.pointer (some ⟨next, 0, none⟩)) (.miter none 0 [] 0))
    | _ => none
  | _, _ => none
def rangeMapA (t : TypeId) (x : Value) (h : AH) : Option AR :=
  match E.ti t, x with
  | some i, .map (some m) => match i.desc, h.get m with
    | .map _ _, some (.map _ clock) => some (.eff (.pointer (some ⟨h.next, 0, none⟩)) (h.alloc (.miter (some m) clock [] clock)))
    | _, _ => none
  | _, _ => rangeA E t x h.next

def nextA (it : Value) (isString : Bool) (h : AH) : Option AR :=
  match it, isString with
  | .pointer (some ⟨r, 0, none⟩), true => match h.get r with
    | some (.siter s pos) => match decide (pos < s.size) with
      | true => some (.eff (.tuple #[.bool true, .int .i64 pos, .int .i32 (Utf8.decode s pos).1]) (h.put r (some (.siter s (pos + (Utf8.decode s pos).2)))))
      | false => some (.eff (.tuple #[.bool false]) h)
    | _ => none
  | .pointer (some ⟨r, 0, none⟩), false => match h.get r with
    | some (.miter none _ _ _) => some (.eff (.tuple #[.bool false]) h)
    | some (.miter (some m) since seen last) => match h.get m with
      | some (.map [] _) => some (.eff (.tuple #[.bool false]) h)
      | some (.map [e] clock) => match seen with
        | [] => match Nat.blt e.born since with
          | true => some (.eff (.tuple #[.bool true, e.key, e.val]) (h.put r (some (.miter (some m) since [e.born] clock))))
          | false => none
        | [b] => match Nat.beq b e.born && Nat.blt e.born last with
          | true => some (.eff (.tuple #[.bool false]) h)
          | false => none
        | _ => none
      | _ => none
    | _ => none
  | _, _ => none

def callA (f : Value) (args : List Value) : Option AR :=
  match f with
  | .func (.func f) first captured => some (.call f (first.toList ++ args ++ captured.toList))
  | _ => none

/-! one definition an operation: the kernel unfolds no more than it needs -/
def pureA (v : Option Value) : Option AR :=
  match v with
  | some v => some (.pur v)
  | none => none
def pickA (c a b : Value) : Option AR :=
  match c with
  | .bool true => some (.pur a)
  | .bool false => some (.pur b)
  | _ => none
def allocA (t : TypeId) (next : Nat) : Option AR :=
  match E.ti t with
  | some i => match i.zero with
    | some z => some (.new (.pointer (some ⟨next, 0, none⟩)) (.cells (cellsOf z) t 0 false))
    | none => none
  | none => none
def boxA (t : TypeId) (v : Value) (next : Nat) : Option AR :=
  match kn v with
  | true => some (.new (.pointer (some ⟨next, 0, none⟩)) (.cells (cellsOf v) t 0 false))
  | false => none
def loadA (t : TypeId) (a : Value) (h : AH) : Option AR :=
  match a with
  | .pointer (some p) => match aload E t h p with
    | some v => some (.read v)
    | none => none
  | .func (.yield 1) ⟨l⟩ _ => match iload E t l with
    | some v => some (.read v)
    | none => none
  | _ => none
def storeA (t : TypeId) (a v : Value) (h : AH) : Option AR :=
  match a with
  | .pointer (some p) => match astore E t h p v with
    | some h' => some (.eff undef h')
    | none => none
  | _ => none
def nilCheckA (x : Value) : Option AR :=
  match x with
  | .func (.yield 1) a b => some (.pur (.func (.yield 1) a b))
  | .pointer (some p) => some (.pur (.pointer (some p)))
  | .func (.func f) a b => some (.pur (.func (.func f) a b))
  | _ => none
def binOpA (op : BinOp) (t : TypeId) (x y : Operand) (a b : Value) : Option AR :=
  match nilsA E op t x y a b with
  | some v => some (.pur v)
  | none => pureA (binA E op t a b)
def makeFuncA (fn : Fn) (first captured : List Value) : Option AR :=
  match fn with
  | .func f => some (.pur (.func (.func f) ⟨first⟩ ⟨captured⟩))
  | _ => none
def extractA (t : Value) (k : Nat) : Option AR :=
  match t with
  | .tuple vs => pureA vs.toList[k]?
  | _ => none
def makeInterfaceA (t : TypeId) (x : Value) : Option AR :=
  match E.ti t with
  | some i => match i.desc with
    | .interface _ => none
    | _ => some (.pur (.iface t x))
  | none => none
def makeMapA (r : Option Operand) (next : Nat) : Option AR :=
  match r with
  | none => some (.new (.map (some next)) (.map [] 0))
  | some _ => none
def evs (tm : Tr Value) : List Operand → List Value
  | [] => []
  | x :: l => ev tm x :: evs tm l
def evParts (tm : Tr Value) : List (Nat × Operand) → List (Nat × Value)
  | [] => []
  | (i, x) :: l => (i, ev tm x) :: evParts tm l
def evOpt (tm : Tr Value) : Option Operand → Option Value
  | none => none
  | some x => some (ev tm x)
def callOpA (c : Call) (tm : Tr Value) (h : AH) : Option AR :=
  match c.callee with
  | .builtin b => builtinA E b c.argTypes.toList (evs tm c.args.toList) h
  | .value f => callA (ev tm f) (evs tm c.args.toList)
  | .invoke _ _ => none

def aop (op : Op) (tm : Tr Value) (h : AH) : Option AR :=
  match op with
  | .move x => some (.pur (ev tm x))
  | .assign x => some (.pur (ev tm x))
  | .pick c a b => pickA (ev tm c) (ev tm a) (ev tm b)
  | .alloc t => allocA E t h.next
  | .box t x => boxA t (ev tm x) h.next
  | .build t parts => pureA (buildA E t (evParts tm parts.toList))
  | .buildSlice t len parts => buildSliceA E t len (evParts tm parts.toList) h.next
  | .load t a => loadA E t (ev tm a) h
  | .store t a x => storeA E t (ev tm a) (ev tm x) h
  | .nilCheck x => nilCheckA (ev tm x)
  | .binOp op t x y _ => binOpA E op t x y (ev tm x) (ev tm y)
  | .unOp op _ x => pureA (unA op (ev tm x))
  | .convert src dst x => convertA E src dst (ev tm x) h
  | .makeFunc fn first captured => makeFuncA fn (evs tm first.toList) (evs tm captured.toList)
  | .makeSlice t l c => makeSliceA E t (ev tm l) (ev tm c) h.next
  | .slice t x lo hi mx => sliceA E t (ev tm x) (evOpt tm lo) (evOpt tm hi) (evOpt tm mx) h
  | .fieldAddr s x k => pureA (fieldAddrA E s (ev tm x) k)
  | .field t x k => pureA (fieldA E t (ev tm x) k)
  | .indexAddr t x i => pureA (indexAddrA E t (ev tm x) (ev tm i))
  | .index t x i => pureA (indexA E t (ev tm x) (ev tm i))
  | .extract t k => extractA (ev tm t) k
  | .range t x => rangeMapA E t (ev tm x) h
  | .next it s => nextA (ev tm it) s h
  | .makeMap _ r => makeMapA r h.next
  | .lookup t x k ok => lookupA E t (ev tm x) (ev tm k) ok h
  | .mapUpdate t m k v => mapUpdateA E t (ev tm m) (ev tm k) (ev tm v) h
  | .insert t m k v => mapUpdateA E t (ev tm m) (ev tm k) (ev tm v) h
  | .makeInterface t x => makeInterfaceA E t (ev tm x)
  | .call c => callOpA E c tm h
  | _ => none

/-! code -/
structure ES where
  tm : Tr Value
  h : AH

inductive Ex where
  | normal
  | exit (id : Nat)
  | ret

abbrev Caller := FuncId → List Value → AH → Option (Value × AH)

def putT (tm : Tr Value) (d : Option Tmp) (v : Value) : Tr Value :=
  match d with
  | some d => tm.put d (some v)
  | none => tm

def does (call : Caller) (h : AH) (r : AR) : Option (Value × AH) :=
  match r with
  | .pur v => some (v, h)
  | .read v => some (v, h)
  | .new v o => some (v, h.alloc o)
  | .eff v h' => some (v, h')
  | .call f args => call f args h

def yieldedA (ops : List Oper) (tm : Tr Value) (j : Nat) : Option Bool :=
  match ops[j]? with
  | some o => match o.dst with
    | some d => match tm.get d with
      | some (.bool b) => some b
      | _ => none
    | none => none
  | none => none

def wantedA (ops : List Oper) (tm : Tr Value) (o : Oper) : Bool :=
  match o.guard with
  | none => true
  | some (j, want) => match yieldedA ops tm j with
    | some b => b == want
    | none => false

/-- the guard is known -/
def guardKn (ops : List Oper) (tm : Tr Value) (o : Oper) : Bool :=
  match o.guard with
  | none => true
  | some (j, _) => match ops[j]? with
    | some p => match p.dst with
      | some d => match tm.get d with
        | some v => kn v
        | none => false
      | none => true
    | none => true

def evOne (call : Caller) (ops : List Oper) (o : Oper) (s : ES) : Option ES :=
  match guardKn ops s.tm o with
  | true => match wantedA ops s.tm o with
    | true => match aop E o.op s.tm s.h with
      | some ar => match does call s.h ar with
        | some (v, h) => some ⟨putT s.tm o.dst v, h⟩
        | none => none
      | none => none
    | false => some ⟨putT s.tm o.dst undef, s.h⟩
  | false => none

def evOps (call : Caller) (ops : List Oper) : List Oper → ES → Option ES
  | [], s => some s
  | o :: rest, s => match evOne E call ops o s with
    | some s' => evOps call ops rest s'
    | none => none

/-! regions that draw their order -/
/-- a row of the trace: the operation, what it came to, the temporaries and the memory ahead of it -/
structure TRow where
  i : Nat
  o : Oper
  run : Bool
  ar : AR
  v : Value
  tm : Tr Value
  h : AH

/-- the walk in the text's order, with its trace -/
def trOne (call : Caller) (ops : List Oper) (i : Nat) (o : Oper) (s : ES) : Option (ES × TRow) :=
  match guardKn ops s.tm o with
  | true => match wantedA ops s.tm o with
    | true => match aop E o.op s.tm s.h with
      | some ar => match does call s.h ar with
        | some (v, h) => some (⟨putT s.tm o.dst v, h⟩, ⟨i, o, true, ar, v, s.tm, s.h⟩)
        | none => none
      | none => none
    | false => some (⟨putT s.tm o.dst undef, s.h⟩, ⟨i, o, false, .pur undef, undef, s.tm, s.h⟩)
  | false => none

def evTrace (call : Caller) (ops : List Oper) : List Oper → Nat → ES → Option (ES × List TRow)
  | [], _, s => some (s, [])
  | o :: rest, i, s => match trOne E call ops i o s with
    | some (s', r) => match evTrace call ops rest (i + 1) s' with
      | some (s'', tr) => some (s'', r :: tr)
      | none => none
    | none => none

def isEff : AR → Bool
  | .eff _ _ | .call _ _ => true
  | _ => false

/-- the memories at which an operation may stand: (number of the effect behind, memory ahead of it), in the text's order -/
def spine : List TRow → List (Nat × AH)
  | [] => []
  | r :: l => match r.run && isEff r.ar with
    | true => (r.i, r.h) :: spine l
    | false => spine l

def objEq : AObj → AObj → Bool
  | .cells c e f s, .cells c' e' f' s' => veqs c c' && Nat.beq e e' && Nat.beq f f' && (s == s')
  | .siter s p, .siter s' p' => decide (s = s') && Nat.beq p p'
  | .map [] n, .map [] m => Nat.beq n m
  | .miter m s [] l, .miter m' s' [] l' => decide (m = m') && Nat.beq s s' && Nat.beq l l'
  | _, _ => false

/-- what an operation read, or made, stands at a memory of the spine (e: the effect that comes next) -/
def holdsAt (r : TRow) (e : Nat) (h : AH) : Bool :=
  match r.ar with
  | .read v => match aop E r.o.op r.tm h with
    | some (.read v') => veq v v' && vb r.h.next v && (evs r.tm r.o.op.operands.toList).all (vb h.next)
    | _ => false
  | .new _ o => match Nat.ble e r.i with
    | true => true
    | false => match h.get r.h.next with
      | some o' => objEq o o'
      | none => false
  | _ => true
def needs : AR → Bool
  | .read _ | .new _ _ => true
  | _ => false

def bit (bef : List Nat) (j i : Nat) : Bool := Nat.testBit (bef.getD j 0) i

/-- may operation i stand where e is the effect that comes next? -/
def inWin (bef : List Nat) (effs : List Nat) (i e : Nat) : Bool :=
  effs.all fun x => (!bit bef i x || Nat.blt x e) && (!Nat.blt x e || !bit bef x i)

def effsOk (bef : List Nat) : List Nat → Bool
  | [] => true
  | e :: l => l.all (fun x => bit bef x e) && effsOk bef l

def traceOk (bef : List Nat) (effs : List Nat) (sp : List (Nat × AH)) (tr : List TRow) : Bool :=
  tr.all fun r => match r.run && needs r.ar with
    | false => true
    | true => sp.all fun (e, h) => !inWin bef effs r.i e || holdsAt E r e h

/-! static: temporaries -/
def namesOf (ops : List Oper) (o : Oper) : List Tmp :=
  (match o.dst with | some d => [d] | none => []) ++
  (o.op.operands.toList.filterMap fun | .tmp t => some t | _ => none) ++
  (match o.guard with
   | some (g, _) => match ops[g]? with
     | some p => match p.dst with | some d => [d] | none => []
     | none => []
   | none => [])
def clash (ops : List Oper) (x y : Oper) : Bool :=
  (match x.dst with | some d => (namesOf ops y).any (Nat.beq d) | none => false) ||
  (match y.dst with | some d => (namesOf ops x).any (Nat.beq d) | none => false)

def befFrom : List Oper → List Nat → List Nat
  | [], acc => acc
  | o :: l, acc => befFrom l (acc ++ [o.after.toList.foldl (fun s e => match Region.binds .any e with
      | true => s ||| 2 ^ e.on ||| acc.getD e.on 0
      | false => s) 0])
def befOf (ops : List Oper) : List Nat := befFrom ops []

def pairsOk (ops : List Oper) (bef : List Nat) : List Oper → Nat → Bool
  | [], _ => true
  | o :: l, j => (ops.take j).zipIdx.all (fun (p, i) => !clash ops p o || bit bef j i) && pairsOk ops bef l (j + 1)

/-- an order in which each operation comes behind those that it waits for -/
def topoFrom (md : Region.Mode) (ops : List Oper) : List Nat → List Nat → Bool
  | [], _ => true
  | i :: l, done => (match ops[i]? with
    | some o => o.after.toList.all fun e => !Region.binds md e || done.contains e.on
    | none => false) && topoFrom md ops l (i :: done)
def topoOk (md : Region.Mode) (ops : List Oper) (l : List Nat) : Bool :=
  topoFrom md ops l [] && (List.range ops.length).all fun i => l.contains i

def staticOk (ops : List Oper) (bef : List Nat) : Bool :=
  pairsOk ops bef ops 0 && topoOk .any ops (List.range ops.length) && topoOk .text ops (List.range ops.length) &&
  topoOk .gc ops (Region.linearise .gc ⟨ops⟩ 0)

def nextsOk : List TRow → Nat → Bool
  | [], _ => true
  | [r], n => Nat.ble r.h.next n
  | r :: q :: l, n => Nat.ble r.h.next q.h.next && nextsOk (q :: l) n
def drawOk (ops : List Oper) (bef : List Nat) (rows : List TRow) (h : AH) : Bool :=
  staticOk ops bef && nextsOk rows h.next && effsOk bef ((spine rows).map (·.1)) && traceOk E bef ((spine rows).map (·.1)) (spine rows ++ [(ops.length, h)]) rows

/-- the same as a proposition: for what the kernel can't reckon -/
def HoldsP (r : TRow) (e : Nat) (h : AH) : Prop :=
  match r.ar with
  | .read v => aop E r.o.op r.tm h = some (.read v) ∧ vb r.h.next v = true ∧ (evs r.tm r.o.op.operands.toList).all (vb h.next) = true
  | .new _ o => e ≤ r.i ∨ h.get r.h.next = some o
  | _ => True
def NextsP : List TRow → Nat → Prop
  | [], _ => True
  | [r], n => r.h.next ≤ n
  | r :: q :: l, n => r.h.next ≤ q.h.next ∧ NextsP (q :: l) n
def TraceP (bef : List Nat) (effs : List Nat) (sp : List (Nat × AH)) (tr : List TRow) : Prop :=
  ∀ r ∈ tr, r.run = true → needs r.ar = true → ∀ p ∈ sp, inWin bef effs r.i p.1 = true → HoldsP E r p.1 p.2
def DrawP (ops : List Oper) (bef : List Nat) (rows : List TRow) (h : AH) : Prop :=
  staticOk ops bef = true ∧ NextsP rows h.next ∧ effsOk bef ((spine rows).map (·.1)) = true ∧ TraceP E bef ((spine rows).map (·.1)) (spine rows ++ [(ops.length, h)]) rows
def pdec (p : Prop) : Bool := @decide p (Classical.propDecidable p)

def evDraw (call : Caller) (ops : List Oper) (s : ES) : Option ES :=
  match evTrace E call ops ops 0 s with
  | none => none
  | some (s', rows) => match drawOk E ops (befOf ops) rows s'.h || pdec (DrawP E ops (befOf ops) rows s'.h) with
    | true => some s'
    | false => none

def evRegion (call : Caller) (ops : List Oper) (draw : Bool) (s : ES) : Option (Ex × ES) :=
  match (match draw with
    | false => evOps E call ops ops s
    | true => evDraw E call ops s) with
  | some s' => some (.normal, s')
  | none => none

abbrev Runs := Code → ES → Option (Ex × ES)
def seqA (run : Runs) (b : Code) (r : Option (Ex × ES)) : Option (Ex × ES) :=
  match r with
  | some (.normal, s') => run b s'
  | r => r
def condA (run : Runs) (c : Value) (a b : Code) (s : ES) : Option (Ex × ES) :=
  match c with
  | .bool true => run a s
  | .bool false => run b s
  | _ => none
def blockA (id : Nat) (r : Option (Ex × ES)) : Option (Ex × ES) :=
  match r with
  | some (.exit i, s') => match Nat.beq i id with
    | true => some (.normal, s')
    | false => some (.exit i, s')
  | r => r

def evCode (call : Caller) : Nat → Code → ES → Option (Ex × ES)
  | 0, _, _ => none
  | n + 1, c, s => match c with
    | .skip => some (.normal, s)
    | .label _ => some (.normal, s)
    | .region _ ops draw => evRegion E call ops.toList draw s
    | .seq a b => seqA (evCode call n) b (evCode call n a s)
    | .cond c a b => condA (evCode call n) (ev s.tm c) a b s
    | .block id b => blockA id (evCode call n b s)
    | .loop b => seqA (evCode call n) (.loop b) (evCode call n b s)
    | .exit id => some (.exit id, s)
    | .scope b => evCode call n b s
    | .ret => some (.ret, s)
    | _ => none

def resultA (tm : Tr Value) (h : AH) : ResultVar → Option Value
  | .tmp t => some (match tm.get t with | some v => v | none => UNK)
  | .cell a t => match tm.get a with
    | some (.pointer (some p)) => aload E t h p
    | _ => none
def resultsA (tm : Tr Value) (h : AH) : List ResultVar → Option (List Value)
  | [] => some []
  | r :: l => match resultA E tm h r with
    | some v => match resultsA tm h l with
      | some vs => some (v :: vs)
      | none => none
    | none => none

def outA (fn : Func) (r : Option (Ex × ES)) : Option (Value × AH) :=
  match r with
  | some (.exit _, _) => none
  | some (_, s) => match resultsA E s.tm s.h fn.results.toList with
    | some [v] => some (v, s.h)
    | some vs => some (.tuple ⟨vs⟩, s.h)
    | none => none
  | none => none
/-- the arguments, and as many more as there are temporaries -/
def pad : List Value → Nat → List Value
  | [], 0 => []
  | [], n + 1 => undef :: pad [] n
  | l, 0 => l
  | x :: l, n + 1 => x :: pad l n
def bodyA (run : Runs) (fn : Func) (args : List Value) (h : AH) : Option (Value × AH) :=
  match fn.body, Nat.ble args.length fn.ntmps with
  | some c, true => outA E fn (run c ⟨Tr.fill (pad args fn.ntmps) 0 .leaf, h⟩)
  | _, _ => none

def evCall : Nat → FuncId → List Value → AH → Option (Value × AH)
  | 0, _, _, _ => none
  | n + 1, f, args, h => match E.intr f with
    | some g => g args h
    | none => match E.fn f with
      | none => none
      | some fn => bodyA E (evCode E (evCall n) n) fn args h
end ops
end
end Go.Ev
end
section
namespace Go.Ev
/-! laws of the tries and of the abstract memory -/
namespace Tr
variable {α : Type}
@[simp] theorem get_leaf (n : Nat) : (Tr.leaf : Tr α).get n = none := rfl
theorem get_node (l : Tr α) (v : Option α) (r : Tr α) (n : Nat) :
    (Tr.node l v r).get n = if n = 0 then v else if n % 2 = 1 then l.get (n / 2) else r.get (n / 2 - 1) := by
  cases n with
  | zero => rfl
  | succ n =>
    have hb : ∀ b : Bool, Bool.rec (motive := fun _ => Option α) (r.get ((n + 1) / 2 - 1)) (l.get ((n + 1) / 2)) b = if b = true then l.get ((n + 1) / 2) else r.get ((n + 1) / 2 - 1) := by
      intro b; cases b <;> rfl
    have h : (Tr.node l v r).get (n + 1) = Bool.rec (motive := fun _ => Option α) (r.get ((n + 1) / 2 - 1)) (l.get ((n + 1) / 2)) (Nat.beq ((n + 1) % 2) 1) := rfl
    rw [h, hb]
    simp
theorem get_setTop (x : Option α) (t : Tr α) (m : Nat) : (setTop x t).get m = if m = 0 then x else t.get m := by
  cases t with
  | leaf => rw [show setTop x (Tr.leaf : Tr α) = .node .leaf x .leaf from rfl, get_node]; split <;> simp
  | node l v r => rw [show setTop x (Tr.node l v r) = .node l x r from rfl, get_node, get_node]; split <;> simp_all
theorem putF_zero (x : Option α) (f : Nat) (t : Tr α) : putF x f t 0 = setTop x t := by cases f <;> rfl
theorem putF_succ_leaf (x : Option α) (f n : Nat) : putF x (f + 1) .leaf (n + 1) =
    if (n + 1) % 2 = 1 then .node (putF x f .leaf ((n + 1) / 2)) none .leaf else .node .leaf none (putF x f .leaf ((n + 1) / 2 - 1)) := by
  have hb : ∀ b : Bool, Bool.rec (motive := fun _ => Tr α) (.node .leaf none (putF x f .leaf ((n + 1) / 2 - 1))) (.node (putF x f .leaf ((n + 1) / 2)) none .leaf) b =
      if b = true then .node (putF x f .leaf ((n + 1) / 2)) none .leaf else .node .leaf none (putF x f .leaf ((n + 1) / 2 - 1)) := by
    intro b; cases b <;> rfl
  have h : putF x (f + 1) .leaf (n + 1) = Bool.rec (motive := fun _ => Tr α) (.node .leaf none (putF x f .leaf ((n + 1) / 2 - 1))) (.node (putF x f .leaf ((n + 1) / 2)) none .leaf) (Nat.beq ((n + 1) % 2) 1) := rfl
  rw [h, hb]; simp
theorem putF_succ_node (x : Option α) (f n : Nat) (l r : Tr α) (v : Option α) : putF x (f + 1) (.node l v r) (n + 1) =
    if (n + 1) % 2 = 1 then .node (putF x f l ((n + 1) / 2)) v r else .node l v (putF x f r ((n + 1) / 2 - 1)) := by
  have hb : ∀ b : Bool, Bool.rec (motive := fun _ => Tr α) (.node l v (putF x f r ((n + 1) / 2 - 1))) (.node (putF x f l ((n + 1) / 2)) v r) b =
      if b = true then .node (putF x f l ((n + 1) / 2)) v r else .node l v (putF x f r ((n + 1) / 2 - 1)) := by
    intro b; cases b <;> rfl
  have h : putF x (f + 1) (.node l v r) (n + 1) = Bool.rec (motive := fun _ => Tr α) (.node l v (putF x f r ((n + 1) / 2 - 1))) (.node (putF x f l ((n + 1) / 2)) v r) (Nat.beq ((n + 1) % 2) 1) := rfl
  rw [h, hb]; simp
theorem get_putF (x : Option α) : ∀ (f : Nat) (t : Tr α) (n m : Nat), n ≤ f → (putF x f t n).get m = if m = n then x else t.get m := by
  intro f
  induction f with
  | zero => intro t n m h; obtain rfl : n = 0 := by omega
            rw [putF_zero, get_setTop]
  | succ f ih =>
    intro t n m h
    cases n with
    | zero => rw [putF_zero, get_setTop]
    | succ n =>
      cases t with
      | leaf =>
        rw [putF_succ_leaf]
        split
        · rename_i hp
          rw [get_node, ih _ _ _ (by omega)]
          by_cases h0 : m = 0
          · subst h0; simp
          · by_cases h1 : m % 2 = 1
            · have : (m / 2 = (n + 1) / 2) ↔ m = n + 1 := by omega
              simp [h0, h1, this]
            · have : m ≠ n + 1 := by omega
              simp [h0, h1, this]
        · rename_i hp
          rw [get_node, ih _ _ _ (by omega)]
          by_cases h0 : m = 0
          · subst h0; simp
          · by_cases h1 : m % 2 = 1
            · have : m ≠ n + 1 := by omega
              simp [h0, h1, this]
            · have : (m / 2 - 1 = (n + 1) / 2 - 1) ↔ m = n + 1 := by omega
              simp [h0, h1, this]
      | node l v r =>
        rw [putF_succ_node]
        split
        · rename_i hp
          rw [get_node, get_node, ih _ _ _ (by omega)]
          by_cases h0 : m = 0
          · subst h0; simp
          · by_cases h1 : m % 2 = 1
            · have : (m / 2 = (n + 1) / 2) ↔ m = n + 1 := by omega
              simp [h0, h1, this]
            · have : m ≠ n + 1 := by omega
              simp [h0, h1, this]
        · rename_i hp
          rw [get_node, get_node, ih _ _ _ (by omega)]
          by_cases h0 : m = 0
          · subst h0; simp
          · by_cases h1 : m % 2 = 1
            · have : m ≠ n + 1 := by omega
              simp [h0, h1, this]
            · have : (m / 2 - 1 = (n + 1) / 2 - 1) ↔ m = n + 1 := by omega
              simp [h0, h1, this]
theorem get_put (t : Tr α) (n m : Nat) (x : Option α) : (t.put n x).get m = if m = n then x else t.get m :=
  get_putF x n t n m (Nat.le_refl _)
theorem get_fill (l : List α) : ∀ (n : Nat) (t : Tr α) (m : Nat), (fill l n t).get m = if n ≤ m ∧ m < n + l.length then l[m - n]? else t.get m := by
  induction l with
  | nil => intro n t m; simp [fill]; intro h1 h2; omega
  | cons x l ih =>
    intro n t m
    rw [fill, ih, get_put]
    by_cases h : n + 1 ≤ m ∧ m < n + 1 + l.length
    · have h2 : n ≤ m ∧ m < n + (x :: l).length := by simp; omega
      rw [if_pos h, if_pos h2]
      obtain ⟨k, hk⟩ : ∃ k, m - n = k + 1 := ⟨m - n - 1, by omega⟩
      rw [hk, show m - (n + 1) = k from by omega]; simp
    · rw [if_neg h]
      by_cases h3 : m = n
      · subst h3; simp
      · have h2 : ¬ (n ≤ m ∧ m < n + (x :: l).length) := by simp; omega
        rw [if_neg h2, if_neg h3]
end Tr

theorem AH.get_put (h : AH) (b c : Nat) (o : Option AObj) : (h.put b o).get c = if c = b then o else h.get c := Tr.get_put _ _ _ _
theorem AH.get_alloc (h : AH) (c : Nat) (o : AObj) : (h.alloc o).get c = if c = h.next then some o else h.get c := Tr.get_put _ _ _ _
@[simp] theorem AH.next_put (h : AH) (b : Nat) (o : Option AObj) : (h.put b o).next = h.next := rfl
@[simp] theorem AH.next_alloc (h : AH) (o : AObj) : (h.alloc o).next = h.next + 1 := rfl
end Go.Ev
end
section
namespace Go.Ev
/-! what an abstract memory says of the world -/

/-- a block's place in the world: its number, where it begins there, how many cells that block has -/
inductive Pl where
  | no
  | dead
  | at_ (r ro sz : Nat)
/-- the blocks' places; and which cells of the world nobody writes any more -/
structure MF where
  pl : Nat → Pl
  im : Nat → Nat → Value → Prop
structure Mu where
  n : Nat
  f : MF
instance : CoeFun MF fun _ => Nat → Pl := ⟨MF.pl⟩
instance : CoeFun Mu fun _ => Nat → Pl := ⟨fun μ => μ.f.pl⟩
/-- a block that may be named -/
def Mu.has (μ : Mu) (b : Nat) : Prop := b < μ.n ∧ μ.f b ≠ .no

def PR (μ : Mu) (a a' : Addr) : Prop :=
  a.spot = none ∧ μ.has a.block ∧ ∀ r ro sz, μ a.block = .at_ r ro sz → a' = ⟨r, ro + a.off, none⟩

def SR (μ : Mu) (a a' : Addr) (len k cap : Nat) : Prop :=
  a.spot = none ∧ μ.has a.block ∧ len ≤ cap ∧
    ∀ r ro sz, μ a.block = .at_ r ro sz → (a' = ⟨r, ro + a.off, none⟩ ∧ ro + a.off + cap * k ≤ sz) ∨ (len = 0 ∧ cap = 0)

/-- a block that isn't cells -/
def BR (μ : Mu) (b r : Nat) : Prop := μ.has b ∧ ∀ r' ro' sz', μ b = .at_ r' ro' sz' → r' = r

/-- a slice of cells that nobody writes -/
def IS (μ : Mu) (l : List Value) (n k : Nat) (v' : Value) : Prop :=
  ∃ a cap, v' = .slice a n cap ∧ n ≤ cap ∧ (n = 0 ∨ ∃ r o, a = some ⟨r, o, none⟩ ∧ n * k ≤ l.length ∧ ∀ i u, l[i]? = some u → μ.f.im r (o + i) u)
/-- a place in such cells -/
def IP (μ : Mu) (l : List Value) (v' : Value) : Prop :=
  ∃ r o, v' = .pointer (some ⟨r, o, none⟩) ∧ ∀ i u, l[i]? = some u → μ.f.im r (o + i) u

def litV : Value → Bool
  | .bool _ | .int _ _ | .float _ _ | .complex _ _ _ | .string _ | .pointer none | .slice none 0 0 | .map none | .chan none | .nilFunc | .nilIface => true
  | _ => false

mutual
inductive VR (μ : Mu) : Value → Value → Prop
  | lit (v : Value) (h : litV v = true) : VR μ v v
  | ptr (a a' : Addr) (h : PR μ a a') : VR μ (.pointer (some a)) (.pointer (some a'))
  | slice (a a' : Addr) (len k cap : Nat) (h : SR μ a a' len k cap) : VR μ (.slice (some a) len k) (.slice (some a') len cap)
  | map (b r : Nat) (h : BR μ b r) : VR μ (.map (some b)) (.map (some r))
  | func (f : FuncId) (x y x' y' : List Value) (hx : VRs μ x x') (hy : VRs μ y y') : VR μ (.func (.func f) ⟨x⟩ ⟨y⟩) (.func (.func f) ⟨x'⟩ ⟨y'⟩)
  | iface (t : TypeId) (v v' : Value) (h : VR μ v v') : VR μ (.iface t v) (.iface t v')
  | agg (x x' : List Value) (h : VRs μ x x') : VR μ (.agg ⟨x⟩) (.agg ⟨x'⟩)
  | tuple (x x' : List Value) (h : VRs μ x x') : VR μ (.tuple ⟨x⟩) (.tuple ⟨x'⟩)
  | imm (l : List Value) (n k : Nat) (v' : Value) (h : IS μ l n k v') : VR μ (.func (.yield 0) ⟨l⟩ ⟨[.slice none n k]⟩) v'
  | immp (l : List Value) (v' : Value) (h : IP μ l v') : VR μ (.func (.yield 1) ⟨l⟩ ⟨[]⟩) v'
  | any (v' : Value) : VR μ (.func (.yield 2) ⟨[]⟩ ⟨[]⟩) v'
inductive VRs (μ : Mu) : List Value → List Value → Prop
  | nil : VRs μ [] []
  | cons (v v' : Value) (l l' : List Value) (h : VR μ v v') (hl : VRs μ l l') : VRs μ (v :: l) (v' :: l')
end

/-- later: blocks keep their places, or are no more -/
def Later (μ μ' : Mu) : Prop := (μ.n ≤ μ'.n ∧ ∀ r i v, μ.f.im r i v → μ'.f.im r i v) ∧ ∀ b, μ.has b → μ' b = μ b ∨ μ' b = .dead

theorem Later.refl (μ : Mu) : Later μ μ := ⟨⟨Nat.le_refl _, fun _ _ _ h => h⟩, fun _ _ => .inl rfl⟩
theorem Later.no {μ μ' : Mu} (h : Later μ μ') {b : Nat} (hb : μ.has b) : μ'.has b := by
  refine ⟨Nat.lt_of_lt_of_le hb.1 h.1.1, ?_⟩
  rcases h.2 b hb with e | e <;> rw [e]
  · exact hb.2
  · intro h; cases h
theorem Later.at_ {μ μ' : Mu} (h : Later μ μ') {b r ro sz : Nat} (hb : μ.has b) (e : μ' b = .at_ r ro sz) : μ b = .at_ r ro sz := by
  rcases h.2 b hb with e' | e'
  · exact e' ▸ e
  · rw [e'] at e; cases e
theorem Later.trans {μ μ' μ'' : Mu} (h : Later μ μ') (h' : Later μ' μ'') : Later μ μ'' := by
  refine ⟨⟨Nat.le_trans h.1.1 h'.1.1, fun r i v hv => h'.1.2 r i v (h.1.2 r i v hv)⟩, fun b hb => ?_⟩
  rcases h'.2 b (h.no hb) with e | e
  · rw [e]; exact h.2 b hb
  · exact .inr e

theorem PR.later {μ μ' : Mu} (hl : Later μ μ') {a a' : Addr} (h : PR μ a a') : PR μ' a a' :=
  ⟨h.1, hl.no h.2.1, fun r ro sz e => h.2.2 r ro sz (hl.at_ h.2.1 e)⟩
theorem SR.later {μ μ' : Mu} (hl : Later μ μ') {a a' : Addr} {len k cap : Nat} (h : SR μ a a' len k cap) : SR μ' a a' len k cap :=
  ⟨h.1, hl.no h.2.1, h.2.2.1, fun r ro sz e => h.2.2.2 r ro sz (hl.at_ h.2.1 e)⟩
theorem BR.later {μ μ' : Mu} (hl : Later μ μ') {b r : Nat} (h : BR μ b r) : BR μ' b r :=
  ⟨hl.no h.1, fun r ro sz e => h.2 r ro sz (hl.at_ h.1 e)⟩

theorem IS.later {μ μ' : Mu} (hl : Later μ μ') {l : List Value} {n k : Nat} {v' : Value} (h : IS μ l n k v') : IS μ' l n k v' := by
  obtain ⟨a, cap, e, hc, h⟩ := h
  refine ⟨a, cap, e, hc, h.imp id fun ⟨r, o, h1, h2, h3⟩ => ⟨r, o, h1, h2, fun i u hi => hl.1.2 _ _ _ (h3 i u hi)⟩⟩
theorem IP.later {μ μ' : Mu} (hl : Later μ μ') {l : List Value} {v' : Value} (h : IP μ l v') : IP μ' l v' := by
  obtain ⟨r, o, e, h⟩ := h
  exact ⟨r, o, e, fun i u hi => hl.1.2 _ _ _ (h i u hi)⟩
mutual
theorem VR.later {μ μ' : Mu} (hl : Later μ μ') : ∀ {v v' : Value}, VR μ v v' → VR μ' v v'
  | _, _, .lit v h => .lit v h
  | _, _, .ptr a a' h => .ptr a a' (h.later hl)
  | _, _, .slice a a' l k c h => .slice a a' l k c (h.later hl)
  | _, _, .map b r h => .map b r (h.later hl)
  | _, _, .func f x y x' y' hx hy => .func f x y x' y' (hx.later hl) (hy.later hl)
  | _, _, .iface t v v' h => .iface t v v' (h.later hl)
  | _, _, .agg x x' h => .agg x x' (h.later hl)
  | _, _, .tuple x x' h => .tuple x x' (h.later hl)
  | _, _, .imm l n k v' h => .imm l n k v' (h.later hl)
  | _, _, .immp l v' h => .immp l v' (h.later hl)
  | _, _, .any v' => .any v'
theorem VRs.later {μ μ' : Mu} (hl : Later μ μ') : ∀ {l l' : List Value}, VRs μ l l' → VRs μ' l l'
  | _, _, .nil => .nil
  | _, _, .cons v v' l l' h hl' => .cons v v' l l' (h.later hl) (hl'.later hl)
end

section lists
variable {μ : Mu}
theorem VRs.length : ∀ {l l' : List Value}, VRs μ l l' → l.length = l'.length
  | _, _, .nil => rfl
  | _, _, .cons _ _ _ _ _ h => by simp [h.length]
theorem VRs.get : ∀ {l l' : List Value}, VRs μ l l' → ∀ {i : Nat} {v : Value}, l[i]? = some v → ∃ v', l'[i]? = some v' ∧ VR μ v v'
  | _, _, .nil, _, _, e => by simp at e
  | _, _, .cons v v' l l' h hl, 0, _, e => ⟨v', rfl, by simp at e; exact e ▸ h⟩
  | _, _, .cons v v' l l' h hl, i + 1, _, e => by simpa using hl.get (by simpa using e)
theorem VRs.of_get : ∀ {l l' : List Value}, l.length = l'.length → (∀ (i : Nat) (v : Value), l[i]? = some v → ∃ v', l'[i]? = some v' ∧ VR μ v v') → VRs μ l l'
  | [], [], _, _ => .nil
  | [], _ :: _, e, _ => by simp at e
  | _ :: _, [], e, _ => by simp at e
  | v :: l, v' :: l', e, h => by
    refine .cons _ _ _ _ ?_ (VRs.of_get (by simpa using e) fun i u hu => ?_)
    · obtain ⟨u, hu, hv⟩ := h 0 v rfl
      simp at hu; exact hu ▸ hv
    · exact by simpa using h (i + 1) u (by simpa using hu)
theorem VRs.append : ∀ {l l' m m' : List Value}, VRs μ l l' → VRs μ m m' → VRs μ (l ++ m) (l' ++ m')
  | _, _, _, _, .nil, h => h
  | _, _, _, _, .cons v v' l l' h hl, hm => .cons v v' _ _ h (hl.append hm)
theorem VRs.take {l l' : List Value} (h : VRs μ l l') (k : Nat) : VRs μ (l.take k) (l'.take k) := by
  induction k generalizing l l' with
  | zero => exact .nil
  | succ k ih => cases h with
    | nil => exact .nil
    | cons v v' l l' h hl => exact .cons _ _ _ _ h (ih hl)
theorem VRs.drop {l l' : List Value} (h : VRs μ l l') (k : Nat) : VRs μ (l.drop k) (l'.drop k) := by
  induction k generalizing l l' with
  | zero => exact h
  | succ k ih => cases h with
    | nil => exact .nil
    | cons v v' l l' h hl => exact ih hl
theorem VRs.lits : ∀ {l : List Value}, (∀ v ∈ l, litV v = true) → VRs μ l l
  | [], _ => .nil
  | v :: l, h => .cons _ _ _ _ (.lit v (h v (by simp))) (VRs.lits fun u hu => h u (by simp [hu]))
theorem lit_leaf {v : Value} (h : litV v = true) : leaf v = true := by
  cases v <;> first | rfl | (simp [litV] at h)
theorem VR.leaf_eq {v v' : Value} (h : VR μ v v') (hl : leaf v = true) : leaf v' = true := by
  cases h with
  | lit v h => exact hl
  | imm l n k v' h => obtain ⟨a, cap, rfl, _⟩ := h; rfl
  | immp l v' h => obtain ⟨r, o, rfl, _⟩ := h; rfl
  | any v' => cases hl
  | func f x y x' y' hx hy => rfl
  | agg x x' h => cases hl
  | tuple x x' h => cases hl
  | _ => rfl
theorem VR.cells {v v' : Value} (h : VR μ v v') (hk : kn v = true) : VRs μ (cellsOf v) (cellsOf v') := by
  cases h with
  | imm l n k v' h => have := h; obtain ⟨a, cap, rfl, _⟩ := h; exact .cons _ _ _ _ (.imm l n k _ this) .nil
  | immp l v' h => have := h; obtain ⟨r, o, rfl, _⟩ := h; exact .cons _ _ _ _ (.immp l _ this) .nil
  | any v' => cases hk
  | agg x x' h => exact h
  | lit v h => cases v <;> first | exact .cons _ _ _ _ (.lit _ h) .nil | (simp [litV] at h)
  | ptr a a' h => exact .cons _ _ _ _ (.ptr _ _ h) .nil
  | slice a a' l k c h => exact .cons _ _ _ _ (.slice _ _ _ _ _ h) .nil
  | map b r h => exact .cons _ _ _ _ (.map _ _ h) .nil
  | func f x y x' y' hx hy => exact .cons _ _ _ _ (.func _ _ _ _ _ hx hy) .nil
  | iface t v v' h => exact .cons _ _ _ _ (.iface _ _ _ h) .nil
  | tuple x x' h => exact .cons _ _ _ _ (.tuple _ _ h) .nil
end lists

/-! inversions -/
section inv
variable {μ : Mu} {v' : Value}
theorem VR.int {k : IntKind} {i : Int} (h : VR μ (.int k i) v') : v' = .int k i := by cases h; rfl
theorem VR.bool {b : Bool} (h : VR μ (.bool b) v') : v' = .bool b := by cases h; rfl
theorem VR.string {s : ByteArray} (h : VR μ (.string s) v') : v' = .string s := by cases h; rfl
theorem VR.nilPtr (h : VR μ (.pointer none) v') : v' = .pointer none := by cases h; rfl
theorem VR.pointer {a : Addr} (h : VR μ (.pointer (some a)) v') : ∃ a', v' = .pointer (some a') ∧ PR μ a a' := by
  cases h with
  | lit _ h => simp [litV] at h
  | ptr a a' h => exact ⟨a', rfl, h⟩
theorem VR.sliceI {a : Addr} {len k : Nat} (h : VR μ (.slice (some a) len k) v') : ∃ a' cap, v' = .slice (some a') len cap ∧ SR μ a a' len k cap := by
  cases h with
  | lit _ h => simp [litV] at h
  | slice a a' l k c h => exact ⟨a', c, rfl, h⟩
theorem VR.nilSlice {len k : Nat} (h : VR μ (.slice none len k) v') : v' = .slice none 0 0 ∧ len = 0 ∧ k = 0 := by
  cases h with
  | lit _ h =>
    cases len <;> cases k <;> simp [litV] at h
    exact ⟨rfl, rfl, rfl⟩
theorem VR.nilFunc (h : VR μ .nilFunc v') : v' = .nilFunc := by cases h; rfl
theorem VR.nilIface (h : VR μ .nilIface v') : v' = .nilIface := by cases h; rfl
theorem VR.ifaceI {t : TypeId} {v : Value} (h : VR μ (.iface t v) v') : ∃ u, v' = .iface t u ∧ VR μ v u := by
  cases h with
  | lit _ h => simp [litV] at h
  | iface t v v' h => exact ⟨v', rfl, h⟩
theorem VR.aggI {x : Array Value} (h : VR μ (.agg x) v') : ∃ x', v' = .agg ⟨x'⟩ ∧ VRs μ x.toList x' := by
  cases h with
  | lit _ h => simp [litV] at h
  | agg x x' h => exact ⟨x', rfl, h⟩
theorem VR.tupleI {x : Array Value} (h : VR μ (.tuple x) v') : ∃ x', v' = .tuple ⟨x'⟩ ∧ VRs μ x.toList x' := by
  cases h with
  | lit _ h => simp [litV] at h
  | tuple x x' h => exact ⟨x', rfl, h⟩
theorem VR.funcI {f : FuncId} {x y : Array Value} (h : VR μ (.func (.func f) x y) v') : ∃ x' y', v' = .func (.func f) ⟨x'⟩ ⟨y'⟩ ∧ VRs μ x.toList x' ∧ VRs μ y.toList y' := by
  cases h with
  | lit _ h => simp [litV] at h
  | func f x y x' y' hx hy => exact ⟨x', y', rfl, hx, hy⟩
theorem VR.mapI {b : Nat} (h : VR μ (.map (some b)) v') : ∃ r, v' = .map (some r) ∧ BR μ b r := by
  cases h with
  | lit _ h => simp [litV] at h
  | map b r h => exact ⟨r, rfl, h⟩
theorem VR.nilMap (h : VR μ (.map none) v') : v' = .map none := by cases h; rfl
theorem VR.immI {l : List Value} {n k : Nat} (h : VR μ (.func (.yield 0) ⟨l⟩ ⟨[.slice none n k]⟩) v') : IS μ l n k v' := by
  cases h with
  | lit _ h => simp [litV] at h
  | imm _ _ _ _ h => exact h
theorem VR.immpI {l y : Array Value} (h : VR μ (.func (.yield 1) l y) v') : IP μ l.toList v' := by
  cases h with
  | lit _ h => simp [litV] at h
  | immp _ _ h => exact h
theorem VR.immS {l : List Value} {n k : Nat} (h : VR μ (.func (.yield 0) ⟨l⟩ ⟨[.slice none (n + 1) k]⟩) v') : ∃ r o cap, v' = .slice (some ⟨r, o, none⟩) (n + 1) cap ∧ (n + 1) * k ≤ l.length ∧ ∀ i u, l[i]? = some u → μ.f.im r (o + i) u := by
  obtain ⟨a, cap, rfl, _, h3⟩ := h.immI
  obtain ⟨r, o, rfl, h1, h2⟩ := h3.resolve_left (by omega)
  exact ⟨r, o, cap, rfl, h1, h2⟩
theorem VR.undef : VR μ undef undef := .tuple [] [] .nil
end inv

/-- what of a real block's frozen range is known -/
def FzR (lo hi ro fz len size : Nat) (s : Bool) : Prop :=
  len < fz ∨ (match s, fz with
    | false, 0 => lo = hi
    | false, fz => lo = hi ∨ hi ≤ ro + fz
    | true, fz => fz = 0 ∧ (lo = hi ∨ size ≤ lo))

def EntR (μ : Mu) (e e' : MapEntry) : Prop := e.key = e'.key ∧ litV e.key = true ∧ VR μ e.val e'.val ∧ e.born = e'.born

inductive ObjR (μ : Mu) (ro sz : Nat) : AObj → Obj → Prop
  | cells (c : List Value) (e : TypeId) (fz : Nat) (s : Bool) (c' : Array Value) (lo hi : Nat) (hsz : c'.size = sz) (hlen : ro + c.length ≤ sz)
      (hc : ∀ (i : Nat) (v : Value), c[i]? = some v → ∃ v', c'[ro + i]? = some v' ∧ VR μ v v') (hf : FzR lo hi ro fz c.length sz s) :
      ObjR μ ro sz (.cells c e fz s) (.cells c' e (lo, hi))
  | siter (s : ByteArray) (pos : Nat) (hro : ro = 0) : ObjR μ ro sz (.siter s pos) (.stringIter s pos)
  | map (es : List MapEntry) (clock : Nat) (es' : List MapEntry) (hro : ro = 0) (hl : es.length = es'.length)
      (he : ∀ (i : Nat) (e : MapEntry), es[i]? = some e → ∃ e', es'[i]? = some e' ∧ EntR μ e e') : ObjR μ ro sz (.map es clock) (.map ⟨es'⟩ clock)
  | miterNil (since : Nat) (seen : List Nat) (st : Nat) (hro : ro = 0) : ObjR μ ro sz (.miter none since seen st) (.mapIter none since ⟨seen⟩ st)
  | miter (b r since : Nat) (seen : List Nat) (st : Nat) (hro : ro = 0) (h : BR μ b r) :
      ObjR μ ro sz (.miter (some b) since seen st) (.mapIter (some r) since ⟨seen⟩ st)

theorem ObjR.later {μ μ' : Mu} {ro sz : Nat} {o : AObj} {o' : Obj} (hl : Later μ μ') (h : ObjR μ ro sz o o') : ObjR μ' ro sz o o' := by
  cases h with
  | cells c e fz s c' lo hi hsz hlen hc hf =>
    exact .cells c e fz s c' lo hi hsz hlen (fun i v e => let ⟨v', e', h⟩ := hc i v e; ⟨v', e', h.later hl⟩) hf
  | siter s pos h => exact .siter s pos h
  | map es clock es' hro hlen he =>
    exact .map es clock es' hro hlen fun i e h => let ⟨e', h1, h2, h3, h4, h5⟩ := he i e h; ⟨e', h1, h2, h3, h4.later hl, h5⟩
  | miterNil a b c h => exact .miterNil a b c h
  | miter b r since seen st hro h => exact .miter b r since seen st hro (h.later hl)

/-- names nothing -/
def cl : Value → Bool
  | .func (.yield n) _ _ => Nat.blt n 2
  | v => litV v
theorem VR.cl_im {μ ν : Mu} (hi : ∀ r i v, μ.f.im r i v → ν.f.im r i v) {v v' : Value} (h : VR μ v v') (hc : cl v = true) : VR ν v v' := by
  have hl : ∀ {u : Value}, litV u = true → VR ν u u := fun hu => .lit _ hu
  cases h with
  | lit v h => exact .lit v h
  | imm l n k v' h =>
    obtain ⟨a, cap, e, hc, h⟩ := h
    exact .imm l n k v' ⟨a, cap, e, hc, h.imp id fun ⟨r, o, h1, h2, h3⟩ => ⟨r, o, h1, h2, fun i u hu => hi _ _ _ (h3 i u hu)⟩⟩
  | immp l v' h =>
    obtain ⟨r, o, e, h⟩ := h
    exact .immp l v' ⟨r, o, e, fun i u hu => hi _ _ _ (h i u hu)⟩
  | any v' => exact .any v'
  | _ => simp [cl, litV] at hc
def ImmOk (μ : Mu) (w : World) : Prop := ∀ r i v, μ.f.im r i v → (∀ b ro sz, μ b ≠ .at_ r ro sz) ∧ cl v = true ∧ ∃ c' e z v', w.heap[r]? = some (.cells c' e z) ∧ c'[i]? = some v' ∧ VR μ v v'

structure Rel (μ : Mu) (h : AH) (w : World) : Prop where
  nx : μ.n = h.next
  inj : ∀ b c r ro sz ro' sz', μ b = .at_ r ro sz → μ c = .at_ r ro' sz' → b = c
  low : ∀ b, μ b ≠ .no → b < h.next
  dead : ∀ b, μ b = .dead → h.get b = none
  dom : ∀ b r ro sz, μ b = .at_ r ro sz → ∃ o o', h.get b = some o ∧ w.heap[r]? = some o' ∧ ObjR μ ro sz o o'
  top : ∀ b, h.next ≤ b → h.get b = none
  imm : ImmOk μ w

theorem ImmOk.keep {μ μ' : Mu} {w w' : World} (hi : ImmOk μ w) (hl : Later μ μ') (him : ∀ r i v, μ'.f.im r i v → μ.f.im r i v)
    (frame : ∀ r, r < w.heap.size → (∀ b ro sz, μ b ≠ .at_ r ro sz) → w'.heap[r]? = w.heap[r]?)
    (range : ∀ b r ro sz, μ' b = .at_ r ro sz → w.heap.size ≤ r ∨ ∃ c ro' sz', μ c = .at_ r ro' sz') : ImmOk μ' w' := by
  intro r i v hv
  obtain ⟨h1, h2, c', e, z, v', h3, h4, h5⟩ := hi r i v (him r i v hv)
  have hlt : r < w.heap.size := (Array.getElem?_eq_some_iff.1 h3).1
  refine ⟨fun b ro sz hb => ?_, h2, c', e, z, v', by rw [frame r hlt h1]; exact h3, h4, h5.later hl⟩
  rcases range b r ro sz hb with h6 | ⟨c, ro', sz', h6⟩
  · omega
  · exact h1 _ _ _ h6

/-- a block that nobody may write -/
def Stone (h : AH) (b : Nat) : Prop := ∃ c e fz s, h.get b = some (.cells c e fz s) ∧ c.length < fz

structure Post (μ : Mu) (h : AH) (w : World) (μ' : Mu) (h' : AH) (w' : World) : Prop where
  later : Later μ μ'
  next : h.next ≤ h'.next
  low : ∀ b, b < h.next → μ b = .no → μ' b = .no
  size : w.heap.size ≤ w'.heap.size
  range : ∀ b r ro sz, μ' b = .at_ r ro sz → w.heap.size ≤ r ∨ ∃ c ro' sz', μ c = .at_ r ro' sz'
  frame : ∀ r, r < w.heap.size → (∀ b ro sz, μ b ≠ .at_ r ro sz) → w'.heap[r]? = w.heap[r]?
  stone : ∀ b, Stone h b → h'.get b = h.get b ∧ ∀ r ro sz, μ b = .at_ r ro sz → μ' b = μ b ∧ w'.heap[r]? = w.heap[r]?
  rel : Rel μ' h' w'
  imr : ∀ r i v, μ'.f.im r i v → μ.f.im r i v ∨ w.heap.size ≤ r ∨ ∃ c ro sz, μ c = .at_ r ro sz
  still : w'.os = w.os ∧ w'.output = w.output

theorem Post.refl {μ : Mu} {h : AH} {w : World} (hr : Rel μ h w) : Post μ h w μ h w :=
  ⟨.refl _, Nat.le_refl _, fun _ _ e => e, Nat.le_refl _, fun b _r ro sz e => .inr ⟨b, ro, sz, e⟩, fun _ _ _ => rfl, fun _ _ => ⟨rfl, fun _ _ _ _ => ⟨rfl, rfl⟩⟩, hr, fun _ _ _ h => .inl h, rfl, rfl⟩

theorem Stone.of_eq {h h' : AH} {b : Nat} (hs : Stone h b) (e : h'.get b = h.get b) : Stone h' b := by
  unfold Stone at *; rw [e]; exact hs

theorem Post.trans {μ μ₁ μ₂ : Mu} {h h₁ h₂ : AH} {w w₁ w₂ : World} (p : Post μ h w μ₁ h₁ w₁) (q : Post μ₁ h₁ w₁ μ₂ h₂ w₂) : Post μ h w μ₂ h₂ w₂ where
  later := p.later.trans q.later
  next := Nat.le_trans p.next q.next
  low := fun b hb e => q.low b (Nat.lt_of_lt_of_le hb p.next) (p.low b hb e)
  size := Nat.le_trans p.size q.size
  range := fun b r ro sz e => by
    rcases q.range b r ro sz e with h1 | ⟨c, ro', sz', h1⟩
    · exact .inl (Nat.le_trans p.size h1)
    · exact p.range _ _ _ _ h1
  frame := fun r hr hn => by
    rw [q.frame r (Nat.lt_of_lt_of_le hr p.size), p.frame r hr hn]
    intro b ro sz e
    rcases p.range _ _ _ _ e with h1 | ⟨c, ro', sz', h1⟩
    · omega
    · exact hn _ _ _ h1
  stone := fun b hs => by
    obtain ⟨e1, h1⟩ := p.stone b hs
    obtain ⟨e2, h2⟩ := q.stone b (hs.of_eq e1)
    refine ⟨e2.trans e1, fun r ro sz e => ?_⟩
    obtain ⟨e3, h3⟩ := h1 r ro sz e
    obtain ⟨e4, h4⟩ := h2 r ro sz (e3.trans e)
    exact ⟨e4.trans e3, h4.trans h3⟩
  rel := q.rel
  still := ⟨q.still.1.trans p.still.1, q.still.2.trans p.still.2⟩
  imr := fun r i v h => by
    rcases q.imr r i v h with h1 | h1 | ⟨c, ro, sz, h1⟩
    · exact p.imr r i v h1
    · exact .inr (.inl (Nat.le_trans p.size h1))
    · exact .inr (p.range _ _ _ _ h1)

/-! the moves -/
theorem getElem?_push_lt {α : Type} (a : Array α) (x : α) (i : Nat) (h : i < a.size) : (a.push x)[i]? = a[i]? := by
  rw [Array.getElem?_push]; simp [Nat.ne_of_lt h]

theorem Rel.lt {μ : Mu} {h : AH} {w : World} (hr : Rel μ h w) {b r ro sz : Nat} (e : μ b = .at_ r ro sz) : b < h.next ∧ r < w.heap.size := by
  obtain ⟨o, o', _, h3, _⟩ := hr.dom b r ro sz e
  exact ⟨hr.low b (by rw [e]; intro h; cases h), (Array.getElem?_eq_some_iff.1 h3).1⟩
theorem Rel.top_ne {μ : Mu} {h : AH} {w : World} (hr : Rel μ h w) {b : Nat} {o : AObj} (e : h.get b = some o) : b < h.next := by
  rcases Nat.lt_or_ge b h.next with h1 | h1
  · exact h1
  · rw [hr.top b h1] at e; cases e
theorem Stone.lt {μ : Mu} {h : AH} {w : World} (hr : Rel μ h w) {b : Nat} (hs : Stone h b) : b < h.next := by
  obtain ⟨c, e, fz, s, h1, _⟩ := hs
  exact hr.top_ne h1
theorem Rel.next_no {μ : Mu} {h : AH} {w : World} (hr : Rel μ h w) : μ h.next = .no := by
  cases e : μ h.next with
  | no => rfl
  | _ => exact absurd (hr.low h.next (by rw [e]; intro h; cases h)) (Nat.lt_irrefl _)
/-- where a block is there, and may be named, it lies in the world -/
theorem Rel.lies {μ : Mu} {h : AH} {w : World} (hr : Rel μ h w) {b : Nat} {o : AObj} (e : h.get b = some o) (hb : μ.has b) :
    ∃ r ro sz o', μ b = .at_ r ro sz ∧ w.heap[r]? = some o' ∧ ObjR μ ro sz o o' := by
  cases hm : μ b with
  | no => exact absurd hm hb.2
  | dead => rw [hr.dead b hm] at e; cases e
  | at_ r ro sz =>
    obtain ⟨o₁, o', h1, h2, h3⟩ := hr.dom b r ro sz hm
    rw [e] at h1; cases h1
    exact ⟨r, ro, sz, o', rfl, h2, h3⟩

/-- the world may draw -/
theorem Post.same {μ : Mu} {h : AH} {w w' : World} (hr : Rel μ h w) (e : w'.heap = w.heap) (hs : w'.os = w.os ∧ w'.output = w.output := by exact ⟨rfl, rfl⟩) : Post μ h w μ h w' where
  still := hs
  later := .refl _
  next := Nat.le_refl _
  low := fun _ _ e => e
  size := by rw [e]; exact Nat.le_refl _
  range := fun b r ro sz e => .inr ⟨b, ro, sz, e⟩
  frame := fun _ _ _ => by rw [e]
  stone := fun _ _ => ⟨rfl, fun _ _ _ _ => ⟨rfl, by rw [e]⟩⟩
  rel := ⟨hr.nx, hr.inj, hr.low, hr.dead, fun b r ro sz h => by rw [e]; exact hr.dom b r ro sz h, hr.top, hr.imm.keep (.refl _) (fun _ _ _ h => h) (fun _ _ _ => by rw [e]) (fun b r ro sz e => .inr ⟨b, ro, sz, e⟩)⟩
  imr := fun _ _ _ h => .inl h

/-- a block more, in the place of an elder one, or of none -/
theorem Post.fresh {μ : Mu} {h : AH} {w w' : World} {o : AObj} {o' : Obj} {sz : Nat} (hr : Rel μ h w) (dead : Option Nat)
    (hd : ∀ b, dead = some b → ¬ Stone h b ∧ μ.has b) (hw : w'.heap = w.heap.push o')
    (ho : ∀ μ', Later μ μ' → ObjR μ' 0 sz o o') (hs : w'.os = w.os ∧ w'.output = w.output := by exact ⟨rfl, rfl⟩) :
    ∃ μ', Post μ h w μ' ((match dead with | some b => h.put b none | none => h).alloc o) w' ∧ (μ' h.next = .at_ w.heap.size 0 sz ∧ h.next < μ'.n) ∧
      (∀ c, c ≠ h.next → dead ≠ some c → μ' c = μ c) := by
  have hn : (match dead with | some b => h.put b none | none => h).next = h.next := by cases dead <;> rfl
  have hg : ∀ c, ((match dead with | some b => h.put b none | none => h).alloc o).get c = if c = h.next then some o else if dead = some c then none else h.get c := by
    intro c
    rw [AH.get_alloc, hn]
    split
    · rfl
    · cases dead with
      | none => simp
      | some b => simp only [AH.get_put]; by_cases e : c = b
                  · simp [e]
                  · have : b ≠ c := fun h => e h.symm
                    simp [e, this]
  have hnn := hr.next_no
  refine ⟨⟨h.next + 1, ⟨fun c => if c = h.next then .at_ w.heap.size 0 sz else if dead = some c then .dead else μ c, μ.f.im⟩⟩, ?_, ⟨by simp, by simp⟩, fun c h1 h2 => by simp [h1, h2]⟩
  have hl : Later μ ⟨h.next + 1, ⟨fun c => if c = h.next then .at_ w.heap.size 0 sz else if dead = some c then .dead else μ c, μ.f.im⟩⟩ := by
    refine ⟨by rw [hr.nx]; simp, fun b hb => ?_⟩
    have : b ≠ h.next := by have := hb.1; rw [hr.nx] at this; omega
    by_cases e : dead = some b
    · right; simp [this, e]
    · left; simp [this, e]
  refine ⟨hl, by rw [AH.next_alloc, hn]; omega, ?_, by rw [hw]; simp, ?_, ?_, ?_, ?_, fun _ _ _ h => .inl h, hs⟩
  · intro b hb e
    have h1 : b ≠ h.next := by omega
    have h2 : dead ≠ some b := fun e' => (hd b e').2.2 e
    simp [h1, h2, e]
  · intro b r ro s e
    try simp only at e
    split at e
    · simp at e; left; omega
    · split at e
      · cases e
      · exact .inr ⟨b, ro, s, e⟩
  · intro r hr' _; rw [hw]; exact getElem?_push_lt _ _ _ hr'
  · intro b hs
    have hb : b ≠ h.next := by have := hs.lt hr; omega
    have hb2 : dead ≠ some b := fun e => (hd b e).1 hs
    refine ⟨by rw [hg, if_neg hb, if_neg hb2], fun r ro sz e => ⟨by simp [hb, hb2], ?_⟩⟩
    rw [hw]; exact getElem?_push_lt _ _ _ (hr.lt e).2
  · constructor
    · rw [AH.next_alloc, hn]
    · intro b c r ro s ro' s' e e'
      try simp only at e e'
      split at e
      · split at e'
        · omega
        · split at e'
          · cases e'
          · simp at e; have := (hr.lt e').2; omega
      · split at e
        · cases e
        · split at e'
          · simp at e'; have := (hr.lt e).2; omega
          · split at e'
            · cases e'
            · exact hr.inj _ _ _ _ _ _ _ e e'
    · intro b hb
      rw [AH.next_alloc, hn]
      try simp only at hb
      split at hb
      · omega
      · split at hb
        · rename_i e; have := hr.low b (hd b e).2.2; omega
        · have := hr.low b hb; omega
    · intro b hb
      try simp only at hb
      split at hb
      · cases hb
      · rename_i h1
        split at hb
        · rename_i h2; rw [hg, if_neg h1, if_pos h2]
        · rename_i h2; rw [hg, if_neg h1, if_neg h2]; exact hr.dead b hb
    · intro b r ro s e
      try simp only at e
      split at e
      · rename_i hb
        simp at e
        obtain ⟨rfl, rfl, rfl⟩ := e
        exact ⟨o, o', by rw [hg, if_pos hb], by rw [hw]; simp, ho _ hl⟩
      · rename_i hb
        split at e
        · cases e
        · rename_i hb2
          obtain ⟨p, p', h2, h3, h4⟩ := hr.dom b r ro s e
          refine ⟨p, p', by rw [hg, if_neg hb, if_neg hb2, h2], ?_, h4.later hl⟩
          rw [hw, getElem?_push_lt _ _ _ (hr.lt e).2, h3]
    · intro b hb
      rw [AH.next_alloc, hn] at hb
      rw [hg, if_neg (by omega)]
      split
      · rfl
      · exact hr.top b (by omega)
    · refine hr.imm.keep hl (fun _ _ _ h => h) (fun r hr' _ => by rw [hw]; exact getElem?_push_lt _ _ _ hr') fun b r ro s e => ?_
      try simp only at e
      split at e
      · simp at e; left; omega
      · split at e
        · cases e
        · exact .inr ⟨b, ro, s, e⟩

theorem Post.alloc {μ : Mu} {h : AH} {w w' : World} {o : AObj} {o' : Obj} {sz : Nat} (hr : Rel μ h w) (hw : w'.heap = w.heap.push o')
    (ho : ∀ μ', Later μ μ' → ObjR μ' 0 sz o o') (hs : w'.os = w.os ∧ w'.output = w.output := by exact ⟨rfl, rfl⟩) :
    ∃ μ', Post μ h w μ' (h.alloc o) w' ∧ μ' h.next = .at_ w.heap.size 0 sz ∧ h.next < μ'.n := by
  obtain ⟨μ', p, e, _⟩ := Post.fresh hr none (fun b e => by cases e) hw ho hs
  exact ⟨μ', p, e⟩

/-- a block is written: its place stays -/
theorem Post.put {μ : Mu} {h : AH} {w w' : World} {b : Nat} {o o₂ : AObj} (hr : Rel μ h w) (hb : h.get b = some o) (hns : ¬ Stone h b)
    (hsz : w'.heap.size = w.heap.size) (hw : ∀ r, (∀ ro sz, μ b ≠ .at_ r ro sz) → w'.heap[r]? = w.heap[r]?)
    (ho : ∀ r ro sz, μ b = .at_ r ro sz → ∃ o₂', w'.heap[r]? = some o₂' ∧ ObjR μ ro sz o₂ o₂') (hs : w'.os = w.os ∧ w'.output = w.output := by exact ⟨rfl, rfl⟩) : Post μ h w μ (h.put b (some o₂)) w' where
  still := hs
  later := .refl _
  next := Nat.le_refl _
  low := fun _ _ e => e
  size := by rw [hsz]; exact Nat.le_refl _
  range := fun b r ro sz e => .inr ⟨b, ro, sz, e⟩
  frame := fun r _ hn => hw r (hn b)
  stone := fun c hs => by
    have hcb : c ≠ b := fun e => hns (e ▸ hs)
    refine ⟨by rw [AH.get_put, if_neg hcb], fun r ro sz e => ⟨rfl, hw r fun ro' sz' e' => hcb (hr.inj _ _ _ _ _ _ _ e e')⟩⟩
  imr := fun _ _ _ h => .inl h
  rel := by
    refine ⟨hr.nx, hr.inj, hr.low, fun c hc => ?_, fun c r ro sz e => ?_, fun c hc => ?_, hr.imm.keep (.refl _) (fun _ _ _ h => h) (fun r _ hn => hw r (hn b)) (fun b r ro sz e => .inr ⟨b, ro, sz, e⟩)⟩
    · have hcb : c ≠ b := by rintro rfl; rw [hr.dead c hc] at hb; cases hb
      rw [AH.get_put, if_neg hcb]; exact hr.dead c hc
    · by_cases hcb : c = b
      · subst hcb
        obtain ⟨o', h1, h2⟩ := ho r ro sz e
        exact ⟨o₂, o', by rw [AH.get_put, if_pos rfl], h1, h2⟩
      · obtain ⟨p, p', h2, h3, h4⟩ := hr.dom c r ro sz e
        refine ⟨p, p', by rw [AH.get_put, if_neg hcb, h2], ?_, h4⟩
        rw [hw r fun ro' sz' e' => hcb (hr.inj _ _ _ _ _ _ _ e e'), h3]
    · simp at hc
      have := hr.top_ne hb
      rw [AH.get_put, if_neg (by omega), hr.top c hc]

/-- a block goes over into a new one that lies in the same place of the world, written there -/
theorem Post.move {μ : Mu} {h : AH} {w w' : World} {b r ro sz ro₂ : Nat} {o o₂ : AObj} {o₂' : Obj} (hr : Rel μ h w) (hb : h.get b = some o) (hns : ¬ Stone h b)
    (hμ : μ b = .at_ r ro sz) (hsz : w'.heap.size = w.heap.size) (hw : ∀ r', r' ≠ r → w'.heap[r']? = w.heap[r']?)
    (hr2 : w'.heap[r]? = some o₂') (ho : ∀ μ', Later μ μ' → ObjR μ' ro₂ sz o₂ o₂') (hs : w'.os = w.os ∧ w'.output = w.output := by exact ⟨rfl, rfl⟩) :
    ∃ μ', Post μ h w μ' ((h.put b none).alloc o₂) w' ∧ μ' h.next = .at_ r ro₂ sz ∧ h.next < μ'.n := by
  have hbn := hr.top_ne hb
  have hnn := hr.next_no
  have hg : ∀ c, ((h.put b none).alloc o₂).get c = if c = h.next then some o₂ else if c = b then none else h.get c := by
    intro c; rw [AH.get_alloc, AH.get_put]; rfl
  have hl : Later μ ⟨h.next + 1, ⟨fun c => if c = h.next then .at_ r ro₂ sz else if c = b then .dead else μ c, μ.f.im⟩⟩ := by
    refine ⟨by rw [hr.nx]; simp, fun c hc => ?_⟩
    have : c ≠ h.next := by have := hc.1; rw [hr.nx] at this; omega
    by_cases e : c = b
    · right; simp [e]; omega
    · left; simp [this, e]
  refine ⟨⟨h.next + 1, ⟨fun c => if c = h.next then .at_ r ro₂ sz else if c = b then .dead else μ c, μ.f.im⟩⟩, ⟨hl, by simp, ?_, by rw [hsz]; exact Nat.le_refl _, ?_, ?_, ?_, ?_, fun _ _ _ h => .inl h, hs⟩, by simp, by simp⟩
  · intro c hc e
    have h1 : c ≠ h.next := by omega
    have h2 : c ≠ b := by rintro rfl; rw [e] at hμ; cases hμ
    simp [h1, h2, e]
  · intro c r' ro' s' e
    try simp only at e
    split at e
    · simp at e; obtain ⟨rfl, _, _⟩ := e; exact .inr ⟨b, ro, sz, hμ⟩
    · split at e
      · cases e
      · exact .inr ⟨_, _, _, e⟩
  · intro r' _ hn
    exact hw r' fun e => hn b ro sz (e ▸ hμ)
  · intro c hs
    have hc : c ≠ h.next := by have := hs.lt hr; omega
    have hcb : c ≠ b := fun e => hns (e ▸ hs)
    refine ⟨by rw [hg, if_neg hc, if_neg hcb], fun r' ro' s' e => ⟨by simp [hc, hcb], hw r' ?_⟩⟩
    rintro rfl
    exact hcb (hr.inj _ _ _ _ _ _ _ e hμ)
  · constructor
    · rfl
    · intro c d r' ro' s' ro'' s'' e e'
      try simp only at e e'
      split at e
      · split at e'
        · omega
        · split at e'
          · cases e'
          · rename_i hd _ hdb; simp at e; obtain ⟨rfl, _, _⟩ := e; exact absurd (hr.inj _ _ _ _ _ _ _ e' hμ) hdb
      · split at e
        · cases e
        · split at e'
          · rename_i hcb _; simp at e'; obtain ⟨rfl, _, _⟩ := e'; exact absurd (hr.inj _ _ _ _ _ _ _ e hμ) hcb
          · split at e'
            · cases e'
            · exact hr.inj _ _ _ _ _ _ _ e e'
    · intro c hc
      try simp only at hc
      rw [AH.next_alloc, AH.next_put]
      split at hc
      · omega
      · split at hc
        · omega
        · have := hr.low c hc; omega
    · intro c hc
      try simp only at hc
      split at hc
      · cases hc
      · rename_i h1
        split at hc
        · rename_i h2; rw [hg, if_neg h1, if_pos h2]
        · rename_i h2; rw [hg, if_neg h1, if_neg h2]; exact hr.dead c hc
    · intro c r' ro' s' e
      try simp only at e
      split at e
      · rename_i hc
        simp at e
        obtain ⟨rfl, rfl, rfl⟩ := e
        exact ⟨o₂, o₂', by rw [hg, if_pos hc], hr2, ho _ hl⟩
      · rename_i hc
        split at e
        · cases e
        · rename_i hcb
          obtain ⟨p, p', h2, h3, h4⟩ := hr.dom c r' ro' s' e
          refine ⟨p, p', by rw [hg, if_neg hc, if_neg hcb, h2], ?_, h4.later hl⟩
          rw [hw r' (by rintro rfl; exact hcb (hr.inj _ _ _ _ _ _ _ e hμ)), h3]
    · intro c hc
      simp at hc
      rw [hg, if_neg (by omega), if_neg (by omega), hr.top c (by omega)]
    · refine hr.imm.keep hl (fun _ _ _ h => h) (fun r' _ hn => hw r' fun e => hn b ro sz (e ▸ hμ)) fun c r' ro' s' e => ?_
      try simp only at e
      split at e
      · simp at e; obtain ⟨rfl, _, _⟩ := e; exact .inr ⟨b, ro, sz, hμ⟩
      · split at e
        · cases e
        · exact .inr ⟨_, _, _, e⟩
end Go.Ev
end
section
namespace Go.Ev
/-! what the abstract operations say of the model's: those that leave the memory as it is -/

def isAggD : TypeDesc → Bool
  | .struct _ | .array _ _ => true
  | _ => false

structure TIOk (P : Program) (t : TypeId) (i : TI) : Prop where
  und : P.underlying t = some i.desc
  info : ∃ inf, P.info? t = some inf ∧ inf.size = i.size ∧ inf.bytes = i.bytes ∧ inf.zero = i.zero
  agg : i.agg = isAggD i.desc
  eq : i.eqOk = true → P.stoodInHeld t = false ∧ P.eqGuardType P.depth t = false
  zlit : ∀ z, i.zero = some z → (cellsOf z).all (fun v => litV v && leaf v) = true ∧ (cellsOf z).length = i.size

structure TIs (P : Program) (E : Env) : Prop where
  ti : ∀ t i, E.ti t = some i → TIOk P t i

section
variable {P : Program} {E : Env} {t : TypeId} {i : TI} {w : World}
theorem TIs.und (hE : TIs P E) (h : E.ti t = some i) : (underlying t).run P w = .ok i.desc w := by
  simp [underlying, (hE.ti t i h).und]
theorem TIs.size (hE : TIs P E) (h : E.ti t = some i) : (sizeOf t).run P w = .ok i.size w := by
  obtain ⟨inf, h1, h2, _⟩ := (hE.ti t i h).info
  simp [sizeOf, typeInfo, h1, h2]
theorem TIs.info (hE : TIs P E) (h : E.ti t = some i) : ∃ inf, (typeInfo t).run P w = .ok inf w ∧ inf.size = i.size ∧ inf.bytes = i.bytes ∧ inf.zero = i.zero := by
  obtain ⟨inf, h1, h2⟩ := (hE.ti t i h).info
  exact ⟨inf, by simp [typeInfo, h1], h2⟩
theorem TIs.zero (hE : TIs P E) (h : E.ti t = some i) {z : Value} (hz : i.zero = some z) : (zeroValue t).run P w = .ok z w := by
  obtain ⟨inf, h1, _, _, h2⟩ := (hE.ti t i h).info
  simp [zeroValue, typeInfo, h1, h2, hz]
theorem TIs.isAgg (hE : TIs P E) (h : E.ti t = some i) : (isAgg t).run P w = .ok i.agg w := by
  rw [(hE.ti t i h).agg]
  unfold Go.isAgg
  simp only [Sem.run_bind, hE.und h, Result.andThen_ok]
  cases i.desc <;> rfl
theorem TIs.zlits (hE : TIs P E) (h : E.ti t = some i) {z : Value} (hz : i.zero = some z) {μ : Mu} : VRs μ (cellsOf z) (cellsOf z) := by
  refine VRs.lits fun v hv => ?_
  have := List.all_eq_true.1 ((hE.ti t i h).zlit z hz).1 v hv
  simp at this
  exact this.1
theorem TIs.zlen (hE : TIs P E) (h : E.ti t = some i) {z : Value} (hz : i.zero = some z) : (cellsOf z).length = i.size := ((hE.ti t i h).zlit z hz).2
end

theorem cells_eq (v : Value) : v.cells = ⟨cellsOf v⟩ := by cases v <;> rfl
theorem cellsOf_eq (v : Value) : cellsOf v = v.cells.toList := by rw [cells_eq]

section pures
variable {P : Program} {E : Env} {μ : Mu} {w : World}

theorem part_sound (hE : TIs P E) {t : TypeId} {cs cs' : List Value} {o : Nat} {v : Value} (h : partOf E t cs o = some v) (hv : VRs μ cs cs') :
    ∃ v', (part t ⟨cs'⟩ o).run P w = .ok v' w ∧ VR μ v v' := by
  unfold partOf at h
  cases hi : E.ti t with
  | none => rw [hi] at h; cases h
  | some i =>
    simp only [hi] at h
    unfold part
    simp only [Sem.run_bind, hE.isAgg hi, Result.andThen_ok]
    cases ha : i.agg with
    | true =>
      simp only [ha] at h
      split at h
      · simp at h; subst h
        have := (hv.drop o).take i.size
        refine ⟨.agg ⟨(cs'.drop o).take i.size⟩, ?_, .agg _ _ this⟩
        simp only [if_true, Sem.run_bind, hE.size hi, Result.andThen_ok, Sem.run_pure]
        have e : (Array.mk cs').extract o (o + i.size) = ⟨(cs'.drop o).take i.size⟩ := by
          apply Array.ext'
          simp
        rw [e]
      · cases h
    | false =>
      simp only [ha] at h
      obtain ⟨v', h1, h2⟩ := hv.get h
      exact ⟨v', by simp [h1], h2⟩

theorem field_sound (hE : TIs P E) {t : TypeId} {x x' v : Value} {k : Nat} (h : fieldA E t x k = some v) (hv : VR μ x x') :
    ∃ v', (Instr.field t x' k).run P w = .ok v' w ∧ VR μ v v' := by
  unfold fieldA at h
  split at h <;> try (cases h; done)
  rename_i i cs hi
  obtain ⟨cs', rfl, hcs⟩ := hv.aggI
  split at h <;> try (cases h; done)
  rename_i fs hd
  split at h <;> try (cases h; done)
  rename_i f hf
  obtain ⟨v', h1, h2⟩ := part_sound (w := w) hE h hcs
  refine ⟨v', ?_, h2⟩
  have hf' : fs[k]? = some f := by simpa using hf
  simp [Instr.field, hE.und hi, hd, hf', asAgg, h1]

theorem shift_sound {op : BinOp} {k yk : IntKind} {x y : Int} {v : Value} (h : shiftA op k x y = some v) :
    (Op.shift op k x yk y).run P w = .ok v w ∧ litV v = true := by
  unfold shiftA at h
  split at h
  · cases h
  · rename_i hd
    have hy : ¬ y < 0 := by simpa using hd
    split at h <;> try (cases h; done)
    all_goals (cases h; simp [Op.shift, hy, litV])

theorem bits_sound {op : BinOp} {k : IntKind} {x y : Int} {v : Value} (h : bitsA op k x y = some v) :
    (Op.intBits op k x y).run P w = .ok v w ∧ litV v = true := by
  unfold bitsA at h
  split at h <;> try (cases h; done)
  all_goals (cases h; exact ⟨rfl, rfl⟩)

theorem int_sound {op : BinOp} {k : IntKind} {x y : Int} {v : Value} (t : TypeId) (h : intA op k x y = some v) :
    (Go.binOp op t (.int k x) (.int k y)).run P w = .ok v w ∧ litV v = true := by
  cases op <;> simp only [intA] at h
  case shl => cases h
  case shr => cases h
  case quo =>
    split at h <;> cases h
    rename_i hd
    have hy : ¬ y = 0 := by simpa using hd
    simp [Go.binOp, Op.intDiv, hy, litV]
  case rem =>
    split at h <;> cases h
    rename_i hd
    have hy : ¬ y = 0 := by simpa using hd
    simp [Go.binOp, Op.intDiv, hy, litV]
  case and => obtain ⟨h1, h2⟩ := bits_sound (P := P) (w := w) h; exact ⟨by simpa [Go.binOp] using h1, h2⟩
  case or => obtain ⟨h1, h2⟩ := bits_sound (P := P) (w := w) h; exact ⟨by simpa [Go.binOp] using h1, h2⟩
  case xor => obtain ⟨h1, h2⟩ := bits_sound (P := P) (w := w) h; exact ⟨by simpa [Go.binOp] using h1, h2⟩
  case andNot => obtain ⟨h1, h2⟩ := bits_sound (P := P) (w := w) h; exact ⟨by simpa [Go.binOp] using h1, h2⟩
  all_goals (cases h; simp [Go.binOp, Op.intArith, Op.intCmp, litV])

theorem str_sound {op : BinOp} {x y : ByteArray} {v : Value} (t : TypeId) (h : strA op x y = some v) :
    (Go.binOp op t (.string x) (.string y)).run P w = .ok v w ∧ litV v = true := by
  have e : Go.binOp op t (.string x) (.string y) = Op.stringOp op x y := by cases op <;> rfl
  rw [e]
  cases op <;> simp only [strA] at h
  case add =>
    split at h
    · rename_i hs
      have hs' : ¬ ((x.size + y.size : Nat) : Int) > IntKind.i64.max := by
        have := Nat.le_of_ble_eq_true hs
        simp [IntKind.max, IntKind.signed, IntKind.bits]; omega
      cases h
      simp only [Op.stringOp, hs', if_false]
      exact ⟨rfl, rfl⟩
    · cases h
  all_goals first
    | (cases h; done)
    | (cases h; exact ⟨rfl, rfl⟩)
end pures
end Go.Ev
end
section
namespace Go.Ev
section
variable {P : Program} {E : Env} {μ : Mu}

theorem fieldsOf_eq {t : TypeId} {fs : Array Field} (h : P.underlying t = some (.struct fs)) : P.fieldsOf t = fs := by
  simp [Program.fieldsOf, h]

theorem eqFields_sound (hE : TIs P E) {D : Nat} {rec : TypeId → Value → Value → Option Bool}
    (hrec : ∀ {t x y x' y' b} (w : World), rec t x y = some b → VR μ x x' → VR μ y y' → (Op.equalIn D t x' y').run P w = .ok b w) {xs ys : List Value} {xs' ys' : List Value}
    (hx : VRs μ xs xs') (hy : VRs μ ys ys') (w : World) : ∀ {fs : List Field} {b : Bool}, eqFields E rec fs xs ys = some b → (Op.eqFields D ⟨xs'⟩ ⟨ys'⟩ fs).run P w = .ok b w
  | [], b, h => by simp [eqFields] at h; subst h; rfl
  | f :: fs, b, h => by
    unfold eqFields at h
    unfold Op.eqFields
    split at h
    · rename_i hd
      have hn : ¬ f.name ≠ "_" := by simpa using hd
      rw [if_neg hn]
      exact eqFields_sound hE hrec hx hy w h
    · rename_i hd
      have hn : f.name ≠ "_" := by simpa using hd
      rw [if_pos hn]
      split at h <;> try (cases h; done)
      rename_i a c ha hc
      obtain ⟨a', r1, v1⟩ := part_sound (w := w) hE ha hx
      obtain ⟨c', r2, v2⟩ := part_sound (w := w) hE hc hy
      simp only [Sem.run_bind, r1, r2, Result.andThen_ok]
      split at h <;> try (cases h; done)
      · rename_i hr
        have := hrec w hr v1 v2
        simp only [this, Result.andThen_ok]
        simpa using eqFields_sound hE hrec hx hy w h
      · rename_i hr
        have := hrec w hr v1 v2
        simp only [this, Result.andThen_ok]
        cases h; rfl

theorem eqElems_sound (hE : TIs P E) {D : Nat} {e : TypeId} {rec : TypeId → Value → Value → Option Bool} {size : Nat}
    (hrec : ∀ {t x y x' y' b} (w : World), rec t x y = some b → VR μ x x' → VR μ y y' → (Op.equalIn D t x' y').run P w = .ok b w) {xs ys : List Value} {xs' ys' : List Value}
    (hx : VRs μ xs xs') (hy : VRs μ ys ys') (w : World) : ∀ {n i : Nat} {b : Bool}, eqElems E rec e size n i xs ys = some b → (Op.eqItems D e size ⟨xs'⟩ ⟨ys'⟩ (List.range' i n)).run P w = .ok b w
  | 0, i, b, h => by simp [eqElems] at h; subst h; rfl
  | n + 1, i, b, h => by
    unfold eqElems at h
    rw [List.range'_succ]
    unfold Op.eqItems
    split at h <;> try (cases h; done)
    rename_i a c ha hc
    obtain ⟨a', r1, v1⟩ := part_sound (w := w) hE ha hx
    obtain ⟨c', r2, v2⟩ := part_sound (w := w) hE hc hy
    simp only [Sem.run_bind, r1, r2, Result.andThen_ok]
    split at h <;> try (cases h; done)
    · rename_i hr
      have := hrec w hr v1 v2
      simp only [this, Result.andThen_ok]
      simpa using eqElems_sound hE hrec hx hy w h
    · rename_i hr
      have := hrec w hr v1 v2
      simp only [this, Result.andThen_ok]
      cases h; rfl

set_option maxHeartbeats 1000000 in
theorem aeq_sound (hE : TIs P E) : ∀ (d D : Nat), d ≤ D → ∀ {t x y x' y' b} (w : World), aeq E d t x y = some b → VR μ x x' → VR μ y y' → (Op.equalIn D t x' y').run P w = .ok b w
  | 0, _, _, _, _, _, _, _, _, _, h, _, _ => by cases h
  | d + 1, D, hD, t, x, y, x', y', b, w, h, hx, hy => by
    obtain ⟨D, rfl⟩ : ∃ k, D = k + 1 := ⟨D - 1, by omega⟩
    have ih := @aeq_sound hE d D (by omega)
    unfold aeq at h
    cases hi : E.ti t with
    | none => rw [hi] at h; cases h
    | some i =>
      simp only [hi] at h
      have hu := (hE.ti t i hi).und
      split at h
      · rename_i hd; rw [hx.bool, hy.bool]; cases h
        simp [Op.equalIn, underlying, hu, hd]
      · rename_i hd; rw [hx.int, hy.int]
        split at h <;> cases h
        rename_i hk
        have hk' := of_decide_eq_true hk
        subst hk'
        simp [Op.equalIn, underlying, hu, hd]
      · rename_i hd; rw [hx.string, hy.string]; cases h
        simp [Op.equalIn, underlying, hu, hd]
      · rename_i b' hd
        rw [hx.nilPtr]; cases h
        cases b' with
        | none => rw [hy.nilPtr]; simp [Op.equalIn, underlying, hu, hd]
        | some a => obtain ⟨a', rfl, _⟩ := hy.pointer; simp [Op.equalIn, underlying, hu, hd]
      · rename_i hd
        obtain ⟨a', rfl, _⟩ := hx.pointer
        rw [hy.nilPtr]; cases h
        simp [Op.equalIn, underlying, hu, hd]
      · rename_i fs xs ys hd
        split at h
        · rename_i he
          obtain ⟨hs, _⟩ := (hE.ti t i hi).eq he
          obtain ⟨xs', rfl, hxs⟩ := hx.aggI
          obtain ⟨ys', rfl, hys⟩ := hy.aggI
          have hf := fieldsOf_eq (hd ▸ hu)
          rw [run_equalIn_struct w D t _ _ (by rw [hf, hu, hd]) hs, hf]
          exact eqFields_sound hE (fun w => ih w) hxs hys w h
        · cases h
      · rename_i n e xs ys hd
        split at h <;> try (cases h; done)
        rename_i ie he hie
        obtain ⟨xs', rfl, hxs⟩ := hx.aggI
        obtain ⟨ys', rfl, hys⟩ := hy.aggI
        obtain ⟨inf, h1, h2, _⟩ := (hE.ti e ie hie).info
        rw [run_equalIn_array w D _ _ (hd ▸ hu) h1]
        have hc : P.cellsOf e = ie.size := by simp [Program.cellsOf, h1, h2]
        rw [hc, List.range_eq_range']
        exact eqElems_sound hE (fun w => ih w) hxs hys w h
      · rename_i b' _ _ hd
        cases h
        obtain ⟨rfl, _, _⟩ := hx.nilSlice
        cases b' with
        | none => obtain ⟨rfl, _, _⟩ := hy.nilSlice; simp [Op.equalIn, underlying, hu, hd]
        | some a => obtain ⟨a', c, rfl, _⟩ := hy.sliceI; simp [Op.equalIn, underlying, hu, hd]
      · rename_i hd
        cases h
        obtain ⟨a', c, rfl, _⟩ := hx.sliceI
        obtain ⟨rfl, _, _⟩ := hy.nilSlice
        simp [Op.equalIn, underlying, hu, hd]
      · rename_i b' hd
        cases h
        rw [hx.nilMap]
        cases b' with
        | none => rw [hy.nilMap]; simp [Op.equalIn, underlying, hu, hd]
        | some a => obtain ⟨a', rfl, _⟩ := hy.mapI; simp [Op.equalIn, underlying, hu, hd]
      · rename_i hd
        cases h
        obtain ⟨a', rfl, _⟩ := hx.mapI
        rw [hy.nilMap]; simp [Op.equalIn, underlying, hu, hd]
      · rename_i hd
        cases h; rw [hx.nilFunc, hy.nilFunc]; simp [Op.equalIn, underlying, hu, hd]
      · rename_i f a c hd
        cases h; rw [hx.nilFunc]
        cases hy with
        | lit _ h => simp [litV] at h
        | func => simp [Op.equalIn, underlying, hu, hd]
      · rename_i f a c hd
        cases h; rw [hy.nilFunc]
        cases hx with
        | lit _ h => simp [litV] at h
        | func => simp [Op.equalIn, underlying, hu, hd]
      · rename_i hd
        split at h <;> cases h
        obtain ⟨rfl, _, _⟩ := hx.nilSlice
        obtain ⟨r, o, cap, rfl, _⟩ := hy.immS
        simp [Op.equalIn, underlying, hu, hd]
      · rename_i hd
        split at h <;> cases h
        obtain ⟨rfl, _, _⟩ := hy.nilSlice
        obtain ⟨r, o, cap, rfl, _⟩ := hx.immS
        simp [Op.equalIn, underlying, hu, hd]
      · rename_i hd
        cases h
        obtain ⟨r, o, rfl, _⟩ := hy.immpI
        rw [hx.nilPtr]; simp [Op.equalIn, underlying, hu, hd]
      · rename_i hd
        cases h
        obtain ⟨r, o, rfl, _⟩ := hx.immpI
        rw [hy.nilPtr]; simp [Op.equalIn, underlying, hu, hd]
      · rename_i hd
        cases h; rw [hx.nilIface]
        obtain ⟨u, rfl, _⟩ := hy.ifaceI; simp [Op.equalIn, underlying, hu, hd]
      · rename_i hd
        cases h; rw [hy.nilIface]
        obtain ⟨u, rfl, _⟩ := hx.ifaceI; simp [Op.equalIn, underlying, hu, hd]
      · cases h
end
end Go.Ev
end
section
namespace Go.Ev
section
variable {P : Program} {E : Env} {μ : Mu}

/-! building -/
theorem setAt_length : ∀ (c : List Value) (n : Nat) (vs : List Value), (setAt c n vs).length = c.length
  | c, 0, vs => by
    unfold setAt
    induction c generalizing vs with
    | nil => cases vs <;> rfl
    | cons x c ih => cases vs with
      | nil => rfl
      | cons v vs => simp [over]; exact ih vs
  | [], n + 1, vs => rfl
  | x :: c, n + 1, vs => by simp [setAt, setAt_length c n vs]
theorem over_get : ∀ (c vs : List Value) (i : Nat), vs.length ≤ c.length → (over c vs)[i]? = if i < vs.length then vs[i]? else c[i]?
  | c, [], i, _ => by cases c <;> simp [over]
  | [], v :: vs, i, h => by simp at h
  | x :: c, v :: vs, 0, _ => by simp [over]
  | x :: c, v :: vs, i + 1, h => by simp [over]; rw [over_get c vs i (by simpa using h)]
theorem setAt_get : ∀ (c : List Value) (n : Nat) (vs : List Value) (i : Nat), n + vs.length ≤ c.length → (setAt c n vs)[i]? = if n ≤ i ∧ i < n + vs.length then vs[i - n]? else c[i]?
  | c, 0, vs, i, h => by
    unfold setAt; rw [over_get c vs i (by omega)]; simp
  | [], n + 1, vs, i, h => by simp at h
  | x :: c, n + 1, vs, 0, h => by simp [setAt]
  | x :: c, n + 1, vs, i + 1, h => by
    simp only [setAt, List.getElem?_cons_succ]
    rw [setAt_get c n vs i (by simp at h; omega)]
    have e : (n + 1 ≤ i + 1 ∧ i + 1 < n + 1 + vs.length) ↔ (n ≤ i ∧ i < n + vs.length) := by omega
    simp only [e, Nat.add_sub_add_right]

theorem VRs.setAt {c c' vs vs' : List Value} (hc : VRs μ c c') (hv : VRs μ vs vs') (n : Nat) (h : n + vs.length ≤ c.length) : VRs μ (setAt c n vs) (setAt c' n vs') := by
  refine VRs.of_get (by rw [setAt_length, setAt_length, hc.length]) fun i v hi => ?_
  have hl := hv.length
  have hcl := hc.length
  rw [setAt_get _ _ _ _ h] at hi
  rw [setAt_get _ _ _ _ (by omega), ← hl]
  split at hi
  · rename_i hin; rw [if_pos hin]; exact hv.get hi
  · rename_i hin; rw [if_neg hin]; exact hc.get hi

theorem foldl_set (vs : List Value) : ∀ (cs : List Value) (o k : Nat), o + k + vs.length ≤ cs.length →
    (vs.zipIdx k).foldl (fun (cs : Array Value) (p : Value × Nat) => cs.setIfInBounds (o + p.2) p.1) ⟨cs⟩ = ⟨setAt cs (o + k) vs⟩ := by
  induction vs with
  | nil =>
    intro cs o k h
    simp only [List.zipIdx_nil, List.foldl_nil]
    congr 1
    apply List.ext_getElem?
    intro i
    rw [setAt_get _ _ _ _ h]
    have : ¬ (o + k ≤ i ∧ i < o + k + ([] : List Value).length) := by simp
    rw [if_neg this]
  | cons v vs ih =>
    intro cs o k h
    simp only [List.zipIdx_cons, List.foldl_cons]
    have e : (Array.mk cs).setIfInBounds (o + k) v = ⟨cs.set (o + k) v⟩ := by
      apply Array.ext'; simp
    rw [e, ih (cs.set (o + k) v) o (k + 1) (by rw [List.length_set]; simp at h; omega)]
    congr 1
    apply List.ext_getElem?
    intro i
    have hl : (v :: vs).length = vs.length + 1 := rfl
    rw [setAt_get _ _ _ _ (by rw [List.length_set]; simp at h; omega), setAt_get _ _ _ _ h]
    by_cases h1 : i = o + k
    · subst h1
      have a1 : ¬ (o + (k + 1) ≤ o + k ∧ o + k < o + (k + 1) + vs.length) := by omega
      have a2 : o + k ≤ o + k ∧ o + k < o + k + (v :: vs).length := by rw [hl]; omega
      rw [if_neg a1, if_pos a2]
      have : o + k < cs.length := by rw [hl] at h; omega
      simp [this]
    · by_cases h2 : o + (k + 1) ≤ i ∧ i < o + (k + 1) + vs.length
      · have a2 : o + k ≤ i ∧ i < o + k + (v :: vs).length := by rw [hl]; omega
        rw [if_pos h2, if_pos a2]
        obtain ⟨j, hj⟩ : ∃ j, i - (o + k) = j + 1 := ⟨i - (o + k) - 1, by omega⟩
        rw [hj, show i - (o + (k + 1)) = j by omega]; simp
      · have a2 : ¬ (o + k ≤ i ∧ i < o + k + (v :: vs).length) := by rw [hl]; omega
        rw [if_neg h2, if_neg a2]
        simp [List.getElem?_set_ne (fun e => h1 e.symm)]

/-- parts of related values -/
inductive PRs (μ : Mu) : List (Nat × Value) → List (Nat × Value) → Prop
  | nil : PRs μ [] []
  | cons (i : Nat) (v v' : Value) (l l' : List (Nat × Value)) (h : VR μ v v') (hl : PRs μ l l') : PRs μ ((i, v) :: l) ((i, v') :: l')

theorem fill_sound {place place' : Nat → Option (Nat × Nat)} (hpl : ∀ i p, place i = some p → place' i = some p) {parts parts' : List (Nat × Value)} (hp : PRs μ parts parts') :
    ∀ {cells cells' out : List Value}, fillL place parts cells = some out → VRs μ cells cells' → ∃ out', Instr.fill place' ⟨cells'⟩ parts' = some ⟨out'⟩ ∧ VRs μ out out' := by
  induction hp with
  | nil => intro cells cells' out h hc; simp [fillL] at h; subst h; exact ⟨_, rfl, hc⟩
  | cons i v v' l l' hv hl ih =>
    intro cells cells' out h hc
    unfold fillL at h
    split at h <;> try (cases h; done)
    rename_i o size hp
    split at h <;> try (cases h; done)
    rename_i hb
    have hcc := hc.length
    simp only [Bool.and_eq_true, Nat.ble_eq] at hb
    obtain ⟨⟨hk, hb1⟩, hb2⟩ := hb
    have hb : _ ∧ _ := ⟨hb1, hb2⟩
    have hcl := (hv.cells hk).length
    have hsz := Nat.eq_of_beq_eq_true hb.1
    obtain ⟨out', h1, h2⟩ := ih h (hc.setAt (hv.cells hk) o hb.2)
    refine ⟨out', ?_, h2⟩
    unfold Instr.fill
    rw [hpl _ _ hp]
    have hne : ¬ ((v'.cells.size ≠ size || o + v'.cells.size > (Array.mk cells').size) = true) := by
      simp [cells_eq]; omega
    simp only []
    rw [if_neg hne]
    have hf : v'.cells.zipIdx.foldl (fun (cs : Array Value) (p : Value × Nat) => cs.setIfInBounds (o + p.2) p.1) ⟨cells'⟩ = ⟨setAt cells' o (cellsOf v')⟩ := by
      rw [cells_eq, ← Array.foldl_toList]
      have := foldl_set (cellsOf v') cells' o 0 (by omega)
      simpa using this
    rw [show (fun (cs : Array Value) (x : Value × Nat) => match x with | (c, j) => cs.setIfInBounds (o + j) c) = (fun (cs : Array Value) (p : Value × Nat) => cs.setIfInBounds (o + p.2) p.1) from rfl]
    rw [hf]
    exact h1
end
end Go.Ev
end
section
namespace Go.Ev
section
variable {P : Program} {E : Env} {μ : Mu} {w : World}

theorem mapM_places (hE : TIs P E) : ∀ (fs : List Field), (∀ f ∈ fs, ∃ inf, P.info? f.type = some inf) →
    ∃ l, (fs.mapM (fun (f : Field) => (do pure (f.offset, ← sizeOf f.type) : Sem (Nat × Nat)))).run P w = .ok l w ∧
      ∀ (k : Nat) (f : Field) (i : TI), fs[k]? = some f → E.ti f.type = some i → l[k]? = some (f.offset, i.size)
  | [], _ => ⟨[], rfl, by simp⟩
  | f :: fs, h => by
    obtain ⟨inf, hf⟩ := h f (by simp)
    obtain ⟨l, h1, h3⟩ := mapM_places hE fs (fun g hg => h g (by simp [hg]))
    refine ⟨(f.offset, inf.size) :: l, ?_, ?_⟩
    · rw [List.mapM_cons, Sem.run_bind]
      have e : (do pure (f.offset, ← sizeOf f.type) : Sem (Nat × Nat)).run P w = .ok (f.offset, inf.size) w := by simp [sizeOf, typeInfo, hf]
      rw [e, Result.andThen_ok, Sem.run_bind, h1]
      rfl
    · intro k g i hk hi
      cases k with
      | zero =>
        simp at hk; subst hk
        obtain ⟨inf', e1, e2, _⟩ := (hE.ti _ _ hi).info
        rw [hf] at e1; cases e1
        simp [e2]
      | succ k => simpa using h3 k g i (by simpa using hk) hi

structure PlacesOk (P : Program) (E : Env) : Prop where
  fields : ∀ t i fs, E.ti t = some i → i.desc = .struct fs → ∀ f ∈ fs.toList, ∃ inf, P.info? f.type = some inf

theorem build_sound (hE : TIs P E) (hF : PlacesOk P E) {t : TypeId} {parts parts' : List (Nat × Value)} {v : Value} (h : buildA E t parts = some v) (hp : PRs μ parts parts') :
    ∃ v', (Instr.build t ⟨parts'⟩).run P w = .ok v' w ∧ VR μ v v' := by
  unfold buildA at h
  split at h <;> try (cases h; done)
  rename_i i hi
  split at h
  · rename_i z fs hz hd
    split at h <;> try (cases h; done)
    rename_i cs hc
    cases h
    have hzl := hE.zlits (μ := μ) hi hz
    obtain ⟨l, hl, hk⟩ := mapM_places (w := w) hE fs.toList (fun f hf => hF.fields t i fs hi hd f hf)
    have hpl : ∀ (k : Nat) (p : Nat × Nat), (match fs.toList[k]? with | some f => (match E.ti f.type with | some fi => some (f.offset, fi.size) | none => none) | none => none) = some p →
        (fun x => (Array.mk l)[x]?) k = some p := by
      intro k p h
      split at h <;> try (cases h; done)
      rename_i f hf
      split at h <;> cases h
      rename_i fi hfi
      simpa using hk k f fi hf hfi
    obtain ⟨out', h1, h2⟩ := fill_sound hpl hp hc hzl
    refine ⟨.agg ⟨out'⟩, ?_, .agg _ _ h2⟩
    unfold Instr.build
    simp only [Sem.run_bind, hE.zero hi hz, hE.und hi, Result.andThen_ok, hd]
    have hfs : fs.mapM (fun (f : Field) => (do pure (f.offset, ← sizeOf f.type) : Sem (Nat × Nat))) = (fun l => (⟨l⟩ : Array (Nat × Nat))) <$> fs.toList.mapM (fun (f : Field) => (do pure (f.offset, ← sizeOf f.type) : Sem (Nat × Nat))) := by
      obtain ⟨fl⟩ := fs
      simp [List.mapM_toArray]
    simp only at hl hfs ⊢
    rw [hfs]
    simp only [Sem.run_map, hl, Result.andThen_ok]
    rw [cells_eq z, h1]
    rfl
  · rename_i z n e hz hd
    split at h <;> try (cases h; done)
    rename_i ei hei
    split at h <;> try (cases h; done)
    rename_i cs hc
    cases h
    have hzl := hE.zlits (μ := μ) hi hz
    obtain ⟨out', h1, h2⟩ := fill_sound (place' := fun k => some (k * ei.size, ei.size)) (fun _ _ h => h) hp hc hzl
    refine ⟨.agg ⟨out'⟩, ?_, .agg _ _ h2⟩
    unfold Instr.build
    simp only [Sem.run_bind, hE.zero hi hz, hE.und hi, Result.andThen_ok, hd, hE.size hei]
    rw [cells_eq z, h1]
    rfl
  · cases h

theorem off_none {a : Addr} (h : a.spot = none) (n : Nat) : off a n = ⟨a.block, a.off + n, none⟩ := by
  obtain ⟨b, o, s⟩ := a; simp at h; subst h; simp only [off, addO_eq]
theorem add_none {a : Addr} (h : a.spot = none) (n : Nat) : a.add n = ⟨a.block, a.off + n, none⟩ := by
  obtain ⟨b, o, s⟩ := a; simp at h; subst h
  unfold Addr.add; split
  · rename_i h; subst h; rfl
  · rfl
theorem PR.off {a a' : Addr} (h : PR μ a a') (n : Nat) : PR μ (off a n) (a'.add n) := by
  obtain ⟨h1, h2, h3⟩ := h
  rw [off_none h1]
  refine ⟨rfl, h2, fun r ro sz e => ?_⟩
  have := h3 r ro sz e
  subst this
  rw [add_none rfl]; simp [Nat.add_assoc]

theorem drop_get {l : List Value} {n i : Nat} {u : Value} (h : (l.drop n)[i]? = some u) : l[n + i]? = some u := by rw [List.getElem?_drop] at h; exact h
theorem IP.drop {l : List Value} {r o : Nat} (h : ∀ i u, l[i]? = some u → μ.f.im r (o + i) u) (n : Nat) : IP μ (l.drop n) (.pointer (some (Addr.add ⟨r, o, none⟩ n))) := by
  rw [add_none rfl]
  refine ⟨r, o + n, rfl, fun i u hi => ?_⟩
  have := h (n + i) u (drop_get hi)
  rw [← Nat.add_assoc] at this; exact this

theorem fieldAddr_sound (hE : TIs P E) {s : TypeId} {x x' v : Value} {k : Nat} (h : fieldAddrA E s x k = some v) (hv : VR μ x x') :
    ∃ v', (Instr.fieldAt s x' k).run P w = .ok v' w ∧ VR μ v v' := by
  unfold fieldAddrA at h
  split at h <;> try (cases h; done)
  · rename_i i l _ hi
    obtain ⟨r, o, rfl, ha⟩ := hv.immpI
    split at h <;> try (cases h; done)
    rename_i fs hd
    split at h <;> try (cases h; done)
    rename_i f hf
    split at h <;> try (cases h; done)
    rename_i fi hfi
    split at h <;> try (cases h; done)
    rename_i hz
    cases h
    have hf' : fs[k]? = some f := by simpa using hf
    have hz' : fi.size ≠ 0 := fun e => by rw [e] at hz; cases hz
    refine ⟨.pointer (some (Addr.add ⟨r, o, none⟩ f.offset)), ?_, .immp _ _ (IP.drop ha _)⟩
    simp [Instr.fieldAt, hE.und hi, hd, hf', Instr.sureAddr, fieldPlace, hE.size hfi, hz']
  rename_i i a hi
  obtain ⟨a', rfl, ha⟩ := hv.pointer
  split at h <;> try (cases h; done)
  rename_i fs hd
  split at h <;> try (cases h; done)
  rename_i f hf
  split at h <;> try (cases h; done)
  rename_i fi hfi
  split at h <;> try (cases h; done)
  rename_i hz
  cases h
  have hf' : fs[k]? = some f := by simpa using hf
  have hz' : fi.size ≠ 0 := fun e => by rw [e] at hz; cases hz
  refine ⟨.pointer (some (a'.add f.offset)), ?_, .ptr _ _ (ha.off _)⟩
  simp [Instr.fieldAt, hE.und hi, hd, hf', Instr.sureAddr, fieldPlace, hE.size hfi, hz']

theorem SR.off {a a' : Addr} {len k cap : Nat} (h : SR μ a a' len k cap) (n i : Nat) (hi : i < len) (_hn : n = i * k) : PR μ (off a n) (a'.add n) := by
  obtain ⟨h1, h2, h3, h4⟩ := h
  rw [off_none h1]
  refine ⟨rfl, h2, fun r ro sz e => ?_⟩
  rcases h4 r ro sz e with ⟨rfl, _⟩ | ⟨h, _⟩
  · rw [add_none rfl]; simp [Nat.add_assoc]
  · omega

theorem indexAddr_sound (hE : TIs P E) {t : TypeId} {x x' ix ix' v : Value} (h : indexAddrA E t x ix = some v) (hv : VR μ x x') (hx : VR μ ix ix') :
    ∃ v', (Instr.indexAt t x' ix').run P w = .ok v' w ∧ VR μ v v' := by
  unfold indexAddrA at h
  split at h
  · rename_i i l _ k n hi
    rw [hx.int]
    obtain ⟨r, o, rfl, ha⟩ := hv.immpI
    split at h <;> try (cases h; done)
    rename_i len e hd
    split at h <;> try (cases h; done)
    rename_i ei hei
    split at h <;> try (cases h; done)
    rename_i hb
    cases h
    simp only [Bool.and_eq_true, decide_eq_true_eq] at hb
    refine ⟨.pointer (some (Addr.add ⟨r, o, none⟩ (n.toNat * ei.size))), ?_, .immp _ _ (IP.drop ha _)⟩
    simp [Instr.indexAt, asIntOf, hE.und hi, hd, Instr.sureAddr, hb, hE.size hei]
  · rename_i i l len k _ n hi
    rw [hx.int]
    split at h <;> try (cases h; done)
    rename_i e hd
    split at h <;> try (cases h; done)
    rename_i ei hei
    split at h <;> try (cases h; done)
    rename_i hb
    cases h
    simp only [Bool.and_eq_true, decide_eq_true_eq] at hb
    obtain ⟨⟨hk, hb1⟩, hb2⟩ := hb
    have hb := And.intro hb1 hb2
    obtain ⟨a, cap, rfl, _, ha⟩ := hv.immI
    obtain ⟨r, o, rfl, _, ha⟩ := ha.resolve_left (by omega)
    refine ⟨.pointer (some (Addr.add ⟨r, o, none⟩ (n.toNat * ei.size))), ?_, .immp _ _ (IP.drop ha _)⟩
    simp [Instr.indexAt, asIntOf, hE.und hi, hd, hb, hE.size hei]
  · rename_i i a k n hi
    rw [hx.int]
    obtain ⟨a', rfl, ha⟩ := hv.pointer
    split at h <;> try (cases h; done)
    rename_i len e hd
    split at h <;> try (cases h; done)
    rename_i ei hei
    split at h <;> try (cases h; done)
    rename_i hb
    cases h
    simp only [Bool.and_eq_true, decide_eq_true_eq] at hb
    refine ⟨.pointer (some (a'.add (n.toNat * ei.size))), ?_, .ptr _ _ (ha.off _)⟩
    simp [Instr.indexAt, asIntOf, hE.und hi, hd, Instr.sureAddr, hb, hE.size hei]
  · rename_i i a len _ k n hi
    rw [hx.int]
    obtain ⟨a', cap, rfl, ha⟩ := hv.sliceI
    split at h <;> try (cases h; done)
    rename_i e hd
    split at h <;> try (cases h; done)
    rename_i ei hei
    split at h <;> try (cases h; done)
    rename_i hb
    cases h
    simp only [Bool.and_eq_true, decide_eq_true_eq] at hb
    refine ⟨.pointer (some (a'.add (n.toNat * ei.size))), ?_, .ptr _ _ ?_⟩
    · simp [Instr.indexAt, asIntOf, hE.und hi, hd, hb, hE.size hei]
    · obtain ⟨h1, h2, h3, h4⟩ := ha
      rw [off_none h1]
      refine ⟨rfl, h2, fun r ro sz e => ?_⟩
      rcases h4 r ro sz e with ⟨rfl, _⟩ | ⟨h, _⟩
      · rw [add_none rfl]; simp [Nat.add_assoc]
      · omega
  · cases h

theorem index_sound (hE : TIs P E) {t : TypeId} {x x' ix ix' v : Value} (h : indexA E t x ix = some v) (hv : VR μ x x') (hx : VR μ ix ix') :
    ∃ v', (Instr.index t x' ix').run P w = .ok v' w ∧ VR μ v v' := by
  unfold indexA at h
  split at h
  · rename_i i cs k n hi
    rw [hx.int]
    obtain ⟨cs', rfl, hcs⟩ := hv.aggI
    split at h <;> try (cases h; done)
    rename_i len e hd
    split at h <;> try (cases h; done)
    rename_i ei hei
    split at h <;> try (cases h; done)
    rename_i hb
    simp only [Bool.and_eq_true, decide_eq_true_eq] at hb
    obtain ⟨v', h1, h2⟩ := part_sound (w := w) hE h hcs
    refine ⟨v', ?_, h2⟩
    simp [Instr.index, asIntOf, hE.und hi, hd, hb, hE.size hei, h1]
  · rename_i i s k n hi
    rw [hx.int, hv.string]
    split at h <;> try (cases h; done)
    rename_i hd
    split at h <;> try (cases h; done)
    rename_i h0
    split at h <;> try (cases h; done)
    rename_i b hb
    cases h
    have h0' : 0 ≤ n := by simpa using h0
    have hb' : s[n.toNat]? = some b := by
      obtain ⟨⟨l⟩⟩ := s
      have hlt : n.toNat < l.length := (List.getElem?_eq_some_iff.1 hb).1
      have : (ByteArray.mk ⟨l⟩).size = l.length := rfl
      rw [getElem?_pos (ByteArray.mk ⟨l⟩) n.toNat (by rw [this]; exact hlt)]
      simp at hb
      rw [List.getElem?_eq_getElem hlt] at hb
      cases hb; rfl
    exact ⟨_, by simp [Instr.index, asIntOf, hE.und hi, hd, h0', hb'], .lit _ rfl⟩
  · cases h

def OptR (μ : Mu) (x x' : Option Value) : Prop := x.isSome = x'.isSome ∧ ∀ v v', x = some v → x' = some v' → VR μ v v'

theorem bound_sound {x x' : Option Value} {y u n : Nat} (h : bound x y u = some n) (hx : OptR μ x x') :
    (x = none ∧ x' = none ∧ n = u) ∨ ∃ k i, x = some (.int k i) ∧ x' = some (.int k i) ∧ 0 ≤ i ∧ i ≤ (y : Int) ∧ n = i.toNat := by
  obtain ⟨h1, h2⟩ := hx
  unfold bound at h
  split at h
  · cases h
    cases x' with
    | none => exact .inl ⟨rfl, rfl, rfl⟩
    | some v => simp at h1
  · rename_i k i
    split at h <;> cases h
    rename_i hb
    simp only [Bool.and_eq_true, decide_eq_true_eq] at hb
    cases x' with
    | none => simp at h1
    | some v =>
      have := h2 _ v rfl rfl
      rw [this.int]
      exact .inr ⟨k, i, rfl, rfl, hb.1, hb.2, rfl⟩
  · cases h

theorem run_bound {k : IntKind} {i : Int} {y : Nat} {code : BoundsCode} (h0 : 0 ≤ i) (h1 : i ≤ (y : Int)) : (Instr.sliceBound (.int k i) y code).run P w = .ok i.toNat w := by
  simp [Instr.sliceBound, asIntOf, h0, h1]

theorem bounds_sound {lo hi lo' hi' : Option Value} {len cap b l : Nat} (isS : Bool) (hb : bound hi len len = some b) (hl : bound lo b 0 = some l) (hlo : OptR μ lo lo') (hhi : OptR μ hi hi') (hc : len ≤ cap) :
    (Instr.sliceBounds isS len cap lo' hi' none).run P w = .ok (l, b, cap) w ∧ b ≤ len ∧ l ≤ b := by
  rcases bound_sound hb hhi with ⟨rfl, rfl, rfl⟩ | ⟨k, i, rfl, rfl, h0, h1, rfl⟩ <;> rcases bound_sound hl hlo with ⟨rfl, rfl, rfl⟩ | ⟨k', j, rfl, rfl, g0, g1, rfl⟩
  · exact ⟨rfl, Nat.le_refl _, Nat.zero_le _⟩
  · refine ⟨?_, Nat.le_refl _, by omega⟩
    simp [Instr.sliceBounds, run_bound (P := P) (w := w) (k := k') (code := .sliceB) g0 g1]
  · refine ⟨?_, by omega, Nat.zero_le _⟩
    have := run_bound (P := P) (w := w) (k := k) (y := cap) (code := if isS = true then .sliceAcap else .sliceAlen) h0 (by omega)
    simp [Instr.sliceBounds, this]
  · refine ⟨?_, by omega, by omega⟩
    have := run_bound (P := P) (w := w) (k := k) (y := cap) (code := if isS = true then .sliceAcap else .sliceAlen) h0 (by omega)
    simp [Instr.sliceBounds, this, run_bound (P := P) (w := w) (k := k') (code := .sliceB) g0 g1]

theorem sliceStr_sound (hE : TIs P E) {t : TypeId} {s : ByteArray} {lo hi lo' hi' : Option Value} {r : AR} (h : sliceStrA E t s lo hi = some r) (hl : OptR μ lo lo') (hh : OptR μ hi hi') :
    ∃ v v', r = .pur v ∧ (Instr.sliceAt t (.string s) lo' hi' none).run P w = .ok v' w ∧ VR μ v v' := by
  unfold sliceStrA at h
  split at h <;> try (cases h; done)
  rename_i i hi0
  split at h <;> try (cases h; done)
  rename_i hd
  split at h <;> try (cases h; done)
  rename_i b hb
  split at h <;> try (cases h; done)
  rename_i l hl0
  cases h
  obtain ⟨e, _⟩ := bounds_sound (P := P) (w := w) false hb hl0 hl hh (Nat.le_refl _)
  refine ⟨_, .string (s.extract l b), rfl, ?_, .lit _ rfl⟩
  simp [Instr.sliceAt, hE.und hi0, hd, Instr.slice, e]

theorem sliceIm_sound (hE : TIs P E) {t : TypeId} {c : List Value} {len k : Nat} {x' : Value} {lo hi lo' hi' : Option Value} {r : AR} (h : sliceImA E t c len k lo hi = some r)
    (hx : VR μ (immV c len k) x') (hl : OptR μ lo lo') (hh : OptR μ hi hi') :
    ∃ v v', r = .pur v ∧ (Instr.sliceAt t x' lo' hi' none).run P w = .ok v' w ∧ VR μ v v' := by
  unfold sliceImA at h
  split at h <;> try (cases h; done)
  rename_i i hi0
  split at h <;> try (cases h; done)
  rename_i e hd
  split at h <;> try (cases h; done)
  rename_i ei b hei hb
  split at h <;> try (cases h; done)
  rename_i l hl0
  split at h <;> cases h
  rename_i hk
  have hk' := Nat.eq_of_beq_eq_true hk
  subst hk'
  obtain ⟨a, cap, rfl, hc, hi⟩ := hx.immI
  obtain ⟨er, hbl, hlb⟩ := bounds_sound (P := P) (w := w) true hb hl0 hl hh hc
  refine ⟨_, .slice (a.map fun a' => if cap = l then a' else a'.add (l * ei.size)) (b - l) (cap - l), rfl, ?_, .imm _ _ _ _ ?_⟩
  · cases a with
    | none => simp [Instr.sliceAt, hE.und hi0, hd, Instr.slice, er, hE.size hei]
    | some a => 
      simp only [Instr.sliceAt, Sem.run_bind, hE.und hi0, hd, Result.andThen_ok, Instr.slice, er, hE.size hei, Sem.run_pure, Option.map_some]
      split <;> rfl
  · refine ⟨_, _, rfl, by omega, ?_⟩
    by_cases h0 : b - l = 0
    · exact .inl h0
    · obtain ⟨r, o, rfl, h1, h2⟩ := hi.resolve_left (by omega)
      right
      have hcl : ¬ cap = l := by omega
      refine ⟨r, o + l * ei.size, ?_, ?_, fun i u hi => ?_⟩
      · rw [Option.map_some, if_neg hcl, add_none rfl]
      · rw [List.length_drop, Nat.sub_mul]
        have : b * ei.size ≤ len * ei.size := Nat.mul_le_mul_right _ hbl
        omega
      · have := h2 _ u (drop_get hi)
        rw [← Nat.add_assoc] at this; exact this

theorem sliceSl_sound (hE : TIs P E) {t : TypeId} {a : Option Addr} {len k : Nat} {x' : Value} {lo hi lo' hi' : Option Value} {r : AR} (h : sliceSlA E t a len k lo hi = some r)
    (hx : VR μ (.slice a len k) x') (hl : OptR μ lo lo') (hh : OptR μ hi hi') :
    ∃ v v', r = .pur v ∧ (Instr.sliceAt t x' lo' hi' none).run P w = .ok v' w ∧ VR μ v v' := by
  unfold sliceSlA at h
  split at h <;> try (cases h; done)
  rename_i i hi0
  split at h <;> try (cases h; done)
  rename_i e hd
  split at h <;> try (cases h; done)
  rename_i ei b hei hb
  split at h
  · rename_i l a hl0
    split at h <;> cases h
    rename_i hk
    have hk' := Nat.eq_of_beq_eq_true hk
    subst hk'
    obtain ⟨a', cap, rfl, h1, h2, h3, h4⟩ := hx.sliceI
    obtain ⟨er, hbl, hlb⟩ := bounds_sound (P := P) (w := w) true hb hl0 hl hh h3
    refine ⟨_, .slice (if cap = l then some a' else some (a'.add (l * ei.size))) (b - l) (cap - l), rfl, ?_, ?_⟩
    · simp only [Instr.sliceAt, Sem.run_bind, hE.und hi0, hd, Result.andThen_ok, Instr.slice, er, hE.size hei, Sem.run_pure, Option.map_some]
    · rw [off_none h1]
      split
      · rename_i hc
        refine .slice _ _ _ _ _ ⟨rfl, h2, by omega, fun r ro sz e => .inr ⟨by omega, by omega⟩⟩
      · rename_i hc
        refine .slice _ _ _ _ _ ⟨rfl, h2, by omega, fun r ro sz e => ?_⟩
        rcases h4 r ro sz e with ⟨rfl, h5⟩ | ⟨rfl, rfl⟩
        · refine .inl ⟨by rw [add_none rfl]; simp [Nat.add_assoc], ?_⟩
          have : l * ei.size + (cap - l) * ei.size = cap * ei.size := by rw [← Nat.add_mul]; congr 1; omega
          show ro + (a.off + l * ei.size) + (cap - l) * ei.size ≤ sz
          omega
        · omega
  · rename_i l hl0
    cases h
    obtain ⟨rfl, rfl, rfl⟩ := hx.nilSlice
    obtain ⟨er, hbl, hlb⟩ := bounds_sound (P := P) (w := w) true hb hl0 hl hh (Nat.le_refl 0)
    obtain rfl : b = 0 := by omega
    obtain rfl : l = 0 := by omega
    refine ⟨_, .slice none 0 0, rfl, ?_, .lit _ rfl⟩
    simp [Instr.sliceAt, hE.und hi0, hd, Instr.slice, er, hE.size hei]
  · cases h
end
end Go.Ev
end
section
namespace Go.Ev
section
variable {P : Program} {E : Env} {μ : Mu} {w : World}

def kindV : Value → Nat
  | .bool _ => 0 | .int _ _ => 1 | .float _ _ => 2 | .complex _ _ _ => 3 | .string _ => 4 | .pointer _ => 5 | .slice _ _ _ => 6 | .map _ => 7 | .chan _ => 8
  | .func (.yield 0) _ _ => 6 | .func (.yield 1) _ _ => 5 | .func _ _ _ => 9 | .nilFunc => 10 | .iface _ _ => 11 | .nilIface => 12 | .agg _ => 13 | .tuple _ => 14
theorem kindV_func (f : Fn) (a b : Array Value) : 5 ≤ kindV (.func f a b) ∧ kindV (.func f a b) ≤ 9 := by
  unfold kindV
  split <;> simp_all
theorem kind1 {v : Value} (h : kindV v = 1) : ∃ k n, v = .int k n := by
  cases v with
  | func f x y => have := kindV_func f x y; omega
  | int k n => exact ⟨k, n, rfl⟩
  | _ => simp [kindV] at h
theorem kind4 {v : Value} (h : kindV v = 4) : ∃ s, v = .string s := by
  cases v with
  | func f x y => have := kindV_func f x y; omega
  | string s => exact ⟨s, rfl⟩
  | _ => simp [kindV] at h
theorem VR.kind {v v' : Value} (h : VR μ v v') (hk : kn v = true) : kindV v' = kindV v := by
  cases h with
  | imm l n k v' h => obtain ⟨a, cap, rfl, _⟩ := h; rfl
  | immp l v' h => obtain ⟨r, o, rfl, _⟩ := h; rfl
  | any v' => cases hk
  | _ => rfl

theorem binOp_eql (t : TypeId) (x y : Value) (h : ¬ (kindV x = kindV y ∧ 1 ≤ kindV x ∧ kindV x ≤ 4)) : Go.binOp .eql t x y = (do pure (.bool (← Op.equal t x y))) := by
  cases x <;> cases y <;> first | rfl | (exact absurd (by simp [kindV]) h)
theorem binOp_neq (t : TypeId) (x y : Value) (h : ¬ (kindV x = kindV y ∧ 1 ≤ kindV x ∧ kindV x ≤ 4)) : Go.binOp .neq t x y = (do pure (.bool (!(← Op.equal t x y)))) := by
  cases x <;> cases y <;> first | rfl | (exact absurd (by simp [kindV]) h)

theorem eqGuard_plain (op : BinOp) (t : TypeId) (x y : Operand) (a b : Value) (h1 : ¬ (kindV a = 12 ∧ kindV b = 12)) (h2 : ¬ (kindV a = 13 ∧ kindV b = 13)) : (eqGuard op t x y a b).run P w = .ok () w := by
  cases op <;> first | rfl | (cases a <;> cases b <;> first | rfl | (exact absurd ⟨rfl, rfl⟩ h1) | (exact absurd ⟨rfl, rfl⟩ h2))
theorem eqGuard_agg (op : BinOp) (t : TypeId) (x y : Operand) (a b : Array Value) (h : P.eqGuardType P.depth t = false) : (eqGuard op t x y (.agg a) (.agg b)).run P w = .ok () w := by
  cases op <;> first | rfl | simp [eqGuard, h]

set_option maxHeartbeats 1000000 in
/-- what the abstract equality takes is no pair of floats, complex numbers or (nil, nil) interface values; two aggregates are of a type that may be compared -/
theorem aeq_kinds {d : Nat} {t : TypeId} {x y : Value} {b : Bool} (h : aeq E d t x y = some b) :
    ¬ (kindV x = 12 ∧ kindV y = 12) ∧ ¬ (kindV x = kindV y ∧ 2 ≤ kindV x ∧ kindV x ≤ 3) ∧ (kindV x = 13 → ∃ i, E.ti t = some i ∧ i.eqOk = true) ∧ kn x = true ∧ kn y = true := by
  cases d with
  | zero => cases h
  | succ d =>
    unfold aeq at h
    split at h
    · cases h
    · rename_i i hi
      refine ⟨?_, ?_, ?_, ?_, ?_⟩
      · rintro ⟨h1, h2⟩
        split at h <;> first | (simp [kindV] at h1; done) | (simp [kindV] at h2; done) | (cases h; done)
      · rintro ⟨h1, h2, h3⟩
        split at h <;> first | (simp [kindV] at h1; done) | (simp [kindV] at h2; done) | (simp [kindV] at h3; done) | (cases h; done)
      · intro h1
        split at h <;> first
          | (simp [kindV] at h1; done)
          | (cases h; done)
          | (split at h
             · rename_i he; exact ⟨i, hi, he⟩
             · cases h)
          | (split at h
             · rename_i he _; exact ⟨i, hi, he⟩
             · cases h)
      · split at h <;> first | rfl | (cases h; done)
      · split at h <;> first | rfl | (cases h; done)

theorem bin_sound (hE : TIs P E) {op : BinOp} {t : TypeId} {x y : Operand} {a b a' b' v : Value} (h : binA E op t a b = some v) (ha : VR μ a a') (hb : VR μ b b') :
    (do eqGuard op t x y a' b'; Go.binOp op t a' b' : Sem Value).run P w = .ok v w ∧ litV v = true := by
  unfold binA at h
  split at h
  · rename_i k i k' j
    rw [ha.int, hb.int]
    simp only [Sem.run_bind, eqGuard_plain op t x y (.int k i) (.int k' j) (by simp [kindV]) (by simp [kindV]), Result.andThen_ok]
    split at h
    · obtain ⟨h1, h2⟩ := shift_sound (P := P) (w := w) (yk := k') h; exact ⟨h1, h2⟩
    · obtain ⟨h1, h2⟩ := shift_sound (P := P) (w := w) (yk := k') h; exact ⟨h1, h2⟩
    · split at h <;> try (cases h; done)
      rename_i hk
      have := of_decide_eq_true hk
      subst this
      exact int_sound t h
  · rename_i s u
    rw [ha.string, hb.string]
    simp only [Sem.run_bind, eqGuard_plain op t x y (.string s) (.string u) (by simp [kindV]) (by simp [kindV]), Result.andThen_ok]
    exact str_sound t h
  · rename_i n1 n2
    have key : ∀ r, aeq E 100 t a b = some r → (eqGuard op t x y a' b').run P w = .ok () w ∧ (Op.equal t a' b').run P w = .ok r w ∧ ¬ (kindV a' = kindV b' ∧ 1 ≤ kindV a' ∧ kindV a' ≤ 4) := by
      intro r hr
      obtain ⟨k1, k2, k3, k4, k5⟩ := aeq_kinds hr
      have e1 := ha.kind k4
      have e2 := hb.kind k5
      refine ⟨?_, aeq_sound hE 100 10000 (by omega) w hr ha hb, ?_⟩
      · by_cases hagg : kindV a' = 13 ∧ kindV b' = 13
        · obtain ⟨i, hi, he⟩ := k3 (by omega)
          obtain ⟨_, hg⟩ := (hE.ti t i hi).eq he
          have : ∃ c, a' = .agg c := by cases a' <;> first | exact ⟨_, rfl⟩ | (rename_i f x y; have := kindV_func f x y; omega) | (simp [kindV] at hagg; done)
          obtain ⟨c, rfl⟩ := this
          have : ∃ c, b' = .agg c := by cases b' <;> first | exact ⟨_, rfl⟩ | (rename_i f x y; have := kindV_func f x y; omega) | (simp [kindV] at hagg; done)
          obtain ⟨c', rfl⟩ := this
          exact eqGuard_agg op t x y c c' hg
        · exact eqGuard_plain op t x y a' b' (by omega) hagg
      · rintro ⟨q1, q2, q3⟩
        have hk : kindV a = kindV b := by omega
        have : kindV a = 1 ∨ kindV a = 4 := by omega
        rcases this with h | h
        · have h' : kindV b = 1 := by omega
          obtain ⟨k, n, rfl⟩ := kind1 h
          obtain ⟨k, n, rfl⟩ := kind1 h'
          exact n1 _ _ _ _ rfl rfl
        · have h' : kindV b = 4 := by omega
          obtain ⟨k, rfl⟩ := kind4 h
          obtain ⟨k, rfl⟩ := kind4 h'
          exact n2 _ _ rfl rfl
    split at h
    · split at h <;> cases h
      rename_i r hr
      obtain ⟨g1, g2, g3⟩ := key r hr
      simp [Sem.run_bind, g1, binOp_eql t a' b' g3, g2, litV]
    · split at h <;> cases h
      rename_i r hr
      obtain ⟨g1, g2, g3⟩ := key r hr
      simp [Sem.run_bind, g1, binOp_neq t a' b' g3, g2, litV]
    · cases h

theorem equalIn_nils (hE : TIs P E) {t : TypeId} {i : TI} {ms : Array (String × TypeId)} (hi : E.ti t = some i) (hd : i.desc = .interface ms) (n : Nat) :
    (Op.equalIn (n + 1) t .nilIface .nilIface).run P w = .ok true w := by
  simp [Op.equalIn, hE.und hi, hd]
theorem nils_sound (hE : TIs P E) {op : BinOp} {t : TypeId} {x y : Operand} {a b a' b' v : Value} (h : nilsA E op t x y a b = some v) (ha : VR μ a a') (hb : VR μ b b') :
    (do eqGuard op t x y a' b'; Go.binOp op t a' b' : Sem Value).run P w = .ok v w ∧ litV v = true := by
  unfold nilsA at h
  split at h <;> try (cases h; done)
  rw [ha.nilIface, hb.nilIface]
  split at h <;> try (cases h; done)
  rename_i i hc hi
  have hg : (eqGuard op t x y .nilIface .nilIface).run P w = .ok () w := by
    cases op <;> first | rfl | (cases x <;> cases y <;> first | rfl | (simp at hc; done))
  split at h <;> cases h
  · rename_i ms hd
    have : (Op.equal t .nilIface .nilIface).run P w = .ok true w := equalIn_nils hE hi hd 9999
    simp [Sem.run_bind, hg, binOp_eql t .nilIface .nilIface (by simp [kindV]), this, litV]
  · rename_i ms hd
    have : (Op.equal t .nilIface .nilIface).run P w = .ok true w := equalIn_nils hE hi hd 9999
    simp [Sem.run_bind, hg, binOp_neq t .nilIface .nilIface (by simp [kindV]), this, litV]

theorem un_sound {op : UnOp} {x x' v : Value} (h : unA op x = some v) (hx : VR μ x x') : (Op.unary op x').run P w = .ok v w ∧ litV v = true := by
  unfold unA at h
  split at h
  · cases h; rw [hx.int]; exact ⟨rfl, rfl⟩
  · rw [hx.int]; exact bits_sound h
  · cases h; rw [hx.bool]; exact ⟨rfl, rfl⟩
  · cases h

theorem len_sound (hE : TIs P E) {t ty : TypeId} {x x' v : Value} (h : lenA E t x = some v) (hx : VR μ x x') (rest : List Value) (ts : List TypeId) :
    (Builtin.len_ ⟨t :: ts⟩ ty ⟨x' :: rest⟩).run P w = .ok v w ∧ litV v = true := by
  unfold lenA at h
  split at h <;> try (cases h; done)
  rename_i i hi
  have e0 : (Array.mk (t :: ts))[0]? = some t := rfl
  have e1 : (Array.mk (x' :: rest))[0]? = some x' := rfl
  split at h
  · rename_i hd; cases h; rw [hx.string] at *
    refine ⟨?_, rfl⟩
    simp [Builtin.len_, hE.und hi, hd, goInt]
  · rename_i hd; cases h
    refine ⟨?_, rfl⟩
    simp [Builtin.len_, hE.und hi, hd, goInt]
  · rename_i a n _ hd; cases h
    refine ⟨?_, rfl⟩
    have : ∃ a' c, x' = .slice a' n c := by
      cases a with
      | none => obtain ⟨rfl, rfl, _⟩ := hx.nilSlice; exact ⟨_, _, rfl⟩
      | some a => obtain ⟨a', c, rfl, _⟩ := hx.sliceI; exact ⟨_, _, rfl⟩
    obtain ⟨a', c, rfl⟩ := this
    simp [Builtin.len_, hE.und hi, hd, goInt]
  · rename_i l n k hd; cases h
    refine ⟨?_, rfl⟩
    obtain ⟨a, cap, rfl, _⟩ := hx.immI
    simp [Builtin.len_, hE.und hi, hd, goInt]
  · rename_i a hd
    split at h <;> try (cases h; done)
    rename_i ai hai
    split at h <;> cases h
    rename_i n e hda
    refine ⟨?_, rfl⟩
    simp [Builtin.len_, hE.und hi, hd, hE.und hai, hda, goInt]
  · cases h

theorem fold_sound {f : Value → Value → Option Value} {g : Value → Value → Sem Value} (hf : ∀ {x y z x' y'}, f x y = some z → VR μ x x' → VR μ y y' → (g x' y').run P w = .ok z w ∧ litV z = true) {l l' : List Value} (hl : VRs μ l l') :
    ∀ {x x' v : Value}, foldA f x l = some v → VR μ x x' → ∃ v', (l'.foldlM g x').run P w = .ok v' w ∧ VR μ v v' := by
  induction l generalizing l' with
  | nil => intro x x' v h hx; cases hl; simp [foldA] at h; subst h; exact ⟨x', rfl, hx⟩
  | cons y l ih =>
    intro x x' v h hx
    cases hl with
    | cons _ y' _ l' hy hl =>
      unfold foldA at h
      split at h <;> try (cases h; done)
      rename_i z hz
      obtain ⟨e, hz'⟩ := hf hz hx hy
      obtain ⟨v', h1, h2⟩ := ih hl h (.lit _ hz')
      exact ⟨v', by simp [List.foldlM_cons, e, h1], h2⟩

theorem max2_sound {x y z x' y' : Value} (h : max2A x y = some z) (hx : VR μ x x') (hy : VR μ y y') : (Builtin.max2 x' y').run P w = .ok z w ∧ litV z = true := by
  unfold max2A at h
  split at h <;> cases h
  rw [hx.int, hy.int]
  exact ⟨rfl, rfl⟩
theorem min2_sound {x y z x' y' : Value} (h : min2A x y = some z) (hx : VR μ x x') (hy : VR μ y y') : (Builtin.min2 x' y').run P w = .ok z w ∧ litV z = true := by
  unfold min2A at h
  split at h <;> cases h
  rw [hx.int, hy.int]
  exact ⟨rfl, rfl⟩
end
end Go.Ev
end
section
namespace Go.Ev
section
variable {P : Program} {E : Env} {μ : Mu} {h : AH} {w : World}

/-! reading -/
theorem cell_of_obj {w : World} {r i : Nat} {c : Array Value} {e : TypeId} {fr : Nat × Nat} (hw : w.heap[r]? = some (.cells c e fr)) : w.cell? ⟨r, i, none⟩ = c[i]? := by
  simp [World.cell?, hw]

theorem cell_sound (hr : Rel μ h w) {p p' : Addr} {v : Value} (hp : PR μ p p') (hc : h.cell p = some v) : ∃ v', w.cell? p' = some v' ∧ VR μ v v' := by
  unfold AH.cell at hc
  split at hc <;> try (cases hc; done)
  rename_i c e fz s hg
  obtain ⟨r, ro, sz, o', hm, hw, ho⟩ := hr.lies hg hp.2.1
  have := hp.2.2 r ro sz hm
  subst this
  cases ho with
  | cells _ _ _ _ c' lo hi hsz hlen hcc hf =>
    obtain ⟨v', h1, h2⟩ := hcc _ _ hc
    exact ⟨v', by rw [cell_of_obj hw, h1], h2⟩

theorem cellsAt_sound (hr : Rel μ h w) {p : Addr} {n : Nat} {cs : List Value} (hc : h.cellsAt p n = some cs) (_hp : p.spot = none) (hb : μ.has p.block) :
    cs.length = n ∧ ∃ r ro sz cs', μ p.block = .at_ r ro sz ∧ cs'.length = n ∧ ro + p.off + n ≤ sz ∧ VRs μ cs cs' ∧
      ∀ (j : Nat) (v : Value), cs'[j]? = some v → w.cell? ⟨r, ro + p.off + j, none⟩ = some v := by
  unfold AH.cellsAt at hc
  split at hc <;> try (cases hc; done)
  rename_i c e fz s hg
  split at hc <;> cases hc
  rename_i hle
  have hle := Nat.le_of_ble_eq_true hle
  obtain ⟨r, ro, sz, o', hm, hw, ho⟩ := hr.lies hg hb
  have hl : ((c.drop p.off).take n).length = n := by simp; omega
  refine ⟨hl, r, ro, sz, ?_⟩
  cases ho with
  | cells _ _ _ _ c' lo hi hsz hlen hcc hf =>
    refine ⟨(c'.toList.drop (ro + p.off)).take n, hm, ?_, by omega, ?_, ?_⟩
    · have : c'.toList.length = sz := by simpa using hsz
      simp; omega
    · refine VRs.of_get ?_ fun i v hi => ?_
      · have : c'.toList.length = sz := by simpa using hsz
        simp; omega
      · have hin : i < n := by
          rcases Nat.lt_or_ge i n with h1 | h1
          · exact h1
          · rw [List.getElem?_eq_none (by rw [hl]; exact h1)] at hi; cases hi
        rw [List.getElem?_take_of_lt hin, List.getElem?_drop] at hi
        obtain ⟨v', h1, h2⟩ := hcc _ _ hi
        refine ⟨v', ?_, h2⟩
        rw [List.getElem?_take_of_lt hin, List.getElem?_drop]
        simpa [Nat.add_assoc] using h1
    · intro j v hj
      have hin : j < n := by
        rcases Nat.lt_or_ge j n with h1 | h1
        · exact h1
        · rw [List.getElem?_take, if_neg (by omega)] at hj; cases hj
      rw [List.getElem?_take_of_lt hin, List.getElem?_drop] at hj
      rw [cell_of_obj hw]
      simpa using hj

theorem imm_get (hr : Rel μ h w) {l : List Value} {r o : Nat} (him : ∀ i u, l[i]? = some u → μ.f.im r (o + i) u) {i : Nat} {u : Value} (hi : l[i]? = some u) : ∃ u', w.cell? ⟨r, o + i, none⟩ = some u' ∧ VR μ u u' := by
  obtain ⟨_, _, c', e, z, v', h3, h4, h5⟩ := hr.imm _ _ _ (him i u hi)
  exact ⟨v', by rw [cell_of_obj h3, h4], h5⟩
theorem imm_row {r : Nat} : ∀ {l : List Value} {o : Nat}, (∀ i u, l[i]? = some u → ∃ u', w.cell? ⟨r, o + i, none⟩ = some u' ∧ VR μ u u') → ∃ cs', VRs μ l cs' ∧ ∀ (j : Nat) (v : Value), cs'[j]? = some v → w.cell? ⟨r, o + j, none⟩ = some v
  | [], o, _ => ⟨[], .nil, by simp⟩
  | u :: l, o, h => by
    obtain ⟨u', h1, h2⟩ := h 0 u rfl
    obtain ⟨cs', h3, h4⟩ := imm_row (r := r) (l := l) (o := o + 1) fun i u hi => by
      have := h (i + 1) u (by simpa using hi)
      rw [show o + 1 + i = o + (i + 1) by omega]; exact this
    refine ⟨u' :: cs', .cons _ _ _ _ h2 h3, fun j v hj => ?_⟩
    cases j with
    | zero => simp at hj; subst hj; exact h1
    | succ j =>
      have := h4 j v (by simpa using hj)
      rw [show o + (j + 1) = o + 1 + j by omega]; exact this
theorem imm_take (hr : Rel μ h w) {l : List Value} {r o : Nat} (him : ∀ i u, l[i]? = some u → μ.f.im r (o + i) u) (n : Nat) : ∃ cs', VRs μ (l.take n) cs' ∧ ∀ (j : Nat) (v : Value), cs'[j]? = some v → w.cell? ⟨r, o + j, none⟩ = some v := by
  refine imm_row fun i u hi => imm_get hr him ?_
  rw [List.getElem?_take] at hi
  split at hi
  · exact hi
  · cases hi

theorem load_sound (hE : TIs P E) (hr : Rel μ h w) {t : TypeId} {a a' : Value} {r : AR} (hl : loadA E t a h = some r) (ha : VR μ a a') :
    ∃ v v', r = .read v ∧ (Instr.loadAt t a').run P w = .ok v' w ∧ VR μ v v' := by
  unfold loadA at hl
  split at hl <;> try (cases hl; done)
  rotate_left
  · rename_i l _
    obtain ⟨r0, o, rfl, him⟩ := ha.immpI
    split at hl <;> cases hl
    rename_i v hv
    refine ⟨v, ?_⟩
    unfold iload at hv
    split at hv <;> try (cases hv; done)
    rename_i i hi
    split at hv
    · rename_i hagg
      split at hv <;> cases hv
      rename_i hle
      have hle := Nat.le_of_ble_eq_true hle
      obtain ⟨cs', hvs, hrd⟩ := imm_take hr him i.size
      have hlen' : cs'.length = i.size := by rw [← hvs.length]; simp; omega
      refine ⟨.agg ⟨cs'⟩, rfl, ?_, .agg _ _ hvs⟩
      have hlc := run_loadCells_list (P := P) w ⟨r0, o, none⟩ cs' (fun j v hj => by
        rw [add_none rfl]; exact hrd j v hj)
      rw [hlen'] at hlc
      simp [Instr.loadAt, Instr.sureAddr, loadVar, hE.isAgg hi, hagg, hE.size hi, hlc]
    · rename_i hagg
      obtain ⟨v', h1, h2⟩ := imm_get hr him hv
      simp only [Nat.add_zero] at h1
      exact ⟨v', rfl, by simp [Instr.loadAt, Instr.sureAddr, loadVar, hE.isAgg hi, hagg, h1], h2⟩
  rename_i p
  obtain ⟨p', rfl, hp⟩ := ha.pointer
  split at hl <;> cases hl
  rename_i v hv
  refine ⟨v, ?_⟩
  unfold aload at hv
  split at hv <;> try (cases hv; done)
  rename_i i hi
  split at hv
  · rename_i hagg
    split at hv <;> cases hv
    rename_i cs hcs
    obtain ⟨hlen, r, ro, sz, cs', hm, hlen', _, hvs, hrd⟩ := cellsAt_sound hr hcs hp.1 hp.2.1
    have hpp := hp.2.2 r ro sz hm
    subst hpp
    refine ⟨.agg ⟨cs'⟩, rfl, ?_, .agg _ _ hvs⟩
    have hlc := run_loadCells_list (P := P) w ⟨r, ro + p.off, none⟩ cs' (fun j v hj => by
      rw [add_none rfl]; exact hrd j v hj)
    rw [hlen'] at hlc
    simp [Instr.loadAt, Instr.sureAddr, loadVar, hE.isAgg hi, hagg, hE.size hi, hlc]
  · rename_i hagg
    obtain ⟨v', h1, h2⟩ := cell_sound hr hp hv
    exact ⟨v', rfl, by simp [Instr.loadAt, Instr.sureAddr, loadVar, hE.isAgg hi, hagg, h1], h2⟩

theorem bytesL_sound {cs : List Value} {bs : List UInt8} (hb : bytesL cs = some bs) : ∃ ns : List Int, cs = ns.map (Value.int .u8) ∧ bs = ns.map fun n => UInt8.ofNat n.toNat := by
  induction cs generalizing bs with
  | nil => simp [bytesL] at hb; subst hb; exact ⟨[], rfl, rfl⟩
  | cons c cs ih =>
    unfold bytesL at hb
    split at hb
    · rename_i heq; simp at heq
    · rename_i n l heq
      simp at heq
      obtain ⟨rfl, rfl⟩ := heq
      split at hb <;> cases hb
      rename_i bs' hbs
      obtain ⟨ns, rfl, rfl⟩ := ih hbs
      exact ⟨n :: ns, rfl, rfl⟩
    · cases hb

theorem VRs.ints {ns : List Int} {k : IntKind} {l : List Value} (hv : VRs μ (ns.map (Value.int k)) l) : l = ns.map (Value.int k) := by
  induction ns generalizing l with
  | nil => cases hv; rfl
  | cons n ns ih =>
    cases hv with
    | cons _ v' _ l' h hl => rw [h.int, ih hl]; rfl

/-- a row of bytes as a text -/
theorem bytesToString_sound (hr : Rel μ h w) {a : Addr} {len k : Nat} {x' : Value} {cs : List Value} {bs : List UInt8} (hx : VR μ (.slice (some a) len k) x') (hc : h.cellsAt a len = some cs) (hb : bytesL cs = some bs) :
    (Conv.bytesToString x').run P w = .ok (.string ⟨⟨bs⟩⟩) w := by
  obtain ⟨a', cap, rfl, h1, h2, h3, h4⟩ := hx.sliceI
  obtain ⟨hlen, r, ro, sz, cs', hm, hlen', _, hvs, hrd⟩ := cellsAt_sound hr hc h1 h2
  obtain ⟨ns, rfl, rfl⟩ := bytesL_sound hb
  have := hvs.ints
  subst this
  have hload : (loadCells a' len).run P w = .ok (ns.map (Value.int .u8)).toArray w := by
    rcases h4 r ro sz hm with ⟨rfl, _⟩ | ⟨rfl, _⟩
    · have := run_loadCells_list (P := P) w ⟨r, ro + a.off, none⟩ _ (fun j v hj => by rw [add_none rfl]; exact hrd j v hj)
      rwa [hlen'] at this
    · have : ns = [] := by simpa using hlen'
      subst this
      rfl
  rw [run_bytesToString w a' len cap ns hload, foldl_push_bytes]
  have e0 : ByteArray.empty.data = #[] := rfl
  rw [e0]; simp

theorem immToString_sound (hr : Rel μ h w) {l : List Value} {len k : Nat} {x' : Value} {bs : List UInt8} (hx : VR μ (.func (.yield 0) ⟨l⟩ ⟨[.slice none len k]⟩) x') (hle : len ≤ l.length) (hb : bytesL (l.take len) = some bs) :
    (Conv.bytesToString x').run P w = .ok (.string ⟨⟨bs⟩⟩) w := by
  obtain ⟨a, cap, rfl, _, hi⟩ := hx.immI
  by_cases h0 : len = 0
  · subst h0
    simp [bytesL] at hb
    subst hb
    cases a with
    | none => rfl
    | some a =>
      rw [run_bytesToString w a 0 cap [] rfl]
      rfl
  · obtain ⟨r, o, rfl, _, him⟩ := hi.resolve_left h0
    obtain ⟨cs', hvs, hrd⟩ := imm_take hr him len
    have hlen' : cs'.length = len := by rw [← hvs.length]; simp; omega
    obtain ⟨ns, hns, rfl⟩ := bytesL_sound hb
    rw [hns] at hvs
    have := hvs.ints
    subst this
    have hload : (loadCells ⟨r, o, none⟩ len).run P w = .ok (ns.map (Value.int .u8)).toArray w := by
      have := run_loadCells_list (P := P) w ⟨r, o, none⟩ _ (fun j v hj => by rw [add_none rfl]; exact hrd j v hj)
      rwa [hlen'] at this
    rw [run_bytesToString w ⟨r, o, none⟩ len cap ns hload, foldl_push_bytes]
    have e0 : ByteArray.empty.data = #[] := rfl
    rw [e0]; simp

theorem lits_obj {c : List Value} {c' : Array Value} {e : TypeId} {lo hi fz : Nat} {s : Bool} (hl : ∀ v ∈ c, litV v = true) (hc : ∀ i, i < c.length → c'[i]? = c[i]?) (hf : FzR lo hi 0 fz c.length c'.size s) (hlen : c.length ≤ c'.size) (μ' : Mu) :
    ObjR μ' 0 c'.size (.cells c e fz s) (.cells c' e (lo, hi)) := by
  refine .cells c e fz s c' lo hi rfl (by omega) (fun i v hi => ?_) hf
  have hlt : i < c.length := (List.getElem?_eq_some_iff.1 hi).1
  exact ⟨v, by rw [Nat.zero_add, hc i hlt, hi], .lit v (hl v (List.mem_of_getElem? hi))⟩

theorem vrs_obj {c c' : List Value} {e : TypeId} (hv : VRs μ c c') {μ' : Mu} (hl : Later μ μ') : ObjR μ' 0 c'.length (.cells c e 0 false) (.cells ⟨c'⟩ e (0, 0)) := by
  refine .cells c e 0 false ⟨c'⟩ 0 0 rfl (by rw [hv.length]; omega) (fun i v hi => ?_) (.inr rfl)
  obtain ⟨v', h1, h2⟩ := hv.get hi
  exact ⟨v', by simpa using h1, h2.later hl⟩

theorem zeros_length (z : Value) : ∀ n, (zeros z n).length = n * (cellsOf z).length
  | 0 => by simp [zeros]
  | n + 1 => by simp [zeros, zeros_length z n, Nat.succ_mul]; omega
theorem zeros_get (z : Value) : ∀ (n i : Nat), i < n * (cellsOf z).length → (zeros z n)[i]? = (cellsOf z)[i % (cellsOf z).length]?
  | 0, i, hi => by simp at hi
  | n + 1, i, hi => by
    simp only [zeros]
    by_cases h1 : i < (cellsOf z).length
    · rw [List.getElem?_append_left h1, Nat.mod_eq_of_lt h1]
    · rw [List.getElem?_append_right (by omega), zeros_get z n _ (by rw [Nat.succ_mul] at hi; omega)]
      rw [Nat.mod_eq_sub_mod (by omega : i ≥ (cellsOf z).length)]
theorem zeros_mem {z v : Value} : ∀ {n : Nat}, v ∈ zeros z n → v ∈ cellsOf z
  | 0, h => by simp [zeros] at h
  | n + 1, h => by
    simp only [zeros, List.mem_append] at h
    exact h.elim id zeros_mem

theorem made_get {z : Value} {n i : Nat} (h0 : 0 < (cellsOf z).length) (hi : i < n) : (madeCells z.cells n)[i]? = (cellsOf z)[i % (cellsOf z).length]? := by
  have hm : i % (cellsOf z).length < (cellsOf z).length := Nat.mod_lt _ h0
  have e : z.cells = ⟨cellsOf z⟩ := cells_eq z
  simp only [madeCells, e]
  rw [Array.getElem?_map, Array.getElem?_range]
  simp [hi, hm]
end
end Go.Ev
end
section
namespace Go.Ev
section
variable {P : Program} {E : Env} {μ : Mu} {h : AH} {w : World}

/-- what 'new' promises: a block more in the world, and a value that names it -/
def NewOk (_P : Program) (μ : Mu) (h : AH) (w : World) (run : Result Value) (v : Value) (o : AObj) : Prop :=
  ∃ v' w' o' sz, run = .ok v' w' ∧ (w'.heap = w.heap.push o' ∧ w'.os = w.os ∧ w'.output = w.output) ∧ (∀ μ', Later μ μ' → ObjR μ' 0 sz o o') ∧
    (∀ μ', Later μ μ' → μ' h.next = .at_ w.heap.size 0 sz ∧ h.next < μ'.n → VR μ' v v')

theorem ptr_new {μ' : Mu} {n r sz : Nat} (e : μ' n = .at_ r 0 sz ∧ n < μ'.n) : VR μ' (.pointer (some ⟨n, 0, none⟩)) (.pointer (some ⟨r, 0, none⟩)) :=
  .ptr _ _ ⟨rfl, ⟨e.2, by simp [e.1]⟩, fun r' ro' sz' e' => by simp only [e.1] at e'; cases e'; rfl⟩
theorem slice_new {μ' : Mu} {n r sz len k cap : Nat} (e : μ' n = .at_ r 0 sz ∧ n < μ'.n) (hl : len ≤ cap) (hs : cap * k ≤ sz) : VR μ' (.slice (some ⟨n, 0, none⟩) len k) (.slice (some ⟨r, 0, none⟩) len cap) :=
  .slice _ _ _ _ _ ⟨rfl, ⟨e.2, by simp [e.1]⟩, hl, fun r' ro' sz' e' => by simp only [e.1] at e'; cases e'; exact .inl ⟨rfl, by simpa using hs⟩⟩

theorem alloc_sound (hE : TIs P E) {t : TypeId} {r : AR} (ha : allocA E t h.next = some r) :
    ∃ v o, r = .new v o ∧ NewOk P μ h w ((Instr.alloc t true (.tuple #[])).run P w) v o := by
  unfold allocA at ha
  split at ha <;> try (cases ha; done)
  rename_i i hi
  split at ha <;> cases ha
  rename_i z hz
  refine ⟨_, _, rfl, .pointer (some ⟨w.heap.size, 0, none⟩), { w with heap := w.heap.push (.cells z.cells t) }, .cells z.cells t, (cellsOf z).length, ?_, ⟨rfl, rfl, rfl⟩, ?_, fun μ' _ e => ptr_new e⟩
  · simp [Instr.alloc, hE.zero hi hz, newVar, newRow]
  · intro μ' hl
    rw [cells_eq]
    exact vrs_obj (hE.zlits hi hz) hl

theorem box_sound {t : TypeId} {v v' : Value} {r : AR} (ha : boxA t v h.next = some r) (hv : VR μ v v') :
    ∃ u o, r = .new u o ∧ NewOk P μ h w ((Instr.box t v').run P w) u o := by
  unfold boxA at ha
  split at ha <;> cases ha
  rename_i hk
  refine ⟨_, _, rfl, .pointer (some ⟨w.heap.size, 0, none⟩), { w with heap := w.heap.push (.cells v'.cells t) }, .cells v'.cells t, (cellsOf v').length, ?_, ⟨rfl, rfl, rfl⟩, ?_, fun μ' _ e => ptr_new e⟩
  · simp [Instr.box, newVar, newRow]
  · intro μ' hl
    rw [cells_eq]
    exact vrs_obj (hv.cells hk) hl

theorem made_list {z : Value} {n : Nat} (h0 : 0 < (cellsOf z).length) (hz : ∀ v ∈ cellsOf z, litV v = true) (len : Nat) (hn : n = len * (cellsOf z).length) :
    ∃ l, madeCells z.cells n = ⟨l⟩ ∧ VRs μ (zeros z len) l ∧ l.length = n := by
  have hs : (madeCells z.cells n).size = n := size_madeCells _ _
  refine ⟨(madeCells z.cells n).toList, rfl, ?_, by simpa using hs⟩
  refine VRs.of_get (by rw [zeros_length, ← hn]; simpa using hs.symm) fun i v hi => ?_
  have hlt : i < n := by
    have := (List.getElem?_eq_some_iff.1 hi).1
    rw [zeros_length, ← hn] at this; exact this
  rw [zeros_get _ _ _ (hn ▸ hlt)] at hi
  refine ⟨v, ?_, .lit v (hz v (List.mem_of_getElem? hi))⟩
  have := made_get h0 hlt
  rw [hi] at this
  simpa using this

theorem TIs.zmem (hE : TIs P E) {t : TypeId} {i : TI} (hi : E.ti t = some i) {z : Value} (hz : i.zero = some z) : ∀ v ∈ cellsOf z, litV v = true := fun v hv => by
  have := List.all_eq_true.1 ((hE.ti t i hi).zlit z hz).1 v hv
  simp at this; exact this.1

theorem buildSlice_sound (hE : TIs P E) {t : TypeId} {len : Nat} {parts parts' : List (Nat × Value)} {r : AR} (hb : buildSliceA E t len parts h.next = some r) (hp : PRs μ parts parts') :
    ∃ v o, r = .new v o ∧ NewOk P μ h w ((Instr.buildSlice t len ⟨parts'⟩).run P w) v o := by
  unfold buildSliceA at hb
  split at hb <;> try (cases hb; done)
  rename_i i hi
  split at hb <;> try (cases hb; done)
  rename_i e hd
  split at hb <;> try (cases hb; done)
  rename_i ei hei
  split at hb <;> try (cases hb; done)
  rename_i z hz hc
  split at hb <;> cases hb
  rename_i cs hcs
  simp only [Bool.and_eq_true, Nat.ble_eq] at hc
  have hzl := hE.zlen hei hz
  obtain ⟨l, hm, hv, hll⟩ := made_list (μ := μ) (by omega) (hE.zmem hei hz) len (n := len * ei.size) (by rw [hzl])
  obtain ⟨out', h1, h2⟩ := fill_sound (place' := fun k => some (k * ei.size, ei.size)) (fun _ _ h => h) hp hcs hv
  have hlen : out'.length = len * ei.size := by
    have := h2.length
    have h3 : cs.length = len * ei.size := by
      have fl : ∀ {pl : Nat → Option (Nat × Nat)} {ps : List (Nat × Value)} {c o : List Value}, fillL pl ps c = some o → o.length = c.length := by
        intro pl ps
        induction ps with
        | nil => intro c o h; simp [fillL] at h; rw [h]
        | cons p ps ih =>
          intro c o h
          obtain ⟨i, v⟩ := p
          unfold fillL at h
          split at h <;> try (cases h; done)
          split at h <;> try (cases h; done)
          rw [ih h, setAt_length]
      rw [fl hcs, zeros_length, hzl]
    omega
  refine ⟨_, _, rfl, .slice (some ⟨w.heap.size, 0, none⟩) len len, { w with heap := w.heap.push (.cells ⟨out'⟩ e) }, .cells ⟨out'⟩ e, out'.length, ?_, ⟨rfl, rfl, rfl⟩, ?_, fun μ' _ e' => ?_⟩
  · unfold Instr.buildSlice
    simp only [Sem.run_bind, hE.und hi, hd, Result.andThen_ok, hE.size hei]
    have hn : ¬ (len * ei.size > 2 ^ 24) := by omega
    simp only [hn, if_false]
    by_cases h0 : len * ei.size = 0
    · have hr0 : Array.range 0 = #[] := rfl
      simp only [h0, if_true, pure_bind, hr0, Array.map_empty]
      have hl0 : l = [] := by simpa [h0] using hll
      subst hl0
      rw [show (#[] : Array Value) = ⟨[]⟩ from rfl, h1]
      rfl
    · simp only [h0, if_false, Sem.run_bind, hE.zero hei hz, Sem.run_pure, Result.andThen_ok]
      have hm' : (Array.range (len * ei.size)).map (fun x => z.cells[x % z.cells.size]!) = ⟨l⟩ := hm
      rw [hm', h1]
      rfl
  · intro μ' hl
    exact vrs_obj h2 hl
  · exact slice_new e' (Nat.le_refl _) (by omega)

theorem makeSlice_sound (hE : TIs P E) {t : TypeId} {a b a' b' : Value} {r : AR} (hb : makeSliceA E t a b h.next = some r) (ha : VR μ a a') (hb' : VR μ b b') :
    ∃ v o, r = .new v o ∧ NewOk P μ h w ((Instr.makeSlice t a' b').run P w) v o := by
  unfold makeSliceA at hb
  split at hb <;> try (cases hb; done)
  rename_i i k1 l k2 c hi
  rw [ha.int, hb'.int]
  split at hb <;> try (cases hb; done)
  rename_i e hd
  split at hb <;> try (cases hb; done)
  rename_i ei hei
  split at hb <;> cases hb
  rename_i z hz hc
  simp only [Bool.and_eq_true, Nat.ble_eq, decide_eq_true_eq] at hc
  obtain ⟨⟨⟨⟨hc1, hc2⟩, hc3⟩, hc4⟩, hc5⟩ := hc
  obtain ⟨inf, g1, g2, g3, g4⟩ := (hE.ti e ei hei).info
  have hzl := hE.zlen hei hz
  have hrun := run_make (P := P) w t e inf z (hd ▸ (hE.ti t i hi).und) g1 (g4 ▸ hz) k1 k2 l c hc1 hc2 (by rw [g3]; exact hc4) hc3
  rw [hrun, g2]
  refine ⟨_, _, rfl, _, _, .cells (madeCells z.cells (c.toNat * ei.size)) e, c.toNat * ei.size, rfl, ⟨rfl, rfl, rfl⟩, ?_, fun μ' _ e' => ?_⟩
  · intro μ' hl
    have hle : l.toNat * ei.size ≤ c.toNat * ei.size := Nat.mul_le_mul_right _ (by omega)
    have hsz : (madeCells z.cells (c.toNat * ei.size)).size = c.toNat * ei.size := size_madeCells _ _
    have := lits_obj (c := zeros z l.toNat) (c' := madeCells z.cells (c.toNat * ei.size)) (e := e) (lo := 0) (hi := 0) (fz := 0) (s := false)
      (fun v hv => hE.zmem hei hz v (zeros_mem hv)) (fun i hi => by
        rw [zeros_length, hzl] at hi
        rw [made_get (by omega) (by omega), zeros_get _ _ _ (by rw [hzl]; exact hi)]) (.inr rfl) (by rw [zeros_length, hzl, hsz]; exact hle) μ'
    rw [hsz] at this
    exact this
  · exact slice_new e' (by omega) (Nat.le_refl _)

theorem freeze_push {w : World} {c : Array Value} {e : TypeId} (n : Nat) (hn : n = w.heap.size) : ({ w with heap := w.heap.push (.cells c e) }.freeze ⟨n, c.size, none⟩ 1).heap = w.heap.push (.cells c e (c.size, c.size + 1)) := by
  subst hn
  unfold World.freeze
  simp only [Nat.one_ne_zero, if_false]
  apply Array.ext_getElem?
  intro i
  rw [Array.getElem?_modify]
  rw [Array.getElem?_push, Array.getElem?_push]
  by_cases h : i = w.heap.size
  · subst h; simp
  · have : ¬ w.heap.size = i := fun e => h e.symm
    simp [h, this]

theorem run_stringToBytes (e : TypeId) (s : ByteArray) : ∃ cap, s.size ≤ cap ∧ ∃ w', (Conv.stringToBytes e s).run P w = .ok (.slice (some ⟨w.heap.size, 0, none⟩) s.size cap) w' ∧
    (w'.heap = w.heap.push (.cells ((s.data.map fun (b : UInt8) => Value.int .u8 b.toNat) ++ Array.replicate (cap - s.size) (Value.int .u8 0)) e (cap, cap + 1)) ∧ w'.os = w.os ∧ w'.output = w.output) := by
  obtain ⟨cap, hcd⟩ : ∃ cap, (Question.appendCap s.size 0 e).cut (w.tape w.drawn (Question.appendCap s.size 0 e)) = cap := ⟨_, rfl⟩
  have hcap : s.size ≤ cap := by rw [← hcd]; show s.size ≤ s.size + _; omega
  have hA : ((s.data.map fun (b : UInt8) => Value.int .u8 b.toNat) ++ Array.replicate (cap - s.size) (Value.int .u8 0)).size = cap := by
    have : s.data.size = s.size := rfl
    simp; omega
  have hrun : (Conv.stringToBytes e s).run P w = .ok (.slice (some ⟨w.heap.size, 0, none⟩) s.size cap)
      ((w.drew.alloc (.cells ((s.data.map fun (b : UInt8) => Value.int .u8 b.toNat) ++ Array.replicate (cap - s.size) (Value.int .u8 0)) e)).freeze ⟨w.heap.size, cap, none⟩ 1) := by
    have hsh : (w.drew.alloc (.cells ((s.data.map fun (b : UInt8) => Value.int .u8 b.toNat) ++ Array.replicate (cap - s.size) (Value.int .u8 0)) e)).shape? w.heap.size = some (e, cap) := by
      unfold World.shape?
      have : (w.drew.alloc (.cells ((s.data.map fun (b : UInt8) => Value.int .u8 b.toNat) ++ Array.replicate (cap - s.size) (Value.int .u8 0)) e)).heap[w.heap.size]? = some (.cells ((s.data.map fun (b : UInt8) => Value.int .u8 b.toNat) ++ Array.replicate (cap - s.size) (Value.int .u8 0)) e (0, 0)) := by
        show (w.heap.push _)[w.heap.size]? = _
        simp
      rw [this]; simp only [hA]
    unfold Conv.stringToBytes
    simp only [Sem.run_bind, run_choose, Question.forced, Bool.false_eq_true, if_false, Result.andThen_ok, hcd]
    show (((newRow e _).run P w.drew).andThen _) = _
    simp only [newRow, Sem.run_bind, run_newObj, Sem.run_pure, Result.andThen_ok, World.alloc_eq, markStringish, run_shape, World.size_drew, hsh, run_freeze]
  refine ⟨cap, hcap, _, hrun, ?_⟩
  have := freeze_push (w := w.drew) (c := (s.data.map fun (b : UInt8) => Value.int .u8 b.toNat) ++ Array.replicate (cap - s.size) (Value.int .u8 0)) (e := e) w.heap.size rfl
  rw [hA] at this
  exact ⟨this, rfl, rfl⟩
end
end Go.Ev
end
section
namespace Go.Ev
section
variable {P : Program} {E : Env} {μ : Mu} {h : AH} {w : World}

theorem ofBytes_get (s : ByteArray) (i : Nat) : (ofBytes s)[i]? = (s.data.map fun (b : UInt8) => Value.int .u8 b.toNat)[i]? := by
  simp [ofBytes]
theorem ofBytes_length (s : ByteArray) : (ofBytes s).length = s.size := by simp [ofBytes]
theorem ofBytes_lit (s : ByteArray) : ∀ v ∈ ofBytes s, litV v = true := by
  intro v hv
  simp [ofBytes] at hv
  obtain ⟨b, _, rfl⟩ := hv
  rfl

theorem stringToBytes_sound (e : TypeId) (s : ByteArray) {k : Nat} (hk : k = 1) :
    NewOk P μ h w ((Conv.stringToBytes e s).run P w) (.slice (some ⟨h.next, 0, none⟩) s.size k) (.cells (ofBytes s) e 0 true) := by
  subst hk
  obtain ⟨cap, hcap, w', hrun, hw⟩ := run_stringToBytes (P := P) (w := w) e s
  refine ⟨_, w', _, cap, hrun, hw, ?_, fun μ' _ e' => slice_new e' hcap (by omega)⟩
  intro μ' hl
  have hsz : ((s.data.map fun (b : UInt8) => Value.int .u8 b.toNat) ++ Array.replicate (cap - s.size) (Value.int .u8 0)).size = cap := by
    have : s.data.size = s.size := rfl
    simp; omega
  have := lits_obj (c := ofBytes s) (c' := (s.data.map fun (b : UInt8) => Value.int .u8 b.toNat) ++ Array.replicate (cap - s.size) (Value.int .u8 0)) (e := e) (lo := cap) (hi := cap + 1) (fz := 0) (s := true)
    (ofBytes_lit s) (fun i hi => by
      rw [ofBytes_length] at hi
      have : s.data.size = s.size := rfl
      rw [Array.getElem?_append_left (by simp; omega), ofBytes_get]) (.inr ⟨rfl, .inr (by rw [hsz]; exact Nat.le_refl _)⟩) (by rw [ofBytes_length, hsz]; exact hcap) μ'
  rw [hsz] at this
  exact this

/-! maps -/
theorem keyEq_sound {d : TypeDesc} {a b : Value} {r : Bool} (hk : keyEq d a b = some r) : Instr.sameNow d a b = some r := by
  unfold keyEq at hk
  split at hk
  · split at hk <;> cases hk
    rename_i hd
    have := of_decide_eq_true hd
    simp [Instr.sameNow, this]
  · exact hk
  · exact hk
  · cases hk

theorem find_sound {d : TypeDesc} {k : Value} : ∀ {es es' : List MapEntry} {i : Nat} {r : Option (Nat × Value)}, findA d k es i = some r → es.length = es'.length →
    (∀ (j : Nat) (e : MapEntry), es[j]? = some e → ∃ e', es'[j]? = some e' ∧ EntR μ e e') →
    ∃ r', Instr.findNow d k es' i = some r' ∧ (match r, r' with | none, none => True | some (j, v), some (j', v') => j = j' ∧ VR μ v v' ∧ i ≤ j ∧ (∃ e, es[j - i]? = some e ∧ e.val = v) | _, _ => False)
  | [], [], i, r, h, _, _ => by simp [findA] at h; subst h; exact ⟨none, rfl, trivial⟩
  | [], _ :: _, _, _, _, hl, _ => by simp at hl
  | _ :: _, [], _, _, _, hl, _ => by simp at hl
  | e :: es, e' :: es', i, r, h, hl, he => by
    obtain ⟨e'', h1, h2, h3, h4, h5⟩ := he 0 e rfl
    simp at h1
    subst h1
    unfold findA at h
    unfold Instr.findNow
    rw [← h2]
    split at h
    · rename_i hk
      cases h
      rw [keyEq_sound hk]
      exact ⟨_, rfl, rfl, h4, Nat.le_refl _, e, by simp, rfl⟩
    · rename_i hk
      rw [keyEq_sound hk]
      obtain ⟨r', g1, g2⟩ := find_sound h (by simpa using hl) (fun j f hj => by simpa using he (j + 1) f (by simpa using hj))
      refine ⟨r', g1, ?_⟩
      cases r with
      | none => cases r' with
        | none => trivial
        | some x => exact g2.elim
      | some x => cases r' with
        | none => exact g2.elim
        | some y =>
          obtain ⟨j, v⟩ := x
          obtain ⟨j', v'⟩ := y
          obtain ⟨q1, q2, q3, f, q4, q5⟩ := g2
          refine ⟨q1, q2, by omega, f, ?_, q5⟩
          rw [show j - i = (j - (i + 1)) + 1 by omega]
          simpa using q4
    · cases h

theorem checkKey_plain (hE : TIs P E) {t : TypeId} {i : TI} {k : Value} {em : Bool} {n : Nat} (hi : E.ti t = some i) (hk : plainKey i.desc k = true) : (Instr.checkKey em (n + 1) t k).run P w = .ok () w := by
  unfold plainKey at hk
  unfold Instr.checkKey
  simp only [Sem.run_bind, hE.und hi, Result.andThen_ok]
  split at hk
  · rename_i hd; simp [hd]
  · rename_i hd; simp [hd]
  · rename_i hd; simp [hd]
  · cases hk

theorem checkKey_tt (hE : TIs P E) {t : TypeId} {i : TI} {k : Value} {em : Bool} (hi : E.ti t = some i) (hk : plainKey i.desc k = true) : (Instr.checkKey em 10000 t k).run P w = .ok () w :=
  checkKey_plain (n := 9999) hE hi hk
theorem findKey_sound (hE : TIs P E) {t : TypeId} {i : TI} {k : Value} {es' : List MapEntry} {r' : Option (Nat × Value)} (hi : E.ti t = some i) (hf : Instr.findNow i.desc k es' 0 = some r') : (Instr.findKey t k es').run P w = .ok r' w := by
  simp [Instr.findKey, hE.und hi, hf]

theorem map_lies (hr : Rel μ h w) {b r : Nat} {es : List MapEntry} {c : Nat} (hg : h.get b = some (.map es c)) (hb : BR μ b r) :
    ∃ es', w.heap[r]? = some (.map ⟨es'⟩ c) ∧ es.length = es'.length ∧ (∀ (j : Nat) (e : MapEntry), es[j]? = some e → ∃ e', es'[j]? = some e' ∧ EntR μ e e') ∧ ∃ sz, μ b = .at_ r 0 sz := by
  obtain ⟨r', ro, sz, o', hm, hw, ho⟩ := hr.lies hg hb.1
  have := hb.2 _ _ _ hm
  subst this
  cases ho with
  | map _ _ es' hro hl he => subst hro; exact ⟨es', hw, hl, he, sz, hm⟩

theorem run_getObj_ok {r : Nat} {o : Obj} (hw : w.heap[r]? = some o) (hc : ∀ c e f, o ≠ .cells c e f) : (getObj r).run P w = .ok o w := by
  unfold getObj Sem.run
  simp only [hw]
  cases o <;> first | rfl | (exact absurd rfl (hc _ _ _))
theorem run_setObj_ok {r : Nat} {o o₂ : Obj} (hw : w.heap[r]? = some o) (hc : ∀ c e f, o ≠ .cells c e f) : (setObj r o₂).run P w = .ok () { w with heap := w.heap.setIfInBounds r o₂ } := by
  unfold setObj Sem.run
  simp only [hw]
  cases o <;> first | rfl | (exact absurd rfl (hc _ _ _))

theorem plainKey_eq {d : TypeDesc} {k k' : Value} (hk : plainKey d k = true) (hv : VR μ k k') : k' = k ∧ litV k = true := by
  unfold plainKey at hk
  split at hk
  · exact ⟨hv.int, rfl⟩
  · exact ⟨hv.string, rfl⟩
  · exact ⟨hv.bool, rfl⟩
  · cases hk

theorem TIs.zVR (hE : TIs P E) {t : TypeId} {i : TI} (hi : E.ti t = some i) {z : Value} (hz : i.zero = some z) : VR μ z z := by
  have h1 := hE.zmem hi hz
  cases z with
  | agg cs => exact .agg _ _ (hE.zlits hi hz)
  | _ => exact .lit _ (h1 _ (by simp [cellsOf]))
theorem lookup_sound (hE : TIs P E) (hr : Rel μ h w) {t : TypeId} {x x' k k' : Value} {ok : Bool} {r : AR} (hl : lookupA E t x k ok h = some r) (hx : VR μ x x') (hk : VR μ k k') :
    ∃ v v', r = .read v ∧ (Instr.lookup t x' k' ok).run P w = .ok v' w ∧ VR μ v v' := by
  unfold lookupA at hl
  split at hl <;> try (cases hl; done)
  rename_i i hi
  split at hl <;> try (cases hl; done)
  rename_i kt et hd
  split at hl <;> try (cases hl; done)
  rename_i ki ei hki hei
  split at hl <;> try (cases hl; done)
  rename_i z es hpk hz hes
  obtain ⟨rfl, hklit⟩ := plainKey_eq hpk hk
  have hmap : ∃ es', (x' = .map none ∧ es' = [] ∨ ∃ r0 c, x' = .map (some r0) ∧ w.heap[r0]? = some (.map ⟨es'⟩ c)) ∧
      es.length = es'.length ∧ (∀ (j : Nat) (e : MapEntry), es[j]? = some e → ∃ e', es'[j]? = some e' ∧ EntR μ e e') := by
    split at hes
    · cases hes; exact ⟨[], .inl ⟨hx.nilMap, rfl⟩, rfl, by simp⟩
    · simp only [Option.map_eq_some_iff] at hes
      obtain ⟨⟨es0, c⟩, he, rfl⟩ := hes
      unfold mapOf at he
      split at he <;> try (cases he; done)
      rename_i b
      split at he <;> cases he
      rename_i hg
      obtain ⟨r0, rfl, hb⟩ := hx.mapI
      obtain ⟨es', g1, g2, g3, _⟩ := map_lies hr hg hb
      exact ⟨es', .inr ⟨r0, c, rfl, g1⟩, g2, g3⟩
  obtain ⟨es', hrun, hlen, hent⟩ := hmap
  have main : ∀ r0, findA ki.desc k' es 0 = some r0 → ∃ r', Instr.findNow ki.desc k' es' 0 = some r' ∧ (match r0, r' with | none, none => True | some (_, v), some (_, v') => VR μ v v' | _, _ => False) ∧
      (Instr.lookup t x' k' ok).run P w = .ok (let p := (match r' with | some (_, v) => (v, true) | none => (z, false)); if ok then .tuple #[p.1, .bool p.2] else p.1) w := by
    intro r0 hf
    obtain ⟨r', g1, g2⟩ := find_sound hf hlen hent
    refine ⟨r', g1, ?_, ?_⟩
    · cases r0 <;> cases r' <;> first | exact g2 | exact g2.2.1
    · unfold Instr.lookup
      simp only [Sem.run_bind, hE.und hi, hd, Result.andThen_ok]
      rcases hrun with ⟨rfl, rfl⟩ | ⟨r1, c, rfl, hw⟩
      · have ck := fun em => checkKey_tt (w := w) (em := em) hE hki hpk
        have fk := findKey_sound (w := w) hE hki g1
        cases r' with
        | none => simp [hE.zero hei hz, ck, fk]
        | some p => simp [ck, fk]
      · simp only [Sem.run_bind, run_getObj_ok (P := P) hw (by intro c e f h; cases h), Sem.run_pure, Result.andThen_ok, checkKey_tt hE hki hpk, findKey_sound hE hki g1]
        cases r' with
        | none => simp [hE.zero hei hz]
        | some p => simp
  split at hl
  · rename_i j v hf
    cases hl
    obtain ⟨r', g1, g2, g3⟩ := main _ hf
    cases r' with
    | none => exact g2.elim
    | some p =>
      obtain ⟨j', v'⟩ := p
      rw [g3]
      refine ⟨_, _, rfl, rfl, ?_⟩
      cases ok
      · exact g2
      · exact .tuple _ _ (.cons _ _ _ _ g2 (.cons _ _ _ _ (.lit _ rfl) .nil))
  · rename_i hf
    cases hl
    obtain ⟨r', g1, g2, g3⟩ := main _ hf
    cases r' with
    | some p => exact g2.elim
    | none =>
      rw [g3]
      refine ⟨_, _, rfl, rfl, ?_⟩
      have hzv : VR μ z z := hE.zVR hei hz
      cases ok
      · exact hzv
      · exact .tuple _ _ (.cons _ _ _ _ hzv (.cons _ _ _ _ (.lit _ rfl) .nil))
  · cases hl
end
end Go.Ev
end
section
namespace Go.Ev
section
variable {P : Program} {E : Env} {μ : Mu} {h : AH} {w : World}

theorem setAt_cons (c : List Value) (k : Nat) (v : Value) (vs : List Value) (h : k + (v :: vs).length ≤ c.length) : setAt (c.set k v) (k + 1) vs = setAt c k (v :: vs) := by
  apply List.ext_getElem?
  intro i
  have hl : (v :: vs).length = vs.length + 1 := rfl
  rw [setAt_get _ _ _ _ (by rw [List.length_set]; omega), setAt_get _ _ _ _ h]
  by_cases h1 : i = k
  · subst h1
    have a1 : ¬ (i + 1 ≤ i ∧ i < i + 1 + vs.length) := by omega
    have a2 : i ≤ i ∧ i < i + (v :: vs).length := by omega
    rw [if_neg a1, if_pos a2]
    have : i < c.length := by omega
    simp [this]
  · by_cases h2 : k + 1 ≤ i ∧ i < k + 1 + vs.length
    · have a2 : k ≤ i ∧ i < k + (v :: vs).length := by omega
      rw [if_pos h2, if_pos a2]
      obtain ⟨j, hj⟩ : ∃ j, i - k = j + 1 := ⟨i - k - 1, by omega⟩
      rw [hj, show i - (k + 1) = j by omega]; simp
    · have a2 : ¬ (k ≤ i ∧ i < k + (v :: vs).length) := by omega
      rw [if_neg h2, if_neg a2, List.getElem?_set_ne (fun e => h1 e.symm)]

theorem setAt_nil (c : List Value) (k : Nat) (h : k ≤ c.length) : setAt c k [] = c := by
  apply List.ext_getElem?
  intro i
  rw [setAt_get _ _ _ _ (by simpa using h)]
  have : ¬ (k ≤ i ∧ i < k + ([] : List Value).length) := by simp
  rw [if_neg this]

theorem run_storeCells {r o : Nat} {e : TypeId} {lo hi : Nat} (vs : List Value) : ∀ (w : World) (i : Nat) (c' : List Value), w.heap[r]? = some (.cells ⟨c'⟩ e (lo, hi)) → o + i + vs.length ≤ c'.length →
    (∀ v ∈ vs, leaf v = true) → (∀ k, o + i ≤ k → k < o + i + vs.length → ¬ (lo ≤ k ∧ k < hi)) →
    ∃ w', (storeCells ⟨r, o, none⟩ vs i).run P w = .ok () w' ∧ w'.heap[r]? = some (.cells ⟨setAt c' (o + i) vs⟩ e (lo, hi)) ∧ (w'.heap.size = w.heap.size ∧ w'.os = w.os ∧ w'.output = w.output) ∧ ∀ r', r' ≠ r → w'.heap[r']? = w.heap[r']? := by
  induction vs with
  | nil =>
    intro w i c' hw hl _ _
    refine ⟨w, rfl, ?_, ⟨rfl, rfl, rfl⟩, fun _ _ => rfl⟩
    rw [setAt_nil _ _ (by simpa using hl)]; exact hw
  | cons v vs ih =>
    intro w i c' hw hl hleaf hfz
    have hl' : (v :: vs).length = vs.length + 1 := rfl
    have hv : v.oneCell' = true := by have := hleaf v (by simp); cases v <;> first | rfl | (simp [leaf] at this)
    have hlt : o + i < c'.length := by omega
    have hcell : w.cell? ⟨r, o + i, none⟩ = some c'[o + i] := by
      rw [cell_of_obj hw]; simp [hlt]
    have hfr : w.frozen? ⟨r, o + i, none⟩ = false := by
      have := hfz (o + i) (by omega) (by omega)
      simp [World.frozen?, hw]
      omega
    have hw1 : (w.setCell ⟨r, o + i, none⟩ v).heap[r]? = some (.cells ⟨c'.set (o + i) v⟩ e (lo, hi)) := by
      simp only [World.setCell]
      rw [Array.getElem?_modify]
      simp only [if_true, hw, Option.map_some]
      simp
    have hne : ∀ r', r' ≠ r → (w.setCell ⟨r, o + i, none⟩ v).heap[r']? = w.heap[r']? := by
      intro r' hr'
      simp only [World.setCell]
      rw [Array.getElem?_modify, if_neg (fun e => hr' e.symm)]
    obtain ⟨w', g1, g2, g3, g4⟩ := ih (w.setCell ⟨r, o + i, none⟩ v) (i + 1) (c'.set (o + i) v) hw1 (by rw [List.length_set]; omega) (fun u hu => hleaf u (by simp [hu]))
      (fun k h1 h2 => hfz k (by omega) (by omega))
    refine ⟨w', ?_, ?_, ⟨by rw [g3.1, World.size_setCell], g3.2.1, g3.2.2⟩, fun r' hr' => by rw [g4 r' hr', hne r' hr']⟩
    · simp only [storeCells, Sem.run_bind, add_none (a := ⟨r, o, none⟩) rfl, run_store P w _ v .plain hv, hcell, hfr, Bool.false_eq_true, if_false, Result.andThen_ok, g1]
    · rw [g2, show o + (i + 1) = o + i + 1 by omega, setAt_cons _ _ _ _ (by omega)]

theorem FzR.free {lo hi ro fz len size : Nat} {s : Bool} (hf : FzR lo hi ro fz len size s) (hz : ¬ len < fz) {k : Nat} (h1 : ro + fz ≤ k) (h2 : k < size) : ¬ (lo ≤ k ∧ k < hi) := by
  rcases hf with h | h
  · exact absurd h hz
  · split at h <;> omega

theorem not_stone {h : AH} {b : Nat} {c : List Value} {e : TypeId} {fz : Nat} {s : Bool} (hg : h.get b = some (.cells c e fz s)) (hz : ¬ c.length < fz) : ¬ Stone h b := by
  rintro ⟨c', e', fz', s', h1, h2⟩
  rw [hg] at h1; cases h1; exact hz h2

/-- related cells that are written -/
theorem store_cells (hr : Rel μ h w) {p p' : Addr} {vs vs' : List Value} {h' : AH} (hs : h.store p vs = some h') (hv : VRs μ vs vs')
    (_hp1 : p.spot = none) (hp2 : μ.has p.block) (hp3 : vs ≠ [] → ∀ r ro sz, μ p.block = .at_ r ro sz → p' = ⟨r, ro + p.off, none⟩) :
    ∃ w', (storeCells p' vs').run P w = .ok () w' ∧ Post μ h w μ h' w' := by
  unfold AH.store at hs
  split at hs <;> try (cases hs; done)
  rename_i c e fz s hg
  split at hs <;> cases hs
  rename_i hc
  simp only [Bool.and_eq_true, Nat.ble_eq, List.all_eq_true] at hc
  obtain ⟨⟨hc1, hc2⟩, hc3⟩ := hc
  obtain ⟨r, ro, sz, o', hm, hw, ho⟩ := hr.lies hg hp2
  have hlen := hv.length
  have hns : ¬ c.length < fz := by omega
  cases ho with
  | cells _ _ _ _ c' lo hi hsz hle hcc hf =>
    obtain ⟨l'⟩ := c'
    have hsz' : l'.length = sz := by simpa using hsz
    have hleaf : ∀ v ∈ vs', leaf v = true := by
      intro v hv'
      obtain ⟨i, hi⟩ := List.getElem?_of_mem hv'
      have hilt : i < vs.length := by have := (List.getElem?_eq_some_iff.1 hi).1; omega
      obtain ⟨u', h1, h2⟩ := hv.get (List.getElem?_eq_getElem hilt)
      rw [hi] at h1; cases h1
      exact h2.leaf_eq (hc3 _ (List.getElem_mem hilt))
    have main : ∃ w', (storeCells p' vs').run P w = .ok () w' ∧ w'.heap[r]? = some (.cells ⟨setAt l' (ro + p.off) vs'⟩ e (lo, hi)) ∧ (w'.heap.size = w.heap.size ∧ w'.os = w.os ∧ w'.output = w.output) ∧ ∀ r', r' ≠ r → w'.heap[r']? = w.heap[r']? := by
      by_cases hnil : vs = []
      · subst hnil
        have : vs' = [] := by simpa using hlen.symm
        subst this
        refine ⟨w, rfl, ?_, ⟨rfl, rfl, rfl⟩, fun _ _ => rfl⟩
        rw [setAt_nil _ _ (by omega)]; exact hw
      · have := hp3 hnil r ro sz hm
        subst this
        have := run_storeCells (P := P) (r := r) (o := ro + p.off) (e := e) (lo := lo) (hi := hi) vs' w 0 l' hw (by omega) hleaf (fun k h1 h2 => hf.free hns (by omega) (by omega))
        simpa using this
    obtain ⟨w', g1, g2, g3, g4⟩ := main
    refine ⟨w', g1, Post.put hr hg (not_stone hg hns) g3.1 (fun r' hr' => g4 r' fun e => hr' ro sz (by rw [e]; exact hm)) (fun r' ro' sz' hm' => ?_) g3.2⟩
    rw [hm] at hm'; cases hm'
    refine ⟨_, g2, .cells _ e fz s _ lo hi (by simp [setAt_length, hsz']) (by rw [setAt_length]; exact hle) (fun i v hi => ?_) (by rw [setAt_length]; exact hf)⟩
    rw [setAt_get _ _ _ _ hc1] at hi
    have e2 : (Array.mk (setAt l' (ro + p.off) vs'))[ro + i]? = (setAt l' (ro + p.off) vs')[ro + i]? := by simp
    rw [e2, setAt_get _ _ _ _ (by omega), ← hlen]
    split at hi
    · rename_i hin
      rw [if_pos (by omega)]
      rw [show ro + i - (ro + p.off) = i - p.off by omega]
      exact hv.get hi
    · rename_i hin
      rw [if_neg (by omega)]
      obtain ⟨v', h1, h2⟩ := hcc i v hi
      exact ⟨v', by simpa using h1, h2⟩

theorem store_sound (hE : TIs P E) (hr : Rel μ h w) {t : TypeId} {a a' v v' : Value} {r : AR} (hs : storeA E t a v h = some r) (ha : VR μ a a') (hv : VR μ v v') :
    ∃ h' w', r = .eff undef h' ∧ (Instr.storeAt t a' v').run P w = .ok () w' ∧ Post μ h w μ h' w' := by
  unfold storeA at hs
  split at hs <;> try (cases hs; done)
  rename_i p
  obtain ⟨p', rfl, hp⟩ := ha.pointer
  split at hs <;> cases hs
  rename_i h' hst
  unfold astore at hst
  split at hst <;> try (cases hst; done)
  rename_i i hi
  split at hst <;> try (cases hst; done)
  rename_i hn
  simp only [Bool.and_eq_true] at hn
  obtain ⟨hk, hn⟩ := hn
  have hn' := Nat.eq_of_beq_eq_true hn
  obtain ⟨w', g1, g2⟩ := store_cells (P := P) hr hst (hv.cells hk) hp.1 hp.2.1 (fun _ => hp.2.2)
  refine ⟨h', w', rfl, ?_, g2⟩
  have hcl := (hv.cells hk).length
  have e : ¬ v'.cells.size ≠ i.size := by rw [cells_eq]; simp; omega
  have e2 : v'.cells.toList = cellsOf v' := by rw [cells_eq]
  simp only [Instr.storeAt, Instr.sureAddr, storeVar, Sem.run_bind, Sem.run_pure, Result.andThen_ok, hE.size hi, e, if_false, e2, g1]
end
end Go.Ev
end
section
namespace Go.Ev
section
variable {P : Program} {E : Env} {μ : Mu} {h : AH} {w : World}

theorem lenOf_sound {x x' : Value} {n : Nat} (hl : lenOfA x = some n) (hx : VR μ x x') : (Builtin.lenOf x').run P w = .ok n w := by
  unfold lenOfA at hl
  split at hl <;> cases hl
  · obtain ⟨a, cap, rfl, _⟩ := hx.immI; rfl
  · rename_i a k
    cases a with
    | none => obtain ⟨rfl, rfl, _⟩ := hx.nilSlice; rfl
    | some a => obtain ⟨a', c, rfl, _⟩ := hx.sliceI; rfl
  · rw [hx.string]; rfl

theorem loads_sound (hr : Rel μ h w) {a a' : Addr} {len k cap m : Nat} {cs : List Value} (hc : h.cellsAt a m = some cs) (hs : SR μ a a' len k cap) (hm : len = 0 → m = 0) :
    ∃ cs', (loadCells a' m).run P w = .ok ⟨cs'⟩ w ∧ VRs μ cs cs' ∧ cs.length = m ∧ cs'.length = m := by
  obtain ⟨h1, h2, h3, h4⟩ := hs
  obtain ⟨hlen, r, ro, sz, cs', hmu, hlen', _, hvs, hrd⟩ := cellsAt_sound hr hc h1 h2
  refine ⟨cs', ?_, hvs, hlen, hlen'⟩
  rcases h4 r ro sz hmu with ⟨rfl, _⟩ | ⟨h5, _⟩
  · have := run_loadCells_list (P := P) w ⟨r, ro + a.off, none⟩ cs' (fun j v hj => by rw [add_none rfl]; exact hrd j v hj)
    rwa [hlen'] at this
  · have := hm h5
    subst this
    have : cs' = [] := by simpa using hlen'
    subst this
    rfl

theorem first_sound (hr : Rel μ h w) {size n : Nat} {x x' : Value} {new : List Value} (hf : firstA h size n x = some new) (hx : VR μ x x') (hn : ∀ m, lenOfA x = some m → m = 0 → n = 0) :
    ∃ new', (Builtin.firstCells size n x').run P w = .ok ⟨new'⟩ w ∧ VRs μ new new' := by
  unfold firstA at hf
  split at hf
  · rename_i l len k
    split at hf <;> cases hf
    rename_i hb
    simp only [Bool.and_eq_true, Nat.ble_eq] at hb
    obtain ⟨⟨hb1, hb2⟩, hb3⟩ := hb
    obtain ⟨a, cap, rfl, _, hi⟩ := hx.immI
    by_cases h0 : len = 0
    · subst h0
      obtain rfl : n = 0 := by omega
      cases a with
      | none => exact ⟨[], rfl, by simp; exact .nil⟩
      | some a => exact ⟨[], by simp [Builtin.firstCells]; rfl, by simp; exact .nil⟩
    · obtain ⟨r, o, rfl, _, him⟩ := hi.resolve_left h0
      obtain ⟨cs', hvs, hrd⟩ := imm_take hr him (n * size)
      have hlen' : cs'.length = n * size := by rw [← hvs.length]; simp; omega
      have := run_loadCells_list (P := P) w ⟨r, o, none⟩ cs' (fun j v hj => by rw [add_none rfl]; exact hrd j v hj)
      rw [hlen'] at this
      exact ⟨cs', by simpa [Builtin.firstCells] using this, hvs⟩
  · rename_i a len k
    obtain ⟨a', c, rfl, hs⟩ := hx.sliceI
    obtain ⟨cs', g1, g2, _⟩ := loads_sound (P := P) hr hf hs (fun e => by rw [hn len rfl e]; simp)
    exact ⟨cs', by simpa [Builtin.firstCells] using g1, g2⟩
  · cases hf
    obtain ⟨rfl, _, _⟩ := hx.nilSlice
    exact ⟨[], rfl, .nil⟩
  · rename_i s
    cases hf
    rw [hx.string]
    refine ⟨(ofBytes s).take n, ?_, VRs.lits fun v hv => ofBytes_lit s v (List.mem_of_mem_take hv)⟩
    simp only [Builtin.firstCells, Sem.run_pure]
    congr 1
    apply Array.ext'
    obtain ⟨⟨l⟩⟩ := s
    simp [ofBytes, ByteArray.extract, ByteArray.copySlice]
  · cases hf

theorem Rel.of_heap {w' : World} (hr : Rel μ h w) (e : w'.heap = w.heap) : Rel μ h w' :=
  ⟨hr.nx, hr.inj, hr.low, hr.dead, fun b r ro sz h => by rw [e]; exact hr.dom b r ro sz h, hr.top, hr.imm.keep (.refl _) (fun _ _ _ h => h) (fun _ _ _ => by rw [e]) (fun b r ro sz e => .inr ⟨b, ro, sz, e⟩)⟩

/-- what an effect promises -/
def EffOk (μ : Mu) (h : AH) (w : World) (run : Result Value) (v : Value) (h' : AH) : Prop :=
  ∃ v' w' μ', run = .ok v' w' ∧ Post μ h w μ' h' w' ∧ VR μ' v v'

theorem objCells_append {μ' : Mu} {c d c2 d2 rest : List Value} {e : TypeId} {fz : Nat} {s : Bool} (hl : Later μ μ') (h1 : VRs μ c c2) (h2 : VRs μ d d2) (hf : s = true → fz = 0) :
    ObjR μ' 0 (c2 ++ d2 ++ rest).length (.cells (c ++ d) e fz s) (.cells ⟨c2 ++ d2 ++ rest⟩ e (0, 0)) := by
  have hv := h1.append h2
  refine .cells _ e fz s _ 0 0 rfl (by have := hv.length; simp at this ⊢; omega) (fun i v hi => ?_) ?_
  · obtain ⟨v', g1, g2⟩ := hv.get hi
    refine ⟨v', ?_, g2.later hl⟩
    have hlt : i < (c2 ++ d2).length := (List.getElem?_eq_some_iff.1 g1).1
    have e0 : (Array.mk (c2 ++ d2 ++ rest))[0 + i]? = (c2 ++ d2 ++ rest)[i]? := by simp
    rw [e0, List.getElem?_append_left hlt, g1]
  · right
    cases s with
    | true => exact ⟨hf rfl, .inl rfl⟩
    | false => cases fz with
      | zero => rfl
      | succ n => exact .inl rfl

theorem fz_move {lo hi ro fz len size at_ len' : Nat} {s : Bool} (hf : FzR lo hi ro fz len size s) (hz : ¬ len < fz) : FzR lo hi (ro + at_) (fzOf fz at_) len' size s ∧ (s = true → fzOf fz at_ = 0) := by
  rcases hf with h | h
  · exact absurd h hz
  · cases s with
    | true =>
      obtain ⟨rfl, h⟩ := h
      exact ⟨.inr ⟨rfl, h⟩, fun _ => rfl⟩
    | false =>
      refine ⟨.inr ?_, fun h => by cases h⟩
      cases fz with
      | zero => exact h
      | succ n =>
        have e : fzOf (n + 1) at_ = Nat.max 1 (n + 1 - at_) := rfl
        have e1 : 1 ≤ Nat.max 1 (n + 1 - at_) := Nat.le_max_left _ _
        have e2 : n + 1 - at_ ≤ Nat.max 1 (n + 1 - at_) := Nat.le_max_right _ _
        rw [e]
        cases hm : Nat.max 1 (n + 1 - at_) with
        | zero => omega
        | succ m =>
          rw [hm] at e1 e2
          rcases h with h | h
          · exact .inl h
          · exact .inr (by omega)

/-- the model's append, in parts -/
theorem run_append_main (hE : TIs P E) {st xt ty e : TypeId} {si xi ei : TI} (hst : E.ti st = some si) (hxt : E.ti xt = some xi) (hd : si.desc = .slice e) (hx : ∀ k, xi.desc ≠ .int k) (hei : E.ti e = some ei)
    {base : Option Addr} {len cap n : Nat} {x' : Value} {z : Value} (hz : ei.zero = some z) (hn : (Builtin.lenOf x').run P w = .ok n w) (hb1 : 1 ≤ ei.bytes) (hb : (len + n) * ei.bytes ≤ 140737488355328) :
    (len + n ≤ cap → ∀ new', (Builtin.firstCells ei.size n x').run P w = .ok ⟨new'⟩ w → ∀ w', (match base with | some a => storeCells (a.add (len * ei.size)) new' | none => pure ()).run P w = .ok () w' →
      (Builtin.append_ ⟨[st, xt]⟩ ty ⟨[.slice base len cap, x']⟩).run P w = .ok (.slice base (len + n) cap) w') ∧
    (cap < len + n → ∀ old' new', (Builtin.firstCells ei.size len (.slice base len cap)).run P w.drew = .ok ⟨old'⟩ w.drew → (Builtin.firstCells ei.size n x').run P w.drew = .ok ⟨new'⟩ w.drew →
      ∃ c rest, len + n ≤ c ∧ rest.length = (c - (len + n)) * ei.size ∧
        (Builtin.append_ ⟨[st, xt]⟩ ty ⟨[.slice base len cap, x']⟩).run P w = .ok (.slice (some ⟨w.heap.size, 0, none⟩) (len + n) c) (w.drew.alloc (.cells ⟨old' ++ new' ++ rest⟩ e))) := by
  have hxm : (xi.desc matches .int _) = false := by
    cases hxd : xi.desc with
    | int k => exact absurd hxd (hx k)
    | _ => rfl
  obtain ⟨inf, g1, g2, g3, g4⟩ := (hE.ti e ei hei).info
  constructor
  · intro hle new' hnew w' hst'
    unfold Builtin.append_
    have e0 : (Array.mk [st, xt])[0]? = some st := rfl
    have e1 : (Array.mk [st, xt])[1]? = some xt := rfl
    have e2 : (Array.mk [Value.slice base len cap, x'])[0]? = some (.slice base len cap) := rfl
    have e3 : (Array.mk [Value.slice base len cap, x'])[1]? = some x' := rfl
    simp only [e0, e1, e2, e3, Sem.run_bind, hE.und hst, hd, Result.andThen_ok, hE.size hei, hE.und hxt, Sem.run_pure, Bool.false_eq_true, if_false, hn, hle, if_true]
    simp only [Bool.not_false, if_true, hnew, Result.andThen_ok]
    cases base with
    | none => simp only [Sem.run_pure] at hst'; cases hst'; rfl
    | some a => simp only [] at hst' ⊢; simp only [Sem.run_bind, hst', Result.andThen_ok, Sem.run_pure]
  · intro hlt old' new' hold hnew
    obtain ⟨c, hc⟩ : ∃ c, (Question.appendCap (len + n) cap e).cut (w.tape w.drawn (Question.appendCap (len + n) cap e)) = c := ⟨_, rfl⟩
    have hcn : len + n ≤ c := by rw [← hc]; show len + n ≤ len + n + _; omega
    refine ⟨c, (Builtin.zeroCells z.cells (c - (len + n))).toList, hcn, ?_, ?_⟩
    · have := hE.zlen hei hz
      simp [Builtin.zeroCells, cells_eq, this]
    · unfold Builtin.append_
      have e0 : (Array.mk [st, xt])[0]? = some st := rfl
      have e1 : (Array.mk [st, xt])[1]? = some xt := rfl
      have e2 : (Array.mk [Value.slice base len cap, x'])[0]? = some (.slice base len cap) := rfl
      have e3 : (Array.mk [Value.slice base len cap, x'])[1]? = some x' := rfl
      have hnle : ¬ (len + n ≤ cap) := by omega
      have hbound : len + n ≤ 140737488355328 := Nat.le_trans (Nat.le_mul_of_pos_right _ hb1) hb
      have h63 : ¬ (((len + n : Nat) : Int) > IntKind.i64.max) := by simp [IntKind.max, IntKind.signed, IntKind.bits]; omega
      have h48 := growslice_fits hlt hb
      have h48' : ¬ (Builtin.nextslicecap (len + n) cap * ei.bytes > 2 ^ 48) := by omega
      have hinf : (typeInfo e).run P w = .ok inf w := by simp [typeInfo, g1]
      have hinf2 : (typeInfo e).run P w.drew = .ok inf w.drew := by simp [typeInfo, g1]
      simp only [e0, e1, e2, e3, Sem.run_bind, hE.und hst, hd, Result.andThen_ok, hE.size hei, hE.und hxt, Sem.run_pure, Bool.false_eq_true, if_false, hn, hnle]
      simp only [hinf, Result.andThen_ok, h63, false_and, if_false, g3, h48', Sem.run_ite, run_choose, Question.forced, Bool.false_eq_true, hc, World.drew_eq, hinf2, Sem.run_bind, run_askRoom, hold, Bool.not_false, if_true, hnew, hE.zero hei hz, newRow, run_newObj, Sem.run_pure, World.alloc_eq, World.size_drew]
      congr 3
      apply Array.ext'
      simp

theorem VRs.leaf {l l' : List Value} (hv : VRs μ l l') (hl : l.all Ev.leaf = true) : ∀ v ∈ l', Ev.leaf v = true := by
  intro v hv'
  obtain ⟨i, hi⟩ := List.getElem?_of_mem hv'
  have hlen := hv.length
  have hilt : i < l.length := by have := (List.getElem?_eq_some_iff.1 hi).1; omega
  obtain ⟨u', h1, h2⟩ := hv.get (List.getElem?_eq_getElem hilt)
  rw [hi] at h1; cases h1
  exact h2.leaf_eq (List.all_eq_true.1 hl _ (List.getElem_mem hilt))

theorem append_sound (hE : TIs P E) (hr : Rel μ h w) {ts : List TypeId} {args args' : List Value} {r : AR} (ty : TypeId) (ha : appendA E ts args h = some r) (hv : VRs μ args args') :
    ∃ v h', r = .eff v h' ∧ EffOk μ h w ((Builtin.append_ ⟨ts⟩ ty ⟨args'⟩).run P w) v h' := by
  unfold appendA at ha
  split at ha <;> try (cases ha; done)
  rename_i st xt base len k x
  cases hv with | cons _ s' _ l1 hs hv1 =>
  cases hv1 with | cons _ x' _ l2 hx hv2 =>
  cases hv2
  split at ha <;> try (cases ha; done)
  rename_i si xi hst hxt
  split at ha
  · cases ha
  · rename_i e hd hnx
    have hxi : ∀ q, xi.desc ≠ .int q := fun q hq => hnx q hq
    unfold appendSl at ha
    split at ha <;> try (cases ha; done)
    rename_i ei n hei hln
    split at ha <;> try (cases ha; done)
    rename_i z hz hb
    simp only [Bool.and_eq_true, Nat.ble_eq] at hb
    obtain ⟨⟨hb1, hb2⟩, hb3⟩ := hb
    -- the slice as the world has it
    have hs' : ∃ base' cap, s' = .slice base' len cap ∧ len ≤ cap ∧ (match base, base' with
        | none, none => len = 0 ∧ cap = 0
        | some a, some a' => SR μ a a' len k cap
        | _, _ => False) := by
      cases base with
      | none => obtain ⟨rfl, rfl, rfl⟩ := hs.nilSlice; exact ⟨none, 0, rfl, Nat.le_refl _, rfl, rfl⟩
      | some a => obtain ⟨a', c, rfl, h1⟩ := hs.sliceI; exact ⟨some a', c, rfl, h1.2.2.1, h1⟩
    obtain ⟨base', cap, rfl, hlc, hbase⟩ := hs'
    have hlen' := lenOf_sound (P := P) (w := w) hln hx
    obtain ⟨main1, main2⟩ := run_append_main (P := P) (w := w) (base := base') (len := len) (cap := cap) (ty := ty) hE hst hxt hd hxi hei hz hlen' hb2 hb3
    cases n with
    | zero =>
      simp only [] at ha
      have h1 := main1 (by omega) [] (by
        cases x' with
        | slice a m c => cases a <;> simp [Builtin.firstCells, loadCells, loadCellsFrom]
        | string s => simp [Builtin.firstCells]
        | _ => simp [Builtin.lenOf] at hlen') w (by cases base' <;> rfl)
      unfold appendNone at ha
      cases base with
      | none =>
        simp only [] at ha
        split at ha <;> cases ha
        rename_i hl0
        have hl0 := Nat.eq_of_beq_eq_true hl0
        subst hl0
        cases base' with
        | some a => exact hbase.elim
        | none =>
          obtain ⟨_, rfl⟩ := hbase
          exact ⟨_, _, rfl, _, w, μ, h1, Post.refl hr, .lit _ rfl⟩
      | some a =>
        simp only [] at ha
        cases ha
        cases base' with
        | none => exact hbase.elim
        | some a' => exact ⟨_, _, rfl, _, w, μ, h1, Post.refl hr, .slice _ _ _ _ _ hbase⟩
    | succ n =>
      simp only [] at ha
      split at ha <;> try (cases ha; done)
      rename_i new hnew
      split at ha <;> try (cases ha; done)
      rename_i hnl
      have hnl := Nat.eq_of_beq_eq_true hnl
      have hfirst : ∀ w1 : World, w1.heap = w.heap → ∃ new', (Builtin.firstCells ei.size (n + 1) x').run P w1 = .ok ⟨new'⟩ w1 ∧ VRs μ new new' := fun w1 e1 =>
        first_sound (P := P) (hr.of_heap e1) hnew hx (fun m hm h0 => by rw [hln] at hm; cases hm; omega)
      unfold appendTo at ha
      cases base with
      | none =>
        simp only [] at ha
        split at ha <;> cases ha
        rename_i hl0
        have hl0 := Nat.eq_of_beq_eq_true hl0
        subst hl0
        cases base' with
        | some a => exact hbase.elim
        | none =>
          obtain ⟨_, rfl⟩ := hbase
          obtain ⟨new', g1, g2⟩ := hfirst w.drew rfl
          obtain ⟨c, rest, hc, hrl, hrun⟩ := main2 (by omega) [] new' rfl g1
          have hnl' := g2.length
          obtain ⟨μ', p, hm⟩ := Post.alloc (μ := μ) (h := h) (w := w) (w' := w.drew.alloc (.cells ⟨[] ++ new' ++ rest⟩ e)) (o := .cells new e 0 false) hr rfl
            (fun μ' hl => objCells_append (c := []) (c2 := []) hl .nil g2 (fun h => by cases h))
          refine ⟨_, _, rfl, _, _, μ', hrun, p, ?_⟩
          rw [Nat.zero_add]
          refine slice_new hm (by omega) ?_
          simp only [List.length_append, List.length_nil, Nat.zero_add]
          have : c * ei.size = (n + 1) * ei.size + (c - (0 + (n + 1))) * ei.size := by rw [← Nat.add_mul]; congr 1; omega
          omega
      | some a =>
        simp only [] at ha
        unfold growA at ha
        split at ha <;> try (cases ha; done)
        rename_i c0 e' fz s hg
        split at ha <;> cases ha
        rename_i hc
        simp only [Bool.and_eq_true, Nat.ble_eq, decide_eq_true_eq] at hc
        obtain ⟨⟨⟨⟨rfl, hk⟩, hc1⟩, hc2⟩, hc3⟩ := hc
        have hk := Nat.eq_of_beq_eq_true hk
        subst hk
        cases base' with
        | none => exact hbase.elim
        | some a' =>
          have hsr : SR μ a a' len ei.size cap := hbase
          obtain ⟨q1, q2, q3, q4⟩ := hsr
          obtain ⟨r, ro, sz, o', hm, hw, ho⟩ := hr.lies hg q2
          have hnst : ¬ c0.length < fz := by omega
          cases ho with
          | cells _ _ _ _ c' lo hi hsz hle hcc hf =>
            obtain ⟨l'⟩ := c'
            have hsz' : l'.length = sz := by simpa using hsz
            have hold : h.cellsAt a (len * ei.size) = some ((c0.drop a.off).take (len * ei.size)) := by
              simp only [AH.cellsAt, hg]
              have : Nat.ble (a.off + len * ei.size) c0.length = true := Nat.ble_eq_true_of_le hc1
              rw [this]
            by_cases hroom : len + (n + 1) ≤ cap
            · -- in its place
              obtain ⟨new', g1, g2⟩ := hfirst w rfl
              have hnl' := g2.length
              obtain ⟨rfl, hcap⟩ : a' = ⟨r, ro + a.off, none⟩ ∧ ro + a.off + cap * ei.size ≤ sz := by
                rcases q4 r ro sz hm with h1 | ⟨_, h1⟩
                · exact h1
                · omega
              have hfit : ro + a.off + len * ei.size + new'.length ≤ l'.length := by
                have : (len + (n + 1)) * ei.size ≤ cap * ei.size := Nat.mul_le_mul_right _ hroom
                rw [Nat.add_mul] at this
                omega
              have hleaf : ∀ v ∈ new', leaf v = true := g2.leaf hc3
              obtain ⟨w', s1, s2, s3, s4⟩ := run_storeCells (P := P) (r := r) (o := ro + a.off + len * ei.size) (e := e) (lo := lo) (hi := hi) new' w 0 l' hw (by omega) hleaf
                (fun q h1 h2 => hf.free hnst (by omega) (by omega))
              have hrun := main1 hroom new' g1 w' (by
                show (storeCells ((⟨r, ro + a.off, none⟩ : Addr).add (len * ei.size)) new').run P w = _
                rw [add_none rfl]; exact s1)
              obtain ⟨hfz, hfz2⟩ := fz_move (at_ := a.off) (len' := ((c0.drop a.off).take (len * ei.size) ++ new).length) hf hnst
              obtain ⟨μ', p, hm'⟩ := Post.move (hs := s3.2) (ro₂ := ro + a.off) (o₂ := .cells ((c0.drop a.off).take (len * ei.size) ++ new) e (fzOf fz a.off) s) hr hg (not_stone hg hnst) hm s3.1 s4 s2 (fun μ' hl => by
                have htl : ((c0.drop a.off).take (len * ei.size)).length = len * ei.size := by simp; omega
                refine .cells _ e _ s _ lo hi (by simp [setAt_length, hsz']) (by rw [List.length_append, htl]; omega) (fun i v hi => ?_) hfz
                have e2 : (Array.mk (setAt l' (ro + a.off + len * ei.size + 0) new'))[ro + a.off + i]? = (setAt l' (ro + a.off + len * ei.size) new')[ro + a.off + i]? := by simp
                rw [e2, setAt_get _ _ _ _ hfit]
                by_cases hin : i < len * ei.size
                · rw [List.getElem?_append_left (by omega), List.getElem?_take_of_lt hin, List.getElem?_drop] at hi
                  rw [if_neg (by omega)]
                  obtain ⟨v', h1, h2⟩ := hcc _ _ hi
                  exact ⟨v', by simpa [Nat.add_assoc] using h1, h2.later hl⟩
                · rw [List.getElem?_append_right (by omega), htl] at hi
                  have hlt := (List.getElem?_eq_some_iff.1 hi).1
                  rw [if_pos (by omega), show ro + a.off + i - (ro + a.off + len * ei.size) = i - len * ei.size by omega]
                  obtain ⟨v', h1, h2⟩ := g2.get hi
                  exact ⟨v', h1, h2.later hl⟩)
              refine ⟨_, _, rfl, _, w', μ', hrun, p, .slice _ _ _ _ _ ⟨rfl, ⟨hm'.2, (by simp only [hm'.1]; intro h; cases h)⟩, hroom, fun r' ro' sz' e' => ?_⟩⟩
              simp only [hm'.1] at e'
              cases e'
              exact .inl ⟨by simp, by simpa using hcap⟩
            · -- elsewhere
              obtain ⟨old', o1, o2, _, _⟩ := loads_sound (P := P) (w := w.drew) (hr.of_heap rfl) hold ⟨q1, q2, q3, q4⟩ (fun h0 => by rw [h0]; simp)
              obtain ⟨new', g1, g2⟩ := hfirst w.drew rfl
              obtain ⟨c, rest, hcn, hrl, hrun⟩ := main2 (by omega) old' new' (by simpa [Builtin.firstCells] using o1) g1
              obtain ⟨_, hfz2⟩ := fz_move (at_ := a.off) (len' := 0) hf hnst
              obtain ⟨μ', p, hm', _⟩ := Post.fresh (μ := μ) (h := h) (w := w) (w' := w.drew.alloc (.cells ⟨old' ++ new' ++ rest⟩ e)) (o := .cells ((c0.drop a.off).take (len * ei.size) ++ new) e (fzOf fz a.off) s) hr (some a.block)
                (fun b hb => by cases hb; exact ⟨not_stone hg hnst, q2⟩) rfl (fun μ' hl => objCells_append hl o2 g2 hfz2)
              have hol := o2.length
              have hnl' := g2.length
              refine ⟨_, _, rfl, _, _, μ', hrun, p, slice_new hm' hcn ?_⟩
              have htl : ((c0.drop a.off).take (len * ei.size)).length = len * ei.size := by simp; omega
              simp only [List.length_append]
              have : c * ei.size = len * ei.size + (n + 1) * ei.size + (c - (len + (n + 1))) * ei.size := by rw [← Nat.add_mul, ← Nat.add_mul]; congr 1; omega
              omega
  · cases ha
end
end Go.Ev
end
