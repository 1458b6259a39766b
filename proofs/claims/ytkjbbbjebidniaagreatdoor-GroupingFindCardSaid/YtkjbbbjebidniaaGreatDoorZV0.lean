/- A run of closed code reckoned over a heap of its own (block numbers from 0, exact contents): definitions. -/
import Derived.Orders
import Derived.Calls
import Derived.Lib.Join
namespace Go.Proofs.YtkjbbbjebidniaaGreatDoor
open Go
set_option linter.unusedVariables false

noncomputable section

/-- A table keyed by numbers. -/
inductive Tb (α : Type) where
  | nil
  | node (v : Option α) (l r : Tb α)

namespace Tb
variable {α : Type}

/- By the recursors themselves: the kernel reckons with these. -/
def get (t : Tb α) : Nat → Option α :=
  Tb.rec (motive := fun _ => Nat → Option α) (fun _ => none) (fun v _ _ il ir i => Nat.rec (motive := fun _ => Option α) v (fun n _ => Bool.rec (motive := fun _ => Option α) (ir (Nat.div n 2)) (il (Nat.div n 2)) (Nat.beq (Nat.mod n 2) 0)) i) t

def val (t : Tb α) : Option α := Tb.rec (motive := fun _ => Option α) none (fun v _ _ _ _ => v) t
def left (t : Tb α) : Tb α := Tb.rec (motive := fun _ => Tb α) .nil (fun _ l _ _ _ => l) t
def right (t : Tb α) : Tb α := Tb.rec (motive := fun _ => Tb α) .nil (fun _ _ r _ _ => r) t

def set (k : Nat) (t : Tb α) (i : Nat) (a : α) : Tb α :=
  Nat.rec (motive := fun _ => Tb α → Nat → Tb α) (fun t _ => t)
    (fun _ ih t i => Nat.rec (motive := fun _ => Tb α) (.node (some a) (left t) (right t))
      (fun n _ => Bool.rec (motive := fun _ => Tb α) (.node (val t) (left t) (ih (right t) (Nat.div n 2))) (.node (val t) (ih (left t) (Nat.div n 2)) (right t)) (Nat.beq (Nat.mod n 2) 0)) i) k t i

end Tb

/-- What a block of the reckoned heap holds. 'kind' 0: a row whose size is known; 1: a row that append made (the real one may be longer); 2: a row that nobody writes. -/
inductive AObj where
  | row (c : List Value) (elem : TypeId) (kind : Nat)
  | map (es : List MapEntry) (clock : Nat)
  | dead

/-- 'low': no block below it has been written since it was set. -/
structure AW where
  heap : Tb AObj
  size : Nat
  low : Nat

/-- An answer, or the places at which there was none. -/
abbrev Rs (α : Type) := Except (List Nat) α

def AW.cell (s : AW) (a : Addr) : Option Value :=
  match a.spot with
  | some _ => none
  | none => match s.heap.get a.block with
    | some (.row c _ _) => c[a.off]?
    | _ => none

def AW.push (s : AW) (o : AObj) : Option AW :=
  let h := s.heap.set (Nat.succ s.size) s.size o
  match h.get s.size with
  | some _ => some { heap := h, size := s.size + 1, low := s.low }
  | none => none

def AW.upd (s : AW) (i : Nat) (o : AObj) : Option AW :=
  let h := s.heap.set (Nat.succ i) i o
  match h.get i with
  | some _ => some { heap := h, size := s.size, low := bif Nat.ble s.low i then s.low else i }
  | none => none

/-- A text that touches no memory. -/
def pureA {α : Type} (P : Program) : Sem α → Option α
  | .pure a => some a
  | .program k => pureA P (k P)
  | .mark _ k => pureA P k
  | _ => none

/-- A value of one cell without addresses. -/
def flat1 : Value → Bool
  | .bool _ | .int _ _ | .string _ | .nilFunc | .nilIface | .pointer none | .slice none _ _ | .map none => true
  | _ => false

/-- A value without addresses. -/
def flatV : Value → Bool
  | .agg cs => cs.toList.all flat1
  | .tuple cs => cs.toList.all flat1
  | v => flat1 v

structure AS where
  tmps : Tb Value
  w : AW

def AS.known (gs : List Nat) : Operand → Bool
  | .tmp _ => true
  | .const v => flatV v
  | .global g => gs.contains g
  | .func _ => true

def AS.eval (s : AS) : Operand → Value
  | .tmp t => (s.tmps.get t).getD undef
  | .const v => v
  | .global g => .pointer (some ⟨g, 0, none⟩)
  | .func f => .func (.func f) #[] #[]

def AS.put (s : AS) (d : Option Tmp) (v : Value) : Rs AS :=
  match d with
  | none => .ok s
  | some t =>
      let h := s.tmps.set 32 t v
      match h.get t with
      | some _ => .ok { tmps := h, w := s.w }
      | none => .error [20]

/-- What an operation comes to. -/
inductive OA where
  | value (v : Value)
  | enter (f : FuncId) (args : Array Value)

/-- A value that fills one cell. -/
def oneC : Value → Bool
  | .agg _ | .tuple _ => false
  | _ => true

/-- Parts laid over cells. -/
def overA (cells : List Value) (off : Nat) (l : List Value) : Option (List Value) :=
  bif Nat.ble (off + l.length) cells.length then some (cells.take off ++ l ++ cells.drop (off + l.length)) else none

/-- The cells that stand at an address of the own heap. -/
def AW.cells (s : AW) (a : Addr) (n : Nat) : Option (List Value) :=
  match a.spot with
  | some _ => none
  | none => match s.heap.get a.block with
    | some (.row c _ _) => bif Nat.ble (a.off + n) c.length then some ((c.drop a.off).take n) else none
    | _ => none

def firstA (s : AW) (size n : Nat) : Value → Option (List Value)
  | .slice (some a) _ _ => s.cells a (n * size)
  | .slice none _ _ => bif Nat.beq n 0 then some [] else none
  | .string t => some ((t.extract 0 n).data.toList.map fun b => .int .u8 b.toNat)
  | _ => none

def lenA : Value → Option Nat
  | .slice _ n _ => some n
  | .string s => some s.size
  | _ => none

/-- What append adds: how many, and their cells. -/
def addedA (s : AW) (xd : TypeDesc) (i : TypeInfo) (x : Value) : Option (Nat × List Value) :=
  match xd with
  | .int _ => match x, i.zero with
    | .int _ l, some z => bif decide (0 ≤ l) && decide (l < 1048576) && decide (l * i.bytes ≤ 281474976710656) && flatV z then some (l.toNat, (Builtin.zeroCells z.cells l.toNat).toList) else none
    | _, _ => none
  | _ => match lenA x with
    | none => none
    | some n => match firstA s i.size n x with
      | some new => some (n, new)
      | none => none

/-- append within what is known to be there. -/
def inPlaceA (size sLen sCap need : Nat) (new : List Value) (s : AW) : Option Addr → Rs (Value × AW)
  | none => .error [29]
  | some a => match a.spot, s.heap.get a.block with
    | none, some (.row c e k) =>
      bif Nat.ble k 1 && new.all oneC then
        match overA c (a.off + sLen * size) new with
        | some c2 => match s.upd a.block (.row c2 e k) with
          | some s' => .ok (.slice (some a) need sCap, s')
          | none => .error [32]
        | none => .error [33]
      else .error [34]
    | _, _ => .error [35]

/-- append where a new row is wanted; a row that append made may be longer than is known: it is then dead, since the new one may lie in it. -/
def growA (size sLen need : Nat) (elem : TypeId) (cells : List Value) (s : AW) (base : Option Addr) : Rs (Value × AW) :=
  match s.push (.row cells elem 1) with
  | none => .error [37]
  | some s' => match base with
    | none => .ok (.slice (some ⟨s.size, 0, none⟩) need need, s')
    | some a => match s.heap.get a.block with
      | some (.row _ _ 0) => .ok (.slice (some ⟨s.size, 0, none⟩) need need, s')
      | some (.row c e 1) =>
        bif Nat.ble 1 sLen && Nat.beq a.off 0 && Nat.beq e elem && Nat.beq c.length (sLen * size) && cells.all oneC then
          match s'.upd a.block .dead with
          | some s'' => .ok (.slice (some ⟨s.size, 0, none⟩) need need, s'')
          | none => .error [38]
        else .error [39]
      | _ => .error [40]

/-- append. -/
def appendA (P : Program) (argTypes : Array TypeId) (args : Array Value) (s : AW) : Rs (Value × AW) :=
  match argTypes[0]?, argTypes[1]?, (args[0]? : Option Value), (args[1]? : Option Value) with
  | some sType, some xType, some (Value.slice base sLen sCap), some x =>
    match P.underlying sType, P.underlying xType with
    | some (.slice elem), some xd =>
      match P.info? elem with
      | none => .error [31]
      | some i =>
        match addedA s xd i x, i.zero, firstA s i.size sLen (.slice base sLen sCap) with
        | some (n, new), some z, some old =>
          bif Nat.beq new.length (n * i.size) && Nat.beq z.cells.toList.length i.size then
            (bif Nat.ble (sLen + n) sCap then (bif Nat.beq n 0 then .ok (.slice base sLen sCap, s) else inPlaceA i.size sLen sCap (sLen + n) new s base)
            else bif Nat.ble ((2 * (sLen + n) + 200) * (i.bytes + 1)) 281474976710656 && Nat.beq old.length (sLen * i.size) then growA i.size sLen (sLen + n) elem (old ++ new) s base
            else .error [41])
          else .error [42]
        | _, _, _ => .error [30]
    | _, _ => .error [43]
  | _, _, _, _ => .error [44]

/-- cap: of a row whose size is known. -/
def capA (s : AW) : Value → Option Value
  | .slice none _ n => some (goInt n)
  | .slice (some a) _ n => match s.heap.get a.block with
    | some (.row _ _ 0) => some (goInt n)
    | _ => none
  | _ => none

/-- clear of a slice. -/
def clearA (P : Program) (argTypes : Array TypeId) (args : Array Value) (s : AW) : Rs (Value × AW) :=
  match argTypes[0]?, (args[0]? : Option Value) with
  | some t, some (.slice (some a) n _) =>
    match P.underlying t with
    | some (.slice elem) =>
      bif Nat.beq n 0 then .ok (.tuple #[], s) else
      match P.info? elem with
      | some i => match i.zero, a.spot, s.heap.get a.block with
        | some z, none, some (.row c e k) =>
          bif Nat.ble k 1 && (Builtin.zeroCells z.cells n).toList.all flat1 then
            match overA c a.off (Builtin.zeroCells z.cells n).toList with
            | some c2 => match s.upd a.block (.row c2 e k) with
              | some s' => .ok (.tuple #[], s')
              | none => .error [71]
            | none => .error [72]
          else .error [73]
        | _, _, _ => .error [74]
      | none => .error [75]
    | _ => .error [76]
  | _, _ => .error [77]

/-- Operations that neither read nor write memory. -/
def memless : Op → Bool
  | .move _ | .assign _ | .pick .. | .build .. | .nilCheck _ | .binOp .. | .unOp .. | .convert .. | .makeFunc .. | .fieldAddr .. | .field .. | .indexAddr .. | .index .. | .extract .. => true
  | .call c => match c.callee with
    | .builtin .len | .builtin .min | .builtin .max => true
    | _ => false
  | _ => false

def isAggD : TypeDesc → Bool
  | .struct _ | .array _ _ => true
  | _ => false

/-- A part of a struct or an array. -/
def partA (P : Program) (t : TypeId) (cs : List Value) (off : Nat) : Option Value :=
  match P.underlying t, P.info? t with
  | some d, some i => bif isAggD d then some (.agg ⟨(cs.drop off).take i.size⟩) else cs[off]?
  | _, _ => none

def fillA (place : Nat → Option (Nat × Nat)) : List (Nat × Value) → List Value → Option (List Value)
  | [], cells => some cells
  | (i, v) :: rest, cells => match place i with
    | none => none
    | some (off, size) => bif Nat.beq v.cells.toList.length size then
        match overA cells off v.cells.toList with
        | some cells' => fillA place rest cells'
        | none => none
      else none

def placesOf (P : Program) (fields : Array Field) : Option (Array (Nat × Nat)) := pureA P (fields.mapM fun f => do pure (f.offset, ← sizeOf f.type))

/-- An operation upon values without addresses. -/
def flatA (P : Program) (e : Operand → Value) (o : Oper) : Option Value :=
  bif o.op.operands.all (fun x => flatV (e x)) then
    match pureA P (execOp e o) with
    | some (.value v) => bif flatV v then some v else none
    | _ => none
  else none

/-- Is one of the two nil, and the other not? -/
def nilCmp (d : TypeDesc) (x y : Value) : Bool :=
  match d, x, y with
  | .slice _, .slice (some _) _ _, .slice none _ _ | .slice _, .slice none _ _, .slice (some _) _ _ => true
  | .pointer _, .pointer (some _), .pointer none | .pointer _, .pointer none, .pointer (some _) => true
  | .map _ _, .map (some _), .map none | .map _ _, .map none, .map (some _) => true
  | .func _ _ _, .func _ _ _, .nilFunc | .func _ _ _, .nilFunc, .func _ _ _ => true
  | _, _, _ => false

def v_pick (P : Program) (e : Operand → Value) (c a b : Operand) : Option Value :=
  match e c with
    | .bool t => some (bif t then e a else e b)
    | _ => none

def v_extract (P : Program) (e : Operand → Value) (t : Operand) (ix : Nat) : Option Value :=
  match e t with
    | .tuple vs => vs.toList[ix]?
    | _ => none

def v_nilCheck (P : Program) (e : Operand → Value) (x : Operand) : Option Value :=
  match e x with
    | .pointer (some a) => some (.pointer (some a))
    | .func (.func f) a b => some (.func (.func f) a b)
    | _ => none

def v_fieldAddr (P : Program) (e : Operand → Value) (st : TypeId) (x : Operand) (f : Nat) : Option Value :=
  match P.underlying st with
    | some (.struct fields) => match fields[f]? with
      | some fd => match P.info? fd.type, e x with
        | some i, .pointer (some a) => bif Nat.beq i.size 0 then none else some (.pointer (some (a.add fd.offset)))
        | _, _ => none
      | none => none
    | _ => none

def v_field (P : Program) (e : Operand → Value) (st : TypeId) (x : Operand) (f : Nat) : Option Value :=
  match P.underlying st with
    | some (.struct fields) => match fields[f]? with
      | some fd => match e x with
        | .agg cs => partA P fd.type cs.toList fd.offset
        | _ => none
      | none => none
    | _ => none

def v_indexAddr (P : Program) (e : Operand → Value) (t : TypeId) (x ix : Operand) : Option Value :=
  match P.underlying t, e x, e ix with
    | some (.array len elem), .pointer (some a), .int _ i => match P.info? elem with
      | some inf => bif decide (0 ≤ i) && decide (i < len) then some (.pointer (some (a.add (i.toNat * inf.size)))) else none
      | none => none
    | some (.slice elem), .slice (some a) len _, .int _ i => match P.info? elem with
      | some inf => bif decide (0 ≤ i) && decide (i < len) then some (.pointer (some (a.add (i.toNat * inf.size)))) else none
      | none => none
    | _, _, _ => none

def v_build (P : Program) (e : Operand → Value) (t : TypeId) (parts : Array (Nat × Operand)) : Option Value :=
  match P.underlying t, P.info? t with
    | some (.struct fields), some i => match i.zero, placesOf P fields with
      | some z, some places => bif flatV z then
          match fillA (fun k => places[k]?) (parts.toList.map fun p => (p.1, e p.2)) z.cells.toList with
          | some cells => some (.agg ⟨cells⟩)
          | none => none
        else none
      | _, _ => none
    | some (.array _ elem), some i => match i.zero, P.info? elem with
      | some z, some j => bif flatV z then
          match fillA (fun k => some (k * j.size, j.size)) (parts.toList.map fun p => (p.1, e p.2)) z.cells.toList with
          | some cells => some (.agg ⟨cells⟩)
          | none => none
        else none
      | _, _ => none
    | _, _ => none

def v_binOp (P : Program) (e : Operand → Value) (o : Oper) (op : BinOp) (xt : TypeId) (x y : Operand) : Option Value :=
  bif flatV (e x) && flatV (e y) then flatA P e o else
      match P.underlying xt with
      | some d => bif nilCmp d (e x) (e y) then
          (match op with
          | .eql => some (.bool false)
          | .neq => some (.bool true)
          | _ => none)
        else none
      | none => none

def v_call (P : Program) (e : Operand → Value) (o : Oper) (c : Call) : Option Value :=
  match c.callee with
    | .builtin .len => match c.args[0]? with
      | some x => match e x, c.argTypes[0]? with
        | .slice (some _) n _, some t => match P.underlying t with
          | some (.slice _) => some (goInt n)
          | _ => none
        | _, _ => flatA P e o
      | none => none
    | .builtin .min | .builtin .max => flatA P e o
    | _ => none

/-- What an operation that touches no memory yields. -/
def valK (op : Op) : Program → (Operand → Value) → Oper → Option Value :=
  match op with
  | .move x => fun _ e _ => some (e x)
  | .assign x => fun _ e _ => some (e x)
  | .pick c a b => fun P e _ => v_pick P e c a b
  | .extract t ix => fun P e _ => v_extract P e t ix
  | .makeFunc (.func f) first captured => fun _ e _ => some (.func (.func f) (first.map e) (captured.map e))
  | .nilCheck x => fun P e _ => v_nilCheck P e x
  | .fieldAddr st x f => fun P e _ => v_fieldAddr P e st x f
  | .field st x f => fun P e _ => v_field P e st x f
  | .indexAddr t x ix => fun P e _ => v_indexAddr P e t x ix
  | .build t parts => fun P e _ => v_build P e t parts
  | .binOp op xt x y _ => fun P e o => v_binOp P e o op xt x y
  | .unOp .. | .convert .. | .index .. => fun P e o => flatA P e o
  | .call c => fun P e o => v_call P e o c
  | _ => fun _ _ _ => none

def valA (P : Program) (e : Operand → Value) (o : Oper) : Option Value := valK o.op P e o

def loadC (P : Program) (t : TypeId) (a : Addr) (s : AW) : Option Value :=
  match P.underlying t, P.info? t with
  | some d, some i => bif isAggD d then
      (match s.cells a i.size with
      | some l => some (.agg ⟨l⟩)
      | none => none)
    else s.cell a
  | _, _ => none

def storeC (P : Program) (t : TypeId) (a : Addr) (v : Value) (s : AW) : Option AW :=
  match P.info? t, a.spot with
  | some i, none =>
    let l := v.cells.toList
    bif Nat.beq l.length i.size && l.all oneC then
      match s.heap.get a.block with
      | some (.row c e k) => bif Nat.ble k 1 then
          (match overA c a.off l with
          | some c' => s.upd a.block (.row c' e k)
          | none => none)
        else none
      | _ => none
    else none
  | _, _ => none

/-- A bound of a slice expression. -/
def boundA (e : Operand → Value) (top : Nat) (dflt : Nat) : Option Operand → Option Nat
  | none => some dflt
  | some x => match e x with
    | .int _ i => bif decide (0 ≤ i) && decide (i ≤ top) then some i.toNat else none
    | _ => none

/-- A slice of a slice: of a row that append made only if its elements have this size. -/
def sliceC (P : Program) (e : Operand → Value) (t : TypeId) (x : Operand) (lo hi mx : Option Operand) (s : AW) : Option Value :=
  match P.underlying t, e x with
  | some (.slice elem), .slice (some a) len cap => match P.info? elem, boundA e cap cap mx with
    | some i, some m => match hi, boundA e m len hi with
      | none, some h => bif mx.isSome then none else go i.size a m h (boundA e h 0 lo)
      | some _, some h => go i.size a m h (boundA e h 0 lo)
      | _, _ => none
    | _, _ => none
  | _, _ => none
where
  go (size : Nat) (a : Addr) (m h : Nat) : Option Nat → Option Value
    | none => none
    | some l => bif Nat.ble h m then (match s.heap.get a.block with
      | some (.row _ _ 0) => some (.slice (some (bif Nat.beq m l then a else a.add (l * size))) (h - l) (m - l))
      | some (.row _ _ 2) => some (.slice (some (bif Nat.beq m l then a else a.add (l * size))) (h - l) (m - l))
      | some (.row _ elem 1) => match P.info? elem with
        | some j => bif Nat.beq j.size size then some (.slice (some (bif Nat.beq m l then a else a.add (l * size))) (h - l) (m - l)) else none
        | none => none
      | _ => none) else none

def simpleKey : TypeDesc → Bool
  | .int _ | .string => true
  | _ => false

def m_alloc (P : Program) (e : Operand → Value) (elem : TypeId) (s : AW) : Option (Value × AW) :=
  match P.info? elem with
    | some i => match i.zero with
      | some z => bif flatV z then
          match s.push (.row z.cells.toList elem 0) with
          | some s' => some (.pointer (some ⟨s.size, 0, none⟩), s')
          | none => none
        else none
      | none => none
    | none => none

def m_box (P : Program) (e : Operand → Value) (elem : TypeId) (x : Operand) (s : AW) : Option (Value × AW) :=
  match s.push (.row (e x).cells.toList elem 0) with
    | some s' => some (.pointer (some ⟨s.size, 0, none⟩), s')
    | none => none

def m_buildSlice (P : Program) (e : Operand → Value) (t : TypeId) (len : Nat) (parts : Array (Nat × Operand)) (s : AW) : Option (Value × AW) :=
  match P.underlying t with
    | some (.slice elem) => match P.info? elem with
      | some i => bif Nat.beq len 0 && parts.isEmpty then
          (match s.push (.row [] elem 0) with
          | some s' => some (.slice (some ⟨s.size, 0, none⟩) 0 0, s')
          | none => none)
        else match i.zero with
        | some z => bif flatV z && Nat.ble (len * i.size) 16777216 && Nat.ble 1 (len * i.size) && Nat.ble 1 z.cells.toList.length then
            match fillA (fun k => some (k * i.size, i.size)) (parts.toList.map fun p => (p.1, e p.2)) ((Array.range (len * i.size)).map (z.cells[· % z.cells.size]!)).toList with
            | some cells => match s.push (.row cells elem 0) with
              | some s' => some (.slice (some ⟨s.size, 0, none⟩) len len, s')
              | none => none
            | none => none
          else none
        | none => none
      | none => none
    | _ => none

def m_load (P : Program) (e : Operand → Value) (t : TypeId) (x : Operand) (s : AW) : Option (Value × AW) :=
  match e x with
    | .pointer (some a) => match loadC P t a s with
      | some v => some (v, s)
      | none => none
    | _ => none

def m_store (P : Program) (e : Operand → Value) (t : TypeId) (x v : Operand) (s : AW) : Option (Value × AW) :=
  match e x with
    | .pointer (some a) => match storeC P t a (e v) s with
      | some s' => some (undef, s')
      | none => none
    | _ => none

def m_makeMap (s : AW) : Option (Value × AW) :=
  match s.push (.map [] 0) with
  | some s' => some (.map (some s.size), s')
  | none => none

def m_slice (P : Program) (e : Operand → Value) (o : Oper) (t : TypeId) (x : Operand) (lo hi mx : Option Operand) (s : AW) : Option (Value × AW) :=
  bif o.op.operands.all (fun x => flatV (e x)) then (flatA P e o).map (·, s) else (sliceC P e t x lo hi mx s).map (·, s)

def m_lookup (P : Program) (e : Operand → Value) (t : TypeId) (m k : Operand) (ok : Bool) (s : AW) : Option (Value × AW) :=
  match P.underlying t, e m with
    | some (.map key elem), .map (some r) => match P.underlying key, P.info? elem, s.heap.get r with
      | some kd, some i, some (.map es _) => bif simpleKey kd && flatV (e k) then
          match Instr.findNow kd (e k) es 0, i.zero with
          | some (some (_, v)), _ => some (bif ok then .tuple #[v, .bool true] else v, s)
          | some none, some z => bif flatV z then some (bif ok then .tuple #[z, .bool false] else z, s) else none
          | _, _ => none
        else none
      | _, _, _ => none
    | _, _ => none

def m_mapUpdate (P : Program) (e : Operand → Value) (t : TypeId) (m k v : Operand) (s : AW) : Option (Value × AW) :=
  match P.underlying t, e m with
    | some (.map key _), .map (some r) => match P.underlying key, s.heap.get r with
      | some kd, some (.map es clock) => bif simpleKey kd && flatV (e k) then
          match Instr.findNow kd (e k) es 0 with
          | some none => match s.upd r (.map (es ++ [{ key := e k, val := e v, born := clock }]) (clock + 1)) with
            | some s' => some (undef, s')
            | none => none
          | _ => none
        else none
      | _, _ => none
    | _, _ => none

/-- Operations that touch memory. -/
def memK (op : Op) : Program → (Operand → Value) → Oper → AW → Option (Value × AW) :=
  match op with
  | .alloc elem => fun P e _ s => m_alloc P e elem s
  | .box elem x => fun P e _ s => m_box P e elem x s
  | .buildSlice t len parts => fun P e _ s => m_buildSlice P e t len parts s
  | .load t x => fun P e _ s => m_load P e t x s
  | .store t x v => fun P e _ s => m_store P e t x v s
  | .makeMap _ none => fun _ _ _ s => m_makeMap s
  | .slice t x lo hi mx => fun P e o s => m_slice P e o t x lo hi mx s
  | .lookup t m k ok => fun P e _ s => m_lookup P e t m k ok s
  | .mapUpdate t m k v => fun P e _ s => m_mapUpdate P e t m k v s
  | .insert t m k v => fun P e _ s => m_mapUpdate P e t m k v s
  | _ => fun _ _ _ _ => none

def memA (P : Program) (e : Operand → Value) (o : Oper) (s : AW) : Option (Value × AW) := memK o.op P e o s

/-- A function's value is called. -/
def o_fun (P : Program) (g : FuncId) (args : Array Value) (s : AW) : Rs (OA × AW) :=
  match P.funcs[g]? with
  | none => .error [58]
  | some fn => match fn.body with
    | some _ => .ok (.enter g args, s)
    | none => bif args.all flatV then
        match pureA P (callFunc g args) with
        | some (.value v) => bif flatV v then .ok (.value v, s) else .error [g, 59]
        | _ => .error [g, 60]
      else .error [g, 61]

def o_append (P : Program) (c : Call) (args : Array Value) (s : AW) : Rs (OA × AW) :=
  match appendA P c.argTypes args s with
  | .ok (v, w) => .ok (.value v, w)
  | .error e => .error e

def o_clear (P : Program) (c : Call) (args : Array Value) (s : AW) : Rs (OA × AW) :=
  match clearA P c.argTypes args s with
  | .ok (v, w) => .ok (.value v, w)
  | .error e => .error e

def o_cap (P : Program) (c : Call) (args : Array Value) (s : AW) : Rs (OA × AW) :=
  match c.argTypes[0]?, (args[0]? : Option Value) with
  | some t, some x => match P.underlying t with
    | some (.slice _) => match capA s x with
      | some v => .ok (.value v, s)
      | none => .error [45]
    | _ => .error [46]
  | _, _ => .error [47]

def o_value (P : Program) (f : Operand) (c : Call) (s : AS) : Rs (OA × AW) :=
  match s.eval f with
  | .func (.func g) first captured => o_fun P g (first ++ c.args.map s.eval ++ captured) s.w
  | _ => .error [52]

def o_callK (f : Callee) : Program → Call → AS → Rs (OA × AW) :=
  match f with
  | .builtin .append => fun P c s => o_append P c (c.args.map s.eval) s.w
  | .builtin .cap => fun P c s => o_cap P c (c.args.map s.eval) s.w
  | .builtin .clear => fun P c s => o_clear P c (c.args.map s.eval) s.w
  | .builtin _ => fun _ _ _ => .error [51]
  | .value f => fun P c s => o_value P f c s
  | .invoke _ _ => fun _ _ _ => .error [53]

/-- A call. -/
def o_call (P : Program) (c : Call) (s : AS) : Rs (OA × AW) := o_callK c.callee P c s

def o_val (v : Option Value) (s : AW) : Rs (OA × AW) :=
  match v with
  | some v => .ok (.value v, s)
  | none => .error [62]

def o_mem (v : Option (Value × AW)) : Rs (OA × AW) :=
  match v with
  | some (v, w) => .ok (.value v, w)
  | none => .error [63]

def opK (op : Op) : Program → Oper → AS → Rs (OA × AW) :=
  match op with
  | .call c => fun P _ s => o_call P c s
  | _ => fun P o s => o_mem (memA P s.eval o s.w)

def opA (P : Program) (o : Oper) (s : AS) : Rs (OA × AW) :=
  bif memless o.op then o_val (valA P s.eval o) s.w else opK o.op P o s

def yieldedA (ops : Array Oper) (s : AS) (j : Nat) : Option Bool :=
  match ((ops[j]?).bind (·.dst)) with
  | none => none
  | some t => match (s.tmps.get t).getD undef with
    | .bool b => some b
    | _ => none

/-- From here on writes are looked for anew. -/
def AS.reset (s : AS) : AS := { tmps := s.tmps, w := { heap := s.w.heap, size := s.w.size, low := s.w.size } }

def AS.lower (s : AS) (l : Nat) : AS := { tmps := s.tmps, w := { heap := s.w.heap, size := s.w.size, low := bif Nat.ble l s.w.low then l else s.w.low } }

abbrev CallA := FuncId → Array Value → AW → Rs (Value × AW)

/-- What one operation of a region yields. -/
def resA (P : Program) (call : CallA) (ops : Array Oper) (o : Oper) (s : AS) : Rs (Value × AW) :=
  bif Region.wanted o (yieldedA ops s) then
    match opA P o s with
    | .ok (.value v, w) => .ok (v, w)
    | .ok (.enter f args, w) => call f args w
    | .error e => .error e
  else .ok (undef, s.w)

/-- One operation of a region. -/
def stepA (P : Program) (call : CallA) (ops : Array Oper) (o : Oper) (s : AS) : Rs AS :=
  match resA P call ops o s with
  | .ok (v, w) => AS.put { s with w := w } o.dst v
  | .error e => .error e

/-- Which operations come ahead of each. -/
def predsGo : List Oper → List (List Nat) → List (List Nat)
  | [], acc => acc
  | o :: rest, acc => predsGo rest (acc ++ [(o.after.toList.filter (Region.binds .any)).flatMap fun e => e.on :: acc.getD e.on []])

def predsOf (ops : Array Oper) : List (List Nat) := predsGo ops.toList []

def allIdx (n : Nat) (f : Nat → Bool) : Bool := (List.range n).all f

/-- A region whose order is drawn, and whose order makes no odds. -/
def okDraw (ops : Array Oper) : Bool :=
  let ps := predsOf ops
  allIdx ops.size fun j => match ops[j]? with
    | none => false
    | some o =>
      o.after.toList.all (fun e => !Region.binds .any e || Nat.ble (e.on + 1) j) &&
      allIdx ops.size fun k => Nat.beq k j || (match (ops[k]?).bind (·.dst) with
        | none => true
        | some d => !(o.dst == some d) && (!(o.looksAt ops).contains d || (ps.getD j []).contains k || (ps.getD k []).contains j))

/-- An operation whose place every other one knows. -/
def solo (ops : Array Oper) (i : Nat) : Bool :=
  let ps := predsOf ops
  allIdx ops.size fun k => Nat.beq k i || (ps.getD i []).contains k || (ps.getD k []).contains i || ((ops[k]?).map fun o => memless o.op).getD false

def opsA (P : Program) (call : CallA) (ops : Array Oper) (draw : Bool) : Nat → List Oper → AS → Rs AS
  | _, [], s => .ok s
  | i, o :: rest, s =>
    match stepA P call ops o (bif draw then s.reset else s) with
    | .error e => .error (i :: e)
    | .ok s' => bif draw then
        (bif Nat.ble s.w.size s'.w.low || solo ops i then opsA P call ops draw (i + 1) rest (s'.lower s.w.low) else .error [i, 60])
      else opsA P call ops draw (i + 1) rest s'

/-- What is looked for in an operation's text. -/
def opOk (gs : List Nat) (n : Nat) (o : Oper) : Bool :=
  o.op.operands.all (AS.known gs) && (match o.dst with
    | none => true
    | some t => Nat.ble (t + 1) n)

/-- What is looked for in a function's text. -/
def codeOk (gs : List Nat) (n : Nat) : Code → Bool
  | .region _ ops draw => ops.toList.all (opOk gs n) && (!draw || okDraw ops)
  | .seq a b => codeOk gs n a && codeOk gs n b
  | .cond x a b => AS.known gs x && codeOk gs n a && codeOk gs n b
  | .block _ a => codeOk gs n a
  | .loop a => codeOk gs n a
  | _ => true

/-- Has this function been looked at? -/
def okFn (mask f : Nat) : Bool := Nat.beq (Nat.land (Nat.shiftRight mask f) 1) 1

/-- All of them have. -/
def allOk (gs : List Nat) (P : Program) (mask : Nat) : Bool :=
  (List.range P.funcs.size).all fun f => !okFn mask f || (match P.funcs[f]? with
    | none => true
    | some fn => match fn.body with
      | none => true
      | some c => Nat.ble fn.ntmps 1000000 && codeOk gs fn.ntmps c)

inductive XA where
  | normal
  | exit (id : Nat)
  | ret

def c_seq (r : Rs (XA × AS)) (k : AS → Rs (XA × AS)) : Rs (XA × AS) :=
  match r with
  | .ok (.normal, s') => k s'
  | r => r

def c_cond (v : Value) (a b : Rs (XA × AS)) : Rs (XA × AS) :=
  match v with
  | .bool true => a
  | .bool false => b
  | _ => .error [71]

def c_block (id : Nat) (r : Rs (XA × AS)) : Rs (XA × AS) :=
  match r with
  | .ok (.exit j, s') => bif Nat.beq j id then .ok (.normal, s') else .ok (.exit j, s')
  | r => r

def c_region (id : Nat) (r : Rs AS) : Rs (XA × AS) :=
  match r with
  | .ok s' => .ok (.normal, s')
  | .error e => .error ((1000 + id) :: e)

def stepK (c : Code) : Program → CallA → (Code → AS → Rs (XA × AS)) → AS → Rs (XA × AS) :=
  match c with
  | .skip => fun _ _ _ s => .ok (.normal, s)
  | .label _ => fun _ _ _ s => .ok (.normal, s)
  | .seq a b => fun _ _ rec s => c_seq (rec a s) (rec b)
  | .cond x a b => fun _ _ rec s => c_cond (s.eval x) (rec a s) (rec b s)
  | .block id a => fun _ _ rec s => c_block id (rec a s)
  | .loop a => fun _ _ rec s => c_seq (rec a s) (rec (.loop a))
  | .exit id => fun _ _ _ s => .ok (.exit id, s)
  | .ret => fun _ _ _ s => .ok (.ret, s)
  | .region id ops draw => fun P call _ s => c_region id (opsA P call ops draw 0 ops.toList s)
  | .scope _ => fun _ _ _ _ => .error [74]
  | .goto _ => fun _ _ _ _ => .error [75]
  | .rangeFunc _ _ _ _ => fun _ _ _ _ => .error [76]
  | .refuse _ => fun _ _ _ _ => .error [77]

def stepC (P : Program) (call : CallA) (rec : Code → AS → Rs (XA × AS)) (c : Code) (s : AS) : Rs (XA × AS) := stepK c P call rec s

def codeA (P : Program) (call : CallA) (n : Nat) : Code → AS → Rs (XA × AS) :=
  Nat.rec (motive := fun _ => Code → AS → Rs (XA × AS)) (fun _ _ => .error [70]) (fun _ rec => stepC P call rec) n

def resultA (P : Program) (s : AS) : ResultVar → Rs Value
  | .tmp t => .ok ((s.tmps.get t).getD undef)
  | .cell a t => match (s.tmps.get a).getD undef with
    | .pointer (some x) => match loadC P t x s.w with
      | some v => .ok v
      | none => .error [80]
    | _ => .error [81]

def resultsA (P : Program) (s : AS) : List ResultVar → Rs (List Value)
  | [] => .ok []
  | r :: rs => match resultA P s r with
    | .ok v => match resultsA P s rs with
      | .ok vs => .ok (v :: vs)
      | .error e => .error e
    | .error e => .error e

def putArgs : Nat → List Value → Tb Value → Tb Value
  | _, [], t => t
  | i, v :: vs, t => putArgs (i + 1) vs (t.set 32 i v)

def stringsOf : List Value → Option (List ByteArray)
  | [] => some []
  | .string s :: l => match stringsOf l with
    | some r => some (s :: r)
    | none => none
  | _ => none

/-- strings.Join. -/
def joinA (args : Array Value) (w : AW) : Rs (Value × AW) :=
  match args.toList with
  | [.slice (some a) n c, .string sep] => match w.cells a n with
    | some l => match stringsOf l with
      | some xs =>
        let r := Lib.join (xs.map (·.data.toList)) sep.data.toList
        bif Nat.ble xs.length 1000000 && Nat.ble n c && Nat.ble r.length 1000000 then .ok (.string ⟨r.toArray⟩, w) else .error [95]
      | none => .error [96]
    | none => .error [97]
  | [.slice none 0 _, .string _] => .ok (.string ⟨#[]⟩, w)
  | _ => .error [98]

def callA (mask : Nat) (jn : FuncId) (P : Program) : Nat → CallA
  | 0 => fun _ _ _ => .error [90]
  | d + 1 => fun f args w =>
    bif Nat.beq f jn then joinA args w else
    bif okFn mask f then
    match P.funcs[f]? with
    | none => .error [91]
    | some fn => match fn.body with
      | none => .error [f, 92]
      | some c =>
        bif Nat.ble args.size 1000 && Nat.ble args.size fn.ntmps then
          match codeA P (callA mask jn P d) 100000 c { tmps := putArgs 0 args.toList .nil, w := w } with
          | .ok (.exit _, _) => .error [93]
          | .ok (_, s) => match resultsA P s fn.results.toList with
            | .ok [v] => .ok (v, s.w)
            | .ok vs => .ok (.tuple vs.toArray, s.w)
            | .error e => .error (f :: e)
          | .error e => .error (f :: e)
        else .error [94]
    else .error [f, 95]

end

end Go.Proofs.YtkjbbbjebidniaaGreatDoor
