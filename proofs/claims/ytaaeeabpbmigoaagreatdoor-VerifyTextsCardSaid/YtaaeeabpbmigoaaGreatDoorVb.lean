/- The machine: values, heap, operations. -/
import GoSem.Step
set_option linter.unusedVariables false
set_option linter.unusedSimpArgs false
/- A machine that runs the program on data that is given whole: its state names each block by a number of its own. -/
namespace Go.M
open Go
noncomputable section

/-! ### A trie -/
inductive T (α : Type) : Type where
  | leaf
  | node (l : T α) (v : Option α) (r : T α)
/-- A way through a trie. -/
inductive W : Type where
  | here
  | lf (p : W)
  | rt (p : W)
  deriving DecidableEq

namespace T
variable {α : Type}
def wayF (n : Nat) : Nat → W := Nat.rec (motive := fun _ => Nat → W) (fun _ => .here) (fun _ ih i =>
    Bool.rec (motive := fun _ => W) (Bool.rec (motive := fun _ => W) (.rt (ih (Nat.sub (Nat.div i 2) 1))) (.lf (ih (Nat.div i 2))) (Nat.beq (Nat.mod i 2) 1)) .here (Nat.beq i 0)) n
def way (i : Nat) : W := wayF i i
def getW (p : W) : T α → Option α :=
  W.rec (motive := fun _ => T α → Option α) (fun t => T.rec (motive := fun _ => Option α) none (fun _ v _ _ _ => v) t)
    (fun _ ih t => T.rec (motive := fun _ => Option α) none (fun l _ _ _ _ => ih l) t)
    (fun _ ih t => T.rec (motive := fun _ => Option α) none (fun _ _ r _ _ => ih r) t) p
def get (t : T α) (i : Nat) : Option α := getW (way i) t
def setW {β : Type} (x : α) (p : W) : T α → (T α → β) → β :=
  W.rec (motive := fun _ => T α → (T α → β) → β)
    (fun t k => T.rec (motive := fun _ => β) (k (.node .leaf (some x) .leaf)) (fun l _ r _ _ => k (.node l (some x) r)) t)
    (fun _ ih t k => T.rec (motive := fun _ => β) (ih .leaf fun l => k (.node l none .leaf)) (fun l v r _ _ => ih l fun l => k (.node l v r)) t)
    (fun _ ih t k => T.rec (motive := fun _ => β) (ih .leaf fun r => k (.node .leaf none r)) (fun l v r _ _ => ih r fun r => k (.node l v r)) t) p
def setK {β : Type} (_n : Nat) (t : T α) (i : Nat) (x : α) (k : T α → β) : β := setW x (way i) t k
/-- The trie of a list. -/
def ofList (n : Nat) : List α → Nat → T α → T α
  | [], _, t => t
  | x :: xs, i, t => setK n t i x fun t => ofList n xs (i + 1) t
end T

/-! ### Values, blocks -/
inductive VV : Type where
  | lit (v : Value)
  | ptr (id off : Nat)
  | gp (g : Nat)
  | sl (id off len cap : Nat) (ex : Bool)
  | mp (id : Nat)
  | emp
  | fn (f : Fn) (first caps : List VV)
  | ifc (t : TypeId) (v : VV)
  | agg (l : List VV)
  | tup (l : List VV)
  deriving Inhabited

def uv : VV := .lit (.tuple #[])

structure VE : Type where
  key : VV
  val : VV
  born : Nat
  deriving Inhabited

/-- A row that is read only, one whose length is known, one that may be longer (its elements' size). -/
inductive RK : Type where
  | tab
  | fix
  | opn (sz : Nat)
  deriving Inhabited

def RK.wr : RK → Bool
  | .tab => false
  | _ => true

inductive VO : Type where
  | row (t : T VV) (n : Nat) (k : RK)
  | map (es : List VE) (clock : Nat)
  | iter (m : Option Nat) (since : Nat) (seen : List Nat) (stepped : Nat)
  | loop (st : LoopState) (pending : Option Code) (fn : FuncId) (n : Nat) (tmps : T VV) (params : List Tmp) (assign body : Code) (defers : Nat)
  | dfd (taken : Bool)
  | dead
  deriving Inhabited

structure H : Type where
  t : T VO
  next : Nat

inductive VD : Type where
  | collected (id : Nat)
  | clo (f : FuncId) (caps args : List VV)

structure Cfg : Type where
  tys : T TypeInfo
  fns : T Func
  quietD : FuncId → Bool
  plainS : TypeId → Bool
  ext : FuncId → Option (List VV → H → Option (VV × H))
  /-- Functions behind whose calls the states are brought together. -/
  mrg : FuncId → Bool

section
variable (c : Cfg)
def Cfg.und (t : TypeId) : Option TypeDesc := match c.tys.get t with
  | some i => match i.desc with
    | .named _ u => match c.tys.get u with
      | some j => some j.desc
      | none => none
    | d => some d
  | none => none
def Cfg.size (t : TypeId) : Option Nat := match c.tys.get t with
  | some i => some i.size
  | none => none
def aggD : TypeDesc → Bool
  | .struct _ | .array _ _ => true
  | _ => false
def Cfg.agg (t : TypeId) : Option Bool := match c.und t with
  | some d => some (aggD d)
  | none => none
/-- A value without an address, in parts. -/
def ofV : Value → VV
  | .agg cs => .agg (cs.toList.map .lit)
  | v => .lit v
def Cfg.zero (t : TypeId) : Option VV := match c.tys.get t with
  | some i => match i.zero with
    | some v => some (ofV v)
    | none => none
  | none => none
end

/-- What fits one cell. -/
def flatV : Value → Bool
  | .agg _ | .tuple _ => false
  | _ => true
def flat : VV → Bool
  | .lit v => flatV v
  | .agg _ | .tup _ => false
  | _ => true
def litCells : Value → List VV
  | .agg cs => cs.toList.map .lit
  | v => [.lit v]
def VV.cells : VV → List VV
  | .agg l => l
  | .lit v => litCells v
  | v => [v]

/-- The number as a numeral. -/
def forceN {β : Type} (n : Nat) (k : Nat → β) : β := Nat.rec (motive := fun _ => β) (k 0) (fun m _ => k (Nat.succ m)) n
def H.get (h : H) (id : Nat) : Option VO := h.t.get id
def H.setK {β : Type} (h : H) (id : Nat) (o : VO) (k : H → β) : β := T.setK 20 h.t id o fun t => k ⟨t, h.next⟩
def isNo : Option VO → Bool
  | none => true
  | some _ => false
def H.okNext (h : H) : Bool := Nat.blt h.next 1000000 && Nat.ble 18 h.next && isNo (h.get h.next)
def H.newK {β : Type} (h : H) (o : VO) (no : β) (k : H → β) : β := bif h.okNext then (T.setK 20 h.t h.next o fun t => forceN h.next fun n => k ⟨t, Nat.succ n⟩) else no

def orU : Option VV → VV
  | some v => v
  | none => uv
def evTmp (t : Tmp) (e : T VV) : VV := orU (e.get t)
def evConst (v : Value) (_ : T VV) : VV := ofV v
def evGlobal (g : Nat) (_ : T VV) : VV := bif Nat.blt g 18 then .ptr g 0 else .gp g
def evFunc (f : FuncId) (_ : T VV) : VV := .fn (.func f) [] []
def evo : Operand → T VV → VV
  | .tmp t => evTmp t
  | .const v => evConst v
  | .global g => evGlobal g
  | .func f => evFunc f
def evv (e : T VV) (x : Operand) : VV := evo x e

inductive R : Type where
  | no (why : String)
  | val (v : VV) (h : H)
  | nov (h : H)
  | call (f : FuncId) (args : List VV) (h : H)
  | round (l : Nat) (args : List VV) (h : H)
  | dfr (d : VD) (h : H)
  | alts (l : List (VV × H))

def intOf : VV → Option (IntKind × Int)
  | .lit (.int k n) => some (k, n)
  | _ => none
def strOf : VV → Option ByteArray
  | .lit (.string s) => some s
  | _ => none

def b2v (b : Bool) : VV := .lit (.bool b)
def forceInt {β : Type} (n : Int) (k : Int → β) : β := match n with
  | .ofNat m => k (.ofNat m)
  | .negSucc m => k (.negSucc m)

/-- The number modulo lim. -/
def modN (lim : Nat) : Int → Nat
  | .ofNat m => Nat.mod m lim
  | .negSucc m => Nat.sub (Nat.sub lim 1) (Nat.mod m lim)
def wrS (half lim r : Nat) : Int := bif Nat.blt r half then .ofNat r else .negSucc (lim - 1 - r)
def limOf : IntKind → Nat
  | .i8 | .u8 => 256
  | .i16 | .u16 => 65536
  | .i32 | .u32 => 4294967296
  | .i64 | .u64 => 18446744073709551616
def wU8 (n : Int) : Int := .ofNat (modN 256 n)
def wU16 (n : Int) : Int := .ofNat (modN 65536 n)
def wU32 (n : Int) : Int := .ofNat (modN 4294967296 n)
def wU64 (n : Int) : Int := .ofNat (modN 18446744073709551616 n)
def wI8 (n : Int) : Int := wrS 128 256 (modN 256 n)
def wI16 (n : Int) : Int := wrS 32768 65536 (modN 65536 n)
def wI32 (n : Int) : Int := wrS 2147483648 4294967296 (modN 4294967296 n)
def wI64 (n : Int) : Int := wrS 9223372036854775808 18446744073709551616 (modN 18446744073709551616 n)
/-- The kind's own 'wrap', quickly. -/
def wr : IntKind → Int → Int
  | .u8 => wU8
  | .u16 => wU16
  | .u32 => wU32
  | .u64 => wU64
  | .i8 => wI8
  | .i16 => wI16
  | .i32 => wI32
  | .i64 => wI64
def iEq : Int → Int → Bool
  | .ofNat a, .ofNat b => Nat.beq a b
  | .negSucc a, .negSucc b => Nat.beq a b
  | _, _ => false
def iLt : Int → Int → Bool
  | .ofNat a, .ofNat b => Nat.blt a b
  | .negSucc a, .negSucc b => Nat.blt b a
  | .negSucc _, .ofNat _ => true
  | _, _ => false

def iv (k : IntKind) (n : Int) : Option VV := some (.lit (.int k n))
def iAdd (k : IntKind) (a b : Int) : Option VV := iv k (wr k (Int.add a b))
def iSub (k : IntKind) (a b : Int) : Option VV := iv k (wr k (Int.sub a b))
def iMul (k : IntKind) (a b : Int) : Option VV := iv k (wr k (Int.mul a b))
def iQuo (k : IntKind) (a b : Int) : Option VV := bif iEq b 0 then none else iv k (wr k (a.tdiv b))
def iRem (k : IntKind) (a b : Int) : Option VV := bif iEq b 0 then none else iv k (a.tmod b)
def iAnd (k : IntKind) (a b : Int) : Option VV := iv k (wr k (Int.ofNat (Nat.land (modN (limOf k) a) (modN (limOf k) b))))
def iOr (k : IntKind) (a b : Int) : Option VV := iv k (wr k (Int.ofNat (Nat.lor (modN (limOf k) a) (modN (limOf k) b))))
def iXor (k : IntKind) (a b : Int) : Option VV := iv k (wr k (Int.ofNat (Nat.xor (modN (limOf k) a) (modN (limOf k) b))))
def iEql (_ : IntKind) (a b : Int) : Option VV := some (b2v (iEq a b))
def iNeq (_ : IntKind) (a b : Int) : Option VV := some (b2v (not (iEq a b)))
def iLss (_ : IntKind) (a b : Int) : Option VV := some (b2v (iLt a b))
def iLeq (_ : IntKind) (a b : Int) : Option VV := some (b2v (not (iLt b a)))
def iGtr (_ : IntKind) (a b : Int) : Option VV := some (b2v (iLt b a))
def iGeq (_ : IntKind) (a b : Int) : Option VV := some (b2v (not (iLt a b)))
def iNo (_ : IntKind) (_ _ : Int) : Option VV := none
def binInt : BinOp → IntKind → Int → Int → Option VV
  | .add => iAdd
  | .sub => iSub
  | .mul => iMul
  | .quo => iQuo
  | .rem => iRem
  | .and => iAnd
  | .or => iOr
  | .xor => iXor
  | .eql => iEql
  | .neq => iNeq
  | .lss => iLss
  | .leq => iLeq
  | .gtr => iGtr
  | .geq => iGeq
  | _ => iNo

def binStr (op : BinOp) (x y : ByteArray) : Option VV :=
  let eq := x.toList == y.toList
  let lt := Op.bytesLess x.toList y.toList
  match op with
  | .add => bif decide (x.size + y.size < 2 ^ 40) then some (.lit (.string (x ++ y))) else none
  | .eql => some (b2v eq)
  | .neq => some (b2v !eq)
  | .lss => some (b2v lt)
  | .leq => some (b2v (lt || eq))
  | .gtr => some (b2v !(lt || eq))
  | .geq => some (b2v !lt)
  | _ => none

/-- The fields of two structs. -/
def eqfs (c : Cfg) (eq : TypeId → VV → VV → Option Bool) : List Field → List VV → List VV → Option Bool
  | [], _, _ => some true
  | f :: fs, xs, ys => if f.name = "_" then none else
    match c.agg f.type with
    | some false => (match xs[f.offset]?, ys[f.offset]? with
      | some x, some y => (match eq f.type x y with
        | some true => eqfs c eq fs xs ys
        | some false => some false
        | none => none)
      | _, _ => none)
    | _ => none
/-- Equality of two values, where it is plain. -/
def eqv (c : Cfg) : Nat → TypeId → VV → VV → Option Bool
  | 0, _, _, _ => none
  | n + 1, t, x, y => match c.und t with
    | some d => match d, x, y with
      | .bool, .lit (.bool a), .lit (.bool b) => some (a == b)
      | .int _, .lit (.int k a), .lit (.int k' b) => if k = k' then some (a == b) else none
      | .string, .lit (.string a), .lit (.string b) => some (a == b)
      | .pointer _, .lit (.pointer none), .lit (.pointer none) => some true
      | .pointer _, .lit (.pointer none), .ptr _ _ => some false
      | .pointer _, .ptr _ _, .lit (.pointer none) => some false
      | .slice _, .lit (.slice none _ _), .lit (.slice none _ _) => some true
      | .slice _, .lit (.slice none _ _), .sl .. => some false
      | .slice _, .sl .., .lit (.slice none _ _) => some false
      | .slice _, .emp, .lit (.slice none _ _) => some false
      | .map _ _, .lit (.map none), .lit (.map none) => some true
      | .map _ _, .mp _, .lit (.map none) => some false
      | .func _ _ _, .lit .nilFunc, .lit .nilFunc => some true
      | .func _ _ _, .fn _ _ _, .lit .nilFunc => some false
      | .interface _, .lit .nilIface, .lit .nilIface => some true
      | .interface _, .lit .nilIface, .ifc .. => some false
      | .interface _, .ifc .., .lit .nilIface => some false
      | .interface _, .ifc tx vx, .ifc ty vy => if tx ≠ ty then some false else match c.tys.get tx with
        | some i => if i.comparable then eqv c n tx vx vy else none
        | none => none
      | .struct fields, .agg xs, .agg ys => if c.plainS t then eqfs c (eqv c n) fields.toList xs ys else none
      | _, _, _ => none
    | none => none

def shiftOp (op : BinOp) (k : IntKind) (x y : Int) : Option VV := match y with
  | .negSucc _ => none
  | .ofNat m => match op with
    | .shl => some (.lit (.int k (wr k (x * Int.ofNat (2 ^ (min m k.bits))))))
    | .shr => some (.lit (.int k (x.fdiv (Int.ofNat (2 ^ (min m k.bits))))))
    | _ => none

def isConst : Operand → Bool
  | .const _ => true
  | _ => false

def kEq (a b : IntKind) : Bool := match a, b with
  | .i8, .i8 | .i16, .i16 | .i32, .i32 | .i64, .i64 | .u8, .u8 | .u16, .u16 | .u32, .u32 | .u64, .u64 => true
  | _, _ => false
def bShl (k : IntKind) (m : Int) (_ : IntKind) (n : Int) : Option VV := shiftOp .shl k m n
def bShr (k : IntKind) (m : Int) (_ : IntKind) (n : Int) : Option VV := shiftOp .shr k m n
def bSame (op : BinOp) (k : IntKind) (m : Int) (k' : IntKind) (n : Int) : Option VV := bif kEq k k' then binInt op k m n else none
def binII (op : BinOp) : IntKind → Int → IntKind → Int → Option VV := match op with
  | .shl => bShl
  | .shr => bShr
  | .add => bSame .add
  | .sub => bSame .sub
  | .mul => bSame .mul
  | .quo => bSame .quo
  | .rem => bSame .rem
  | .and => bSame .and
  | .or => bSame .or
  | .xor => bSame .xor
  | .eql => bSame .eql
  | .neq => bSame .neq
  | .lss => bSame .lss
  | .leq => bSame .leq
  | .gtr => bSame .gtr
  | .geq => bSame .geq
  | .andNot => bSame .andNot
def eqIf (op : BinOp) (r : Option Bool) : Option VV := match op with
  | .eql => (match r with | some b => some (b2v b) | none => none)
  | .neq => (match r with | some b => some (b2v !b) | none => none)
  | _ => none
def isNilI : VV → Bool
  | .lit .nilIface => true
  | _ => false
def binE (c : Cfg) (op : BinOp) (t : TypeId) (x y : Operand) (a b : VV) : Option VV :=
  bif isNilI a && isNilI b && not (isConst x || isConst y) then none else eqIf op (eqv c 20 t a b)
def bNo (_ : Value) (_ : BinOp) : Option VV := none
def bIntInt (k' : IntKind) (n : Int) (op : BinOp) (k : IntKind) (m : Int) : Option VV := binII op k m k' n
def bIntNo (_ : BinOp) (_ : IntKind) (_ : Int) : Option VV := none
def bIntV : Value → BinOp → IntKind → Int → Option VV
  | .int k' n => bIntInt k' n
  | _ => bIntNo
def bIntL : VV → BinOp → IntKind → Int → Option VV
  | .lit u => bIntV u
  | _ => bIntNo
def bStrStr (n : ByteArray) (op : BinOp) (m : ByteArray) : Option VV := binStr op m n
def bStrNo (_ : BinOp) (_ : ByteArray) : Option VV := none
def bStrV : Value → BinOp → ByteArray → Option VV
  | .string n => bStrStr n
  | _ => bStrNo
def bStrL : VV → BinOp → ByteArray → Option VV
  | .lit u => bStrV u
  | _ => bStrNo
def bInt (k : IntKind) (m : Int) (_ : Cfg) (op : BinOp) (_ : TypeId) (_ _ : Operand) (_ b : VV) : Option VV := bIntL b op k m
def bStr (m : ByteArray) (_ : Cfg) (op : BinOp) (_ : TypeId) (_ _ : Operand) (_ b : VV) : Option VV := bStrL b op m
def binL : Value → Cfg → BinOp → TypeId → Operand → Operand → VV → VV → Option VV
  | .int k m => bInt k m
  | .string m => bStr m
  | _ => binE
def binA : VV → Cfg → BinOp → TypeId → Operand → Operand → VV → VV → Option VV
  | .lit v => binL v
  | _ => binE
def binV (c : Cfg) (op : BinOp) (t : TypeId) (x y : Operand) (a b : VV) : Option VV := binA a c op t x y a b

def unV (op : UnOp) (x : VV) : Option VV :=
  match op, x with
  | .neg, .lit (.int k n) => some (.lit (.int k (wr k (0 - n))))
  | .not, .lit (.bool b) => some (.lit (.bool !b))
  | .xor, .lit (.int k n) => binInt .xor k (if k.signed then -1 else k.max) n
  | _, _ => none

/-- The slice of a row: its block's cells, if the row is there. -/
structure Row : Type where
  t : T VV
  n : Nat
  k : RK
def rowV : VO → Option Row
  | .row t n o => some ⟨t, n, o⟩
  | _ => none
def rowO : Option VO → Option Row
  | some o => rowV o
  | none => none
def rowOf (h : H) (id : Nat) : Option Row := rowO (h.get id)
/-- n cells from off on. -/
def getN (t : T VV) : Nat → Nat → Option (List VV)
  | _, 0 => some []
  | off, n + 1 => match t.get off with
    | some v => (match getN t (off + 1) n with
      | some l => some (v :: l)
      | none => none)
    | none => none
def putK {β : Type} : List VV → Nat → T VV → (T VV → β) → β
  | [], _, t, k => k t
  | v :: l, off, t, k => T.setK 20 t off v fun t => putK l (off + 1) t k
def H.newRow (h : H) (l : List VV) (o : RK) (k : H → R) : R := bif Nat.ble l.length 1000000 then (putK l 0 .leaf fun t => forceN l.length fun n => h.newK (.row t n o) (.no "full") k) else .no "row"

def litBytes : List VV → Option (List UInt8)
  | [] => some []
  | .lit (.int .u8 n) :: l => match litBytes l with
    | some r => some (UInt8.ofNat n.toNat :: r)
    | none => none
  | _ :: _ => none

def bytesV (s : ByteArray) : List VV := s.data.toList.map fun b => .lit (.int .u8 b.toNat)

def convInt (k : IntKind) (x : VV) (h : H) : R := match x with
  | .lit v => (match v with
    | .int _ n => .val (.lit (.int k (wr k n))) h
    | _ => .no "convert to an integer")
  | _ => .no "convert to an integer"
def convBytes (id off len : Nat) (h : H) : R := match rowOf h id with
  | some r => bif Nat.ble (off + len) r.n then (match getN r.t off len with
    | some l => (match litBytes l with
      | some bs => .val (.lit (.string ⟨bs.toArray⟩)) h
      | none => .no "convert: no bytes")
    | none => .no "convert") else .no "convert: beyond"
  | none => .no "convert: no row"
def isU8 (c : Cfg) (e : TypeId) : Bool := match c.und e with
  | some (.int .u8) => true
  | _ => false
def isSlU8 (c : Cfg) (d : TypeDesc) : Bool := match d with
  | .slice e => isU8 c e
  | _ => false
def convStr (c : Cfg) (a : TypeDesc) (x : VV) (h : H) : R := match x with
  | .lit v => (match v with
    | .string s => .val (.lit (.string s)) h
    | .slice none _ _ => bif isSlU8 c a then .val (.lit (.string .empty)) h else .no "convert"
    | _ => .no "convert")
  | .emp => bif isSlU8 c a then .val (.lit (.string .empty)) h else .no "convert"
  | .sl id off len _ _ => bif isSlU8 c a then convBytes id off len h else .no "convert"
  | _ => .no "convert"
def convSl (c : Cfg) (src dst : TypeId) (a : TypeDesc) (e : TypeId) (x : VV) (h : H) : R := match x with
  | .lit v => (match v with
    | .string s => bif isU8 c e then h.newRow (bytesV s) (.opn 1) fun h' => .val (.sl h.next 0 s.size s.size false) h' else .no "convert"
    | _ => .no "convert")
  | .sl id off len cap ex => bif isU8 c e && isSlU8 c a && Nat.beq src dst then (match rowOf h id with
    | some r => (match r.k.wr with
      | true => .val (.sl id off len cap ex) h
      | false => .no "convert")
    | none => .no "convert") else .no "convert"
  | _ => .no "convert"
def convV (c : Cfg) (src dst : TypeId) (x : VV) (h : H) : R := match c.und src with
  | some a => (match c.und dst with
    | some d => (match d with
      | .int k => convInt k x h
      | .string => convStr c a x h
      | .slice e => convSl c src dst a e x h
      | _ => .no "convert")
    | none => .no "convert")
  | none => .no "convert"

/-- Lay parts into cells. -/
def fillV (place : Nat → Option (Nat × Nat)) (cells : List VV) : List (Nat × VV) → Option (List VV)
  | [] => some cells
  | (i, v) :: rest => match place i with
    | none => none
    | some (off, size) => let l := v.cells
      if l.length ≠ size || off + l.length > cells.length then none
      else fillV place (cells.take off ++ l ++ cells.drop (off + l.length)) rest

def repl (z : List VV) : Nat → List VV
  | 0 => []
  | n + 1 => z ++ repl z n

def partV (c : Cfg) (t : TypeId) (cs : List VV) (off : Nat) : Option VV :=
  match c.agg t, c.size t with
  | some true, some s => if off + s ≤ cs.length then some (.agg ((cs.drop off).take s)) else none
  | some false, _ => cs[off]?
  | _, _ => none

/-- The bounds of a slice expression, where they hold. -/
def boundV (x : VV) (y : Nat) : Option Nat := match x with
  | .lit (.int _ i) => if 0 ≤ i ∧ i ≤ y then some i.toNat else none
  | _ => none
def boundsV (len cap : Nat) (low high max : Option VV) : Option (Nat × Nat × Nat) :=
  match (match max with | some v => boundV v cap | none => some cap) with
  | none => none
  | some m =>
    match (match high with | some v => boundV v m | none => if max.isNone then some len else none) with
    | none => none
    | some hi => match (match low with | some v => boundV v hi | none => some 0) with
      | none => none
      | some lo => some (lo, hi, m)

def optMap (f : Operand → VV) : Option Operand → Option VV
  | some x => some (f x)
  | none => none

def sliceStr (s : ByteArray) (low high max : Option VV) (h : H) : R := match max with
  | none => (match boundsV s.size s.size low high none with
    | some (l, hi, _) => .val (.lit (.string (s.extract l hi))) h
    | none => .no "slice of a string")
  | some _ => .no "slice"
def sliceArr (n size id off : Nat) (low high max : Option VV) (h : H) : R := match boundsV n n low high max with
  | some (l, hi, m) => bif Nat.beq m l then .no "slice: empty capacity" else .val (.sl id (off + l * size) (hi - l) (m - l) true) h
  | none => .no "slice of an array"
def sliceNil (low high max : Option VV) (h : H) : R := match boundsV 0 0 low high max with
  | some _ => .val (.lit (.slice none 0 0)) h
  | none => .no "slice of nil"
def sliceEmp (low high max : Option VV) (h : H) : R := match max with
  | none => (match boundsV 0 0 low high none with
    | some _ => .val .emp h
    | none => .no "slice of an empty one")
  | some _ => .no "slice of an empty one"
def sliceEx (size id off len cap : Nat) (low high max : Option VV) (h : H) : R := match boundsV len cap low high max with
  | some (l, hi, m) => .val (.sl id (bif Nat.beq m l then off else off + l * size) (hi - l) (m - l) true) h
  | none => .no "slice bounds"
/-- A slice whose capacity is known from below. -/
def sliceLo (size id off len cap : Nat) (low high max : Option VV) (h : H) : R := match max with
  | some _ => sliceEx size id off len cap low high max h
  | none => (match boundsV len cap low high none with
    | some (l, hi, _) => bif Nat.ble hi cap then (bif Nat.beq l 0 then .val (.sl id off hi cap false) h
        else bif Nat.beq cap l then .val .emp h else .val (.sl id (off + l * size) (hi - l) (cap - l) false) h) else .no "slice"
    | none => .no "slice bounds")
def isNilS : Value → Bool
  | .slice none 0 0 => true
  | _ => false
def sliceS (size : Nat) (x : VV) (low high max : Option VV) (h : H) : R := match x with
  | .lit v => bif isNilS v then sliceNil low high max h else .no "slice"
  | .emp => sliceEmp low high max h
  | .sl id off len cap ex => (match ex with
    | true => sliceEx size id off len cap low high max h
    | false => (match rowOf h id with
      | some r => (match r.k with
        | .opn sz => bif Nat.beq sz size then sliceLo size id off len cap low high max h else .no "slice"
        | _ => .no "slice")
      | none => .no "slice"))
  | _ => .no "slice"
def sliceV (c : Cfg) (t : TypeId) (x : VV) (low high max : Option VV) (h : H) : R :=
  match c.und t with
  | some d => (match d with
    | .string => (match x with
      | .lit (.string s) => sliceStr s low high max h
      | _ => .no "slice")
    | .array n elem => (match x with
      | .ptr id off => (match c.size elem with
        | some size => sliceArr n size id off low high max h
        | none => .no "slice")
      | _ => .no "slice")
    | .slice elem => (match c.size elem with
      | some size => sliceS size x low high max h
      | none => .no "slice")
    | _ => .no "slice")
  | none => .no "slice"

/-- The same value, for keys. -/
def sameLit (a b : Value) : Bool := match a, b with
  | .int j x, .int k y => kEq j k && iEq x y
  | .string x, .string y => x.toList == y.toList
  | .bool x, .bool y => x == y
  | _, _ => false
def sameV : Nat → VV → VV → Bool
  | _, .lit a, .lit b => sameLit a b
  | n + 1, .agg a, .agg b => sameL (sameV n) a b
  | _, _, _ => false
  where sameL (eq : VV → VV → Bool) : List VV → List VV → Bool
  | [], [] => true
  | a :: l, b :: l' => eq a b && sameL eq l l'
  | _, _ => false
def findV (kind : TypeDesc) (k : VV) : List VE → Nat → Option (Option (Nat × VV))
  | [], _ => some none
  | e :: es, i => match kind, k, e.key with
    | .int _, .lit (.int j a), .lit (.int j' b) => if j = j' then (if a = b then some (some (i, e.val)) else findV kind k es (i + 1)) else none
    | .string, .lit (.string a), .lit (.string b) => if a = b then some (some (i, e.val)) else findV kind k es (i + 1)
    | _, _, _ => none
/-- Keys that are structs of strings. -/
def findS (c : Cfg) (kt : TypeId) (k : VV) : List VE → Nat → Option (Option (Nat × VV))
  | [], _ => some none
  | e :: es, i => match eqv c 20 kt k e.key with
    | some true => some (some (i, e.val))
    | some false => findS c kt k es (i + 1)
    | none => none
def isStrT (c : Cfg) (t : TypeId) : Bool := match c.und t with
  | some .string => true
  | _ => false
def keyFind (c : Cfg) (kt : TypeId) (k : VV) (es : List VE) : Option (Option (Nat × VV)) :=
  match c.und kt with
  | some d => (match d with
    | .struct fields => (match k with
      | .agg cs => bif fields.toList.all (fun f => isStrT c f.type && Nat.blt f.offset cs.length) then findS c kt k es 0 else none
      | _ => none)
    | .int _ => (match k with
      | .lit _ => findV d k es 0
      | _ => none)
    | .string => (match k with
      | .lit _ => findV d k es 0
      | _ => none)
    | _ => none)
  | none => none

def mapOf (h : H) : VV → Option (List VE × Nat)
  | .lit (.map none) => some ([], 0)
  | .mp id => match h.get id with
    | some (.map es cl) => some (es, cl)
    | _ => none
  | _ => none

def lookupR (c : Cfg) (et : TypeId) (ok : Bool) (h : H) : Option (Nat × VV) → R
  | some (_, v) => .val (if ok then .tup [v, b2v true] else v) h
  | none => (match c.zero et with
    | some z => .val (if ok then .tup [z, b2v false] else z) h
    | none => .no "lookup")
def lookupV (c : Cfg) (t : TypeId) (x i : VV) (ok : Bool) (h : H) : R :=
  match c.und t with
  | some d => (match d with
    | .map kt et => (match mapOf h x with
      | some (es, _) => (match keyFind c kt i es with
        | some r => lookupR c et ok h r
        | none => .no "lookup: keys")
      | none => .no "lookup")
    | _ => .no "lookup")
  | none => .no "lookup"

def mapUpdR (id : Nat) (k v : VV) (es : List VE) (cl : Nat) (h : H) : Option (Nat × VV) → R
  | some (i, _) => (match es[i]? with
    | some e => bif sameV 3 e.key k then h.setK id (.map (es.set i { e with val := v }) cl) fun h => .nov h else .no "mapUpdate: another key"
    | none => .no "mapUpdate")
  | none => h.setK id (.map (es ++ [⟨k, v, cl⟩]) (cl + 1)) fun h => .nov h
def mapUpdV (c : Cfg) (t : TypeId) (m k v : VV) (h : H) : R :=
  match c.und t with
  | some d => (match d with
    | .map kt _ => (match m with
      | .mp id => (match h.get id with
        | some (.map es cl) => (match keyFind c kt k es with
          | some r => mapUpdR id k v es cl h r
          | none => .no "mapUpdate: keys")
        | _ => .no "mapUpdate")
      | _ => .no "mapUpdate")
    | _ => .no "mapUpdate")
  | none => .no "mapUpdate"

def mapEntR (c : Cfg) (et : TypeId) (id : Nat) (k : VV) (es : List VE) (cl : Nat) (h : H) : Option (Nat × VV) → R
  | some (i, v) => (match es[i]? with
    | some e => bif sameV 3 e.key k then .val (.tup [v, .lit (.int .i64 e.born)]) h else .no "mapEntry: another key"
    | none => .no "mapEntry")
  | none => (match c.zero et with
    | some z => h.setK id (.map (es ++ [⟨k, z, cl⟩]) (cl + 1)) fun h => .val (.tup [z, .lit (.int .i64 cl)]) h
    | none => .no "mapEntry")
def mapEntV (c : Cfg) (t : TypeId) (m k : VV) (h : H) : R :=
  match c.und t with
  | some d => (match d with
    | .map kt et => (match m with
      | .mp id => (match h.get id with
        | some (.map es cl) => (match keyFind c kt k es with
          | some r => mapEntR c et id k es cl h r
          | none => .no "mapEntry: keys")
        | _ => .no "mapEntry")
      | _ => .no "mapEntry")
    | _ => .no "mapEntry")
  | none => .no "mapEntry"

def findBorn (b : Int) : List VE → Nat → Option Nat
  | [], _ => none
  | e :: es, i => if (e.born : Int) = b then some i else findBorn b es (i + 1)

def entStV (m s v : VV) (h : H) : R :=
  match m, s with
  | .mp id, .lit (.int _ b) => match h.get id with
    | some (.map es cl) => match findBorn b es 0 with
      | some i => match es[i]? with
        | some e => h.setK id (.map (es.set i { e with val := v }) cl) fun h => .nov h
        | none => .no "entryStore"
      | none => .no "entryStore"
    | _ => .no "entryStore"
  | _, _ => .no "entryStore"

def nextV (x : VV) (isString : Bool) (h : H) : R :=
  match x, isString with
  | .ptr r 0, false => match h.get r with
    | some (.iter none _ _ _) => .val (.tup [b2v false]) h
    | some (.iter (some m) since seen last) => match h.get m with
      | some (.map es cl) =>
        if !seen.isEmpty && !es.isEmpty && es.all (fun e => e.born ≥ last) then .no "next" else
        let left := es.filter fun e => !seen.contains e.born
        let old := left.filter fun e => e.born < since
        let new := left.filter fun e => e.born ≥ since
        if !new.isEmpty then .no "next: new entries" else
        match old with
        | [] => h.setK r .dead fun h => .val (.tup [b2v false]) h
        | [e] => h.setK r (.iter (some m) since (seen ++ [e.born]) cl) fun h => .val (.tup [b2v true, e.key, e.val]) h
        | l => .alts (l.map fun e => h.setK r (.iter (some m) since (seen ++ [e.born]) cl) fun h => (.tup [b2v true, e.key, e.val], h))
      | _ => .no "next"
    | _ => .no "next"
  | _, _ => .no "next"

def findBornE (b : Nat) : List VE → Option VE
  | [] => none
  | e :: es => if e.born = b then some e else findBornE b es
def entryV (x : VV) (h : H) : R := match x with
  | .ptr r 0 => match h.get r with
    | some (.iter (some m) _ seen stepped) => match seen.getLast?, h.get m with
      | some stamp, some (.map es cl) => if cl = stepped then (match findBornE stamp es with
          | some e => .val (.tup [e.key, e.val]) h
          | none => .no "entry") else .no "entry"
      | _, _ => .no "entry"
    | _ => .no "entry"
  | _ => .no "entry"

def rangeV (c : Cfg) (t : TypeId) (x : VV) (h : H) : R :=
  match c.und t, x with
  | some (.map _ _), .lit (.map none) => h.newK (.iter none 0 [] 0) (.no "full") fun h' => .val (.ptr h.next 0) h'
  | some (.map _ _), .mp id => match h.get id with
    | some (.map _ cl) => h.newK (.iter (some id) cl [] cl) (.no "full") fun h' => .val (.ptr h.next 0) h'
    | _ => .no "range"
  | _, _ => .no "range"

/-- The first n elements of what is appended or copied. -/
def firstV (size n : Nat) (x : VV) (h : H) : Option (List VV) := match x with
  | .lit (.slice none _ _) => some []
  | .emp => some []
  | .sl id off _ _ _ => match rowOf h id with
    | some r => if off + n * size ≤ r.n then getN r.t off (n * size) else none
    | none => none
  | .lit (.string s) => some (bytesV (s.extract 0 n))
  | _ => none
def lenV : VV → Option Nat
  | .lit (.slice none n _) => some n
  | .emp => some 0
  | .sl _ _ n _ _ => some n
  | .lit (.string s) => some s.size
  | _ => none

/-- What is appended: its number of elements, its cells. -/
def newZ (c : Cfg) (elem : TypeId) (size : Nat) (x : VV) : Option (Nat × List VV) := match x with
  | .lit v => (match v with
    | .int _ n => (match c.zero elem with
      | some z => bif decide (0 ≤ n) && decide (n < 1048576) && Nat.beq z.cells.length size then some (n.toNat, repl z.cells n.toNat) else none
      | none => none)
    | _ => none)
  | _ => none
def newF (size : Nat) (x : VV) (h : H) : Option (Nat × List VV) := match lenV x with
  | some n => (match firstV size n x h with
    | some l => some (n, l)
    | none => none)
  | none => none
def newV (c : Cfg) (elem : TypeId) (size : Nat) (t2 : Option TypeId) (x : VV) (h : H) : Option (Nat × List VV) := match t2 with
  | none => none
  | some u => (match c.und u with
    | none => none
    | some d => (match d with
      | .int _ => newZ c elem size x
      | .slice _ => newF size x h
      | .string => newF size x h
      | _ => none))

def appendIn (id at_ : Nat) (new : List VV) (r : Row) (v : VV) (h : H) : R := match r.k with
  | .tab => .no "a write to memory that is read only"
  | _ => putK new at_ r.t fun t => h.setK id (.row t r.n r.k) fun h => .val v h
def appendCopy (size off len n : Nat) (new : List VV) (r : Row) (h : H) : R := match getN r.t off (len * size) with
  | some l => h.newRow (l ++ new) (.opn size) fun h' => .val (.sl h.next 0 (len + n) (len + n) false) h'
  | none => .no "append"
def appendOut (size id off len n : Nat) (new : List VV) (r : Row) (h : H) : R := match r.k with
  | .opn sz => bif Nat.beq off 0 && Nat.beq (len * size) r.n && Nat.beq sz size then
      putK new r.n r.t fun t => forceN (r.n + new.length) fun m => h.setK id .dead fun hd => hd.newK (.row t m (.opn size)) (.no "full") fun h' => .val (.sl h.next 0 (len + n) (len + n) false) h'
    else .no "append: perhaps in place"
  | _ => .no "append: perhaps in place"
def appendRow (size id off len cap : Nat) (ex : Bool) (n : Nat) (new : List VV) (r : Row) (h : H) : R :=
  bif Nat.ble (off + len * size) r.n && Nat.ble (off + (len + n) * size) 1000000 && new.all flat && Nat.beq new.length (n * size) && Nat.ble 1 size then
    bif Nat.ble (len + n) cap then (bif Nat.ble (off + (len + n) * size) r.n then appendIn id (off + len * size) new r (.sl id off (len + n) cap ex) h else .no "append: in place, beyond")
    else (match ex with
      | true => appendCopy size off len n new r h
      | false => appendOut size id off len n new r h)
  else .no "append: beyond"

def appendNil (size n : Nat) (new : List VV) (h : H) : R :=
  bif Nat.beq n 0 then .val (.lit (.slice none 0 0)) h
  else bif Nat.ble n 1000000 && Nat.beq new.length (n * size) && Nat.ble 1 size then h.newRow new (.opn size) fun h' => .val (.sl h.next 0 n n false) h'
  else .no "append: much"
def appendS (size : Nat) (s : VV) (n : Nat) (new : List VV) (h : H) : R := match s with
  | .lit v => bif isNilS v then appendNil size n new h else .no "append"
  | .sl id off len cap ex => (match rowOf h id with
    | none => .no "append: no row"
    | some r => appendRow size id off len cap ex n new r h)
  | _ => .no "append"
def zOk (c : Cfg) (e : TypeId) (s : Nat) : Bool := match c.zero e with
  | some z => Nat.beq z.cells.length s
  | none => false
def appendV (c : Cfg) (t : TypeId) (t2 : Option TypeId) (s x : VV) (h : H) : R :=
  match c.und t with
  | some d => (match d with
    | .slice elem => (match c.tys.get elem with
      | some ei => bif Nat.ble 1 ei.bytes && Nat.ble ei.bytes 256 && zOk c elem ei.size then (match newV c elem ei.size t2 x h with
          | some (n, new) => appendS ei.size s n new h
          | none => .no "append: what?") else .no "append: size"
      | none => .no "append: types")
    | _ => .no "append")
  | none => .no "append"

def copyTo (size : Nat) (n id off : Nat) (x : VV) (h : H) : R := match firstV size n x h with
  | some new => (match rowOf h id with
    | some r => bif Nat.ble (off + new.length) r.n && new.all flat then appendIn id off new r (.lit (.int .i64 n)) h else .no "copy"
    | none => .no "copy")
  | none => .no "copy"
def copyD (size : Nat) (m : Nat) (d x : VV) (h : H) : R := match d with
  | .lit v => bif isNilS v then .val (.lit (.int .i64 0)) h else .no "copy"
  | .sl id off len _ _ => copyTo size (Nat.min m len) id off x h
  | _ => .no "copy"
def copyV (c : Cfg) (t : TypeId) (d x : VV) (h : H) : R :=
  match c.und t with
  | some ty => (match ty with
    | .slice elem => (match c.size elem with
      | some size => (match lenV x with
        | some m => copyD size m d x h
        | none => .no "copy")
      | none => .no "copy")
    | _ => .no "copy")
  | none => .no "copy"

def lenB (c : Cfg) (t : TypeId) (x : VV) (h : H) : Option VV :=
  match c.und t, x with
  | some .string, .lit (.string s) => some (.lit (.int .i64 s.size))
  | some (.array n _), _ => some (.lit (.int .i64 n))
  | some (.pointer a), _ => match c.und a with
    | some (.array n _) => some (.lit (.int .i64 n))
    | _ => none
  | some (.slice _), .sl _ _ n _ _ => some (.lit (.int .i64 n))
  | some (.slice _), .emp => some (.lit (.int .i64 0))
  | some (.slice _), .lit (.slice _ n _) => some (.lit (.int .i64 n))
  | some (.map _ _), x => match mapOf h x with
    | some (es, _) => some (.lit (.int .i64 es.length))
    | none => none
  | _, _ => none
def capB (c : Cfg) (t : TypeId) (x : VV) : Option VV :=
  match c.und t, x with
  | some (.slice _), .sl _ _ _ n true => some (.lit (.int .i64 n))
  | some (.slice _), .lit (.slice _ _ n) => some (.lit (.int .i64 n))
  | _, _ => none

def mmFrom (isMax : Bool) (k : IntKind) : Int → List VV → Option VV
  | x, [] => some (.lit (.int k x))
  | x, .lit (.int k' y) :: l => if k = k' then mmFrom isMax k (if isMax then (if x < y then y else x) else (if y < x then y else x)) l else none
  | _, _ => none
def minmax (isMax : Bool) : List VV → Option VV
  | .lit (.int k x) :: l => mmFrom isMax k x l
  | _ => none

def bLen (c : Cfg) (ts : List TypeId) (args : List VV) (h : H) : R := match ts, args with
  | [t], [x] => (match lenB c t x h with
    | some v => .val v h
    | none => .no "len")
  | _, _ => .no "len"
def bCap (c : Cfg) (ts : List TypeId) (args : List VV) (h : H) : R := match ts, args with
  | [t], [x] => (match capB c t x with
    | some v => .val v h
    | none => .no "cap")
  | _, _ => .no "cap"
def bAppend (c : Cfg) (ts : List TypeId) (args : List VV) (h : H) : R := match ts, args with
  | [t, u], [s, x] => appendV c t (some u) s x h
  | _, _ => .no "append"
def bCopy (c : Cfg) (ts : List TypeId) (args : List VV) (h : H) : R := match ts, args with
  | t :: _, [d, x] => copyV c t d x h
  | _, _ => .no "copy"
def bMM (isMax : Bool) (args : List VV) (h : H) : R := match minmax isMax args with
  | some v => .val v h
  | none => .no "min, max"
def built (c : Cfg) (b : Builtin) (ts : List TypeId) (args : List VV) (h : H) : R :=
  match b with
  | .len => bLen c ts args h
  | .cap => bCap c ts args h
  | .append => bAppend c ts args h
  | .copy => bCopy c ts args h
  | .min => bMM false args h
  | .max => bMM true args h
  | _ => .no "builtin"

/-- The method of a type, where it is the type's own and plain. -/
def methodF (c : Cfg) (t : TypeId) (v : VV) (mt : Method) : Option (FuncId × VV) := match mt.func with
  | some (f, pr) => (match c.und t with
    | some d => (match d with
      | .pointer _ => bif pr then some (f, v) else none
      | _ => bif pr then none else some (f, v))
    | none => none)
  | none => none
def methodV (c : Cfg) (t : TypeId) (v : VV) (name : String) : Option (FuncId × VV) :=
  match c.tys.get t with
  | some i => (match i.methods.find? (fun m => m.name == name) with
    | some mt => bif mt.path.isEmpty then methodF c t v mt else none
    | none => none)
  | none => none

def invokeV (f : VV) (args : List VV) (h : H) : R :=
  match f with
  | .fn (.func g) first caps => .call g (first ++ args ++ caps) h
  | .fn (.yield l) [] _ => .round l args h
  | _ => .no "call"

def assertV (c : Cfg) (x : VV) (_xt asserted : TypeId) (ok : Bool) (h : H) : R :=
  let holds (v : VV) : R := .val (if ok then .tup [v, b2v true] else v) h
  let fails : R := if ok then (match c.zero asserted with | some z => .val (.tup [z, b2v false]) h | none => .no "typeAssert") else .no "typeAssert"
  match c.und asserted with
  | some d => match d, x with
    | .interface _, .lit .nilIface => fails
    | .interface want, .ifc t _ => match c.tys.get t with
      | some i => match Instr.missingMethod want i.methods with
        | none => holds x
        | some _ => fails
      | none => .no "typeAssert"
    | _, .lit .nilIface => fails
    | _, .ifc t v => if t = asserted then holds v else fails
    | _, _ => .no "typeAssert"
  | none => .no "typeAssert"

def onlyVal (r : R) : R := match r with
  | .val v h => .val v h
  | .no s => .no s
  | _ => .no "?"
def onlyNov (r : R) : R := match r with
  | .nov h => .nov h
  | .no s => .no s
  | _ => .no "?"
def onlyNext (r : R) : R := match r with
  | .val v h => .val v h
  | .alts l => .alts l
  | .no s => .no s
  | _ => .no "?"
section ops
variable (c : Cfg) (e : T VV) (h : H)
def xPick (b x y : VV) : R := match b with
  | .lit v => (match v with
    | .bool t => .val (bif t then x else y) h
    | _ => .no "pick")
  | _ => .no "pick"
def xAlloc (t : TypeId) : R := match c.zero t with
  | some z => h.newRow z.cells .fix fun h' => .val (.ptr h.next 0) h'
  | none => .no "alloc"
def xBox (v : VV) : R := h.newRow v.cells .fix fun h' => .val (.ptr h.next 0) h'
def partsV (parts : Array (Nat × Operand)) : List (Nat × VV) := parts.toList.map fun p => (p.1, evv e p.2)
def xBuild (t : TypeId) (parts : Array (Nat × Operand)) : R := match c.zero t, c.und t with
  | some z, some d => (match d with
    | .struct fields => (match fillV (fun i => match fields[i]? with | some f => (match c.size f.type with | some s => some (f.offset, s) | none => none) | none => none) z.cells (partsV e parts) with
      | some l => if fields.toList.all (fun f => (c.size f.type).isSome) then .val (.agg l) h else .no "build"
      | none => .no "build")
    | .array _ elem => (match c.size elem with
      | some s => (match fillV (fun i => some (i * s, s)) z.cells (partsV e parts) with
        | some l => .val (.agg l) h
        | none => .no "build")
      | none => .no "build")
    | _ => .no "build")
  | _, _ => .no "build"
def xBuildSlice (t : TypeId) (len : Nat) (parts : Array (Nat × Operand)) : R := match c.und t with
  | some (.slice elem) => (match c.size elem, c.zero elem with
    | some s, some z => if s = z.cells.length && 0 < s && len * s < 2 ^ 20 then (match fillV (fun i => some (i * s, s)) (repl z.cells len) (partsV e parts) with
        | some l => h.newRow l .fix fun h' => .val (.sl h.next 0 len len true) h'
        | none => .no "buildSlice")
      else .no "buildSlice"
    | _, _ => .no "buildSlice")
  | _ => .no "buildSlice"
def optR (o : Option VV) : R := match o with
  | some v => .val v h
  | none => .no "no value"
def partR (t : TypeId) (r : Row) (off : Nat) : Option VV := match c.agg t with
  | some b => (match b with
    | true => (match c.size t with
      | some s => bif Nat.ble (off + s) r.n then (match getN r.t off s with
        | some l => some (.agg l)
        | none => none) else none
      | none => none)
    | false => bif Nat.blt off r.n then r.t.get off else none)
  | none => none
def loadRow (t : TypeId) (off : Nat) : Option Row → R
  | some r => optR h (partR c t r off)
  | none => .no "load: no row"
def xLoad (t : TypeId) (x : VV) : R := match x with
  | .ptr id off => loadRow c h t off (rowOf h id)
  | _ => .no "load: no pointer"
def storeRow (id off : Nat) (y : VV) (s : Nat) : Option Row → R
  | some r => (match r.k with
    | .tab => .no "a store to memory that is read only"
    | _ => bif Nat.beq y.cells.length s && Nat.ble (off + s) r.n && y.cells.all flat then putK y.cells off r.t fun t => h.setK id (.row t r.n r.k) fun h => .nov h else .no "store")
  | none => .no "store: no row"
def xStore (t : TypeId) (x y : VV) : R := match x with
  | .ptr id off => (match c.size t with
    | some s => storeRow h id off y s (rowOf h id)
    | none => .no "store")
  | _ => .no "store: no pointer"
def xNilCheck (x : VV) : R := match x with
  | .ptr id off => .val (.ptr id off) h
  | .fn f m l => (match f with
    | .func f => .val (.fn (.func f) m l) h
    | .yield f => .val (.fn (.yield f) m l) h
    | _ => .no "nilCheck")
  | .ifc t v => .val (.ifc t v) h
  | _ => .no "nilCheck"
def xMakeInterface (t : TypeId) (x : VV) : R := match c.und t with
  | some d => (match d with
    | .interface _ => .no "makeInterface"
    | _ => .val (.ifc t x) h)
  | none => .no "makeInterface"
def xMakeMap (t : TypeId) (r : Option Operand) : R := match r with
  | none => h.newK (.map [] 0) (.no "full") fun h' => .val (.mp h.next) h'
  | some x => (match c.und t, evv e x with
    | some (.map _ _), .lit (.int _ _) => h.newK (.map [] 0) (.no "full") fun h' => .val (.mp h.next) h'
    | _, _ => .no "makeMap")
def xMakeSlice (t : TypeId) (l m : VV) : R := match c.und t with
  | some (.slice elem) => (match c.tys.get elem, c.zero elem, l, m with
    | some ei, some z, .lit (.int _ ln), .lit (.int _ cp) =>
      if ei.size = z.cells.length && 0 < ei.size && ei.bytes ≤ 1024 && decide (0 ≤ ln ∧ ln ≤ cp ∧ cp < 2 ^ 20) then
        h.newRow (repl z.cells cp.toNat) .fix fun h' => .val (.sl h.next 0 ln.toNat cp.toNat true) h'
      else .no "makeSlice"
    | _, _, _, _ => .no "makeSlice")
  | _ => .no "makeSlice"
def xFieldAddr (s : TypeId) (x : VV) (f : Nat) : R := match c.und s with
  | some d => (match d with
    | .struct fields => (match x with
      | .ptr id off => (match fields[f]? with
        | some fl => (match c.size fl.type with
          | some sz => bif Nat.beq sz 0 then .no "fieldAddr" else .val (.ptr id (off + fl.offset)) h
          | none => .no "fieldAddr")
        | none => .no "fieldAddr")
      | _ => .no "fieldAddr")
    | _ => .no "fieldAddr")
  | none => .no "fieldAddr"
def xField (t : TypeId) (x : VV) (f : Nat) : R := match c.und t with
  | some d => (match d with
    | .struct fields => (match x with
      | .agg cs => (match fields[f]? with
        | some fl => optR h (partV c fl.type cs fl.offset)
        | none => .no "field")
      | _ => .no "field")
    | _ => .no "field")
  | none => .no "field"
def inRange (n : Int) (len : Nat) : Bool := match n with
  | .ofNat m => Nat.blt m len
  | .negSucc _ => false
def xIndexAddr (t : TypeId) (x i : VV) : R := match i with
  | .lit v => (match v with
    | .int _ n => (match c.und t with
      | some d => (match d with
        | .array len elem => (match x with
          | .ptr id off => (match c.size elem with
            | some s => bif inRange n len then .val (.ptr id (off + n.toNat * s)) h else .no "indexAddr"
            | none => .no "indexAddr")
          | _ => .no "indexAddr")
        | .slice elem => (match x with
          | .sl id off len _ _ => (match c.size elem with
            | some s => bif inRange n len then .val (.ptr id (off + n.toNat * s)) h else .no "indexAddr"
            | none => .no "indexAddr")
          | _ => .no "indexAddr")
        | _ => .no "indexAddr")
      | none => .no "indexAddr")
    | _ => .no "indexAddr")
  | _ => .no "indexAddr"
def xIndex (t : TypeId) (x i : VV) : R := match i with
  | .lit v => (match v with
    | .int _ n => (match c.und t with
      | some d => (match d with
        | .array len elem => (match x with
          | .agg cs => (match c.size elem with
            | some s => bif inRange n len then optR h (partV c elem cs (n.toNat * s)) else .no "index"
            | none => .no "index")
          | _ => .no "index")
        | .string => (match x with
          | .lit u => (match u with
            | .string s => bif inRange n s.size then (match s[n.toNat]? with | some b => .val (.lit (.int .u8 b.toNat)) h | none => .no "index") else .no "index"
            | _ => .no "index")
          | _ => .no "index")
        | _ => .no "index")
      | none => .no "index")
    | _ => .no "index")
  | _ => .no "index"
def xExtract (x : VV) (i : Nat) : R := match x with
  | .tup l => optR h l[i]?
  | _ => .no "extract"
def xCall (cl : Call) : R := match cl.callee with
  | .builtin b => onlyVal (built c b cl.argTypes.toList (cl.args.toList.map (evv e)) h)
  | .value f => invokeV (evv e f) (cl.args.toList.map (evv e)) h
  | .invoke r name => (match evv e r with
    | .ifc t v => (match methodV c t v name with
      | some (f, rv) => .call f (rv :: cl.args.toList.map (evv e)) h
      | none => .no "invoke")
    | _ => .no "invoke: nil")
def xDefer (cl : Call) : R := match cl.callee with
  | .value f => (match evv e f with
    | .fn (.func g) [] caps => .dfr (.clo g caps (cl.args.toList.map (evv e))) h
    | _ => .no "defer")
  | _ => .no "defer"

end ops
def oMove (x : Operand) (_ : Cfg) (e : T VV) (h : H) : R := .val (evo x e) h
def oPick (b x y : Operand) (_ : Cfg) (e : T VV) (h : H) : R := onlyVal (xPick h (evo b e) (evo x e) (evo y e))
def oAlloc (t : TypeId) (c : Cfg) (_ : T VV) (h : H) : R := onlyVal (xAlloc c h t)
def oBox (x : Operand) (_ : Cfg) (e : T VV) (h : H) : R := onlyVal (xBox h (evo x e))
def oBuild (t : TypeId) (parts : Array (Nat × Operand)) (c : Cfg) (e : T VV) (h : H) : R := onlyVal (xBuild c e h t parts)
def oBuildSlice (t : TypeId) (len : Nat) (parts : Array (Nat × Operand)) (c : Cfg) (e : T VV) (h : H) : R := onlyVal (xBuildSlice c e h t len parts)
def oLoad (t : TypeId) (x : Operand) (c : Cfg) (e : T VV) (h : H) : R := onlyVal (xLoad c h t (evo x e))
def oStore (t : TypeId) (x y : Operand) (c : Cfg) (e : T VV) (h : H) : R := onlyNov (xStore c h t (evo x e) (evo y e))
def oNilCheck (x : Operand) (_ : Cfg) (e : T VV) (h : H) : R := onlyVal (xNilCheck h (evo x e))
def oBin (op : BinOp) (t : TypeId) (x y : Operand) (c : Cfg) (e : T VV) (h : H) : R := onlyVal (optR h (binV c op t x y (evo x e) (evo y e)))
def oUn (op : UnOp) (x : Operand) (_ : Cfg) (e : T VV) (h : H) : R := onlyVal (optR h (unV op (evo x e)))
def oConv (src dst : TypeId) (x : Operand) (c : Cfg) (e : T VV) (h : H) : R := onlyVal (convV c src dst (evo x e) h)
def oMakeInterface (t : TypeId) (x : Operand) (c : Cfg) (e : T VV) (h : H) : R := onlyVal (xMakeInterface c h t (evo x e))
def xMakeFunc (f : Fn) (first caps : List VV) (h : H) : R := match f with
  | .func g => .val (.fn (.func g) first caps) h
  | _ => .no "makeFunc"
def oMakeFunc (f : Fn) (first caps : Array Operand) (_ : Cfg) (e : T VV) (h : H) : R := xMakeFunc f (first.toList.map (evv e)) (caps.toList.map (evv e)) h
def oMakeMap (t : TypeId) (r : Option Operand) (c : Cfg) (e : T VV) (h : H) : R := onlyVal (xMakeMap c e h t r)
def oMakeSlice (t : TypeId) (l m : Operand) (c : Cfg) (e : T VV) (h : H) : R := onlyVal (xMakeSlice c h t (evo l e) (evo m e))
def oSlice (t : TypeId) (x : Operand) (lo hi mx : Option Operand) (c : Cfg) (e : T VV) (h : H) : R := onlyVal (sliceV c t (evo x e) (optMap (evv e) lo) (optMap (evv e) hi) (optMap (evv e) mx) h)
def oFieldAddr (s : TypeId) (x : Operand) (f : Nat) (c : Cfg) (e : T VV) (h : H) : R := onlyVal (xFieldAddr c h s (evo x e) f)
def oField (t : TypeId) (x : Operand) (f : Nat) (c : Cfg) (e : T VV) (h : H) : R := onlyVal (xField c h t (evo x e) f)
def oIndexAddr (t : TypeId) (x i : Operand) (c : Cfg) (e : T VV) (h : H) : R := onlyVal (xIndexAddr c h t (evo x e) (evo i e))
def oIndex (t : TypeId) (x i : Operand) (c : Cfg) (e : T VV) (h : H) : R := onlyVal (xIndex c h t (evo x e) (evo i e))
def oLookup (t : TypeId) (x i : Operand) (ok : Bool) (c : Cfg) (e : T VV) (h : H) : R := onlyVal (lookupV c t (evo x e) (evo i e) ok h)
def oMapUpdate (t : TypeId) (m k v : Operand) (c : Cfg) (e : T VV) (h : H) : R := onlyNov (mapUpdV c t (evo m e) (evo k e) (evo v e) h)
def oMapEntry (t : TypeId) (m k : Operand) (c : Cfg) (e : T VV) (h : H) : R := onlyVal (mapEntV c t (evo m e) (evo k e) h)
def oEntryStore (m s v : Operand) (_ : Cfg) (e : T VV) (h : H) : R := onlyNov (entStV (evo m e) (evo s e) (evo v e) h)
def oRange (t : TypeId) (x : Operand) (c : Cfg) (e : T VV) (h : H) : R := onlyVal (rangeV c t (evo x e) h)
def oNext (it : Operand) (s : Bool) (_ : Cfg) (e : T VV) (h : H) : R := onlyNext (nextV (evo it e) s h)
def oEntry (it : Operand) (_ : Cfg) (e : T VV) (h : H) : R := onlyVal (entryV (evo it e) h)
def oAssert (x : Operand) (xt a : TypeId) (ok : Bool) (c : Cfg) (e : T VV) (h : H) : R := onlyVal (assertV c (evo x e) xt a ok h)
def oExtract (x : Operand) (i : Nat) (_ : Cfg) (e : T VV) (h : H) : R := onlyVal (xExtract h (evo x e) i)
def oCall (cl : Call) (c : Cfg) (e : T VV) (h : H) : R := xCall c e h cl
def oDefer (cl : Call) (_ : Cfg) (e : T VV) (h : H) : R := xDefer e h cl
def oNo (_ : Cfg) (_ : T VV) (_ : H) : R := .no "op"

def xop : Op → Cfg → T VV → H → R
  | .move x => oMove x
  | .assign x => oMove x
  | .pick b x y => oPick b x y
  | .alloc t => oAlloc t
  | .box _ x => oBox x
  | .build t parts => oBuild t parts
  | .buildSlice t len parts => oBuildSlice t len parts
  | .load t x => oLoad t x
  | .store t x y => oStore t x y
  | .nilCheck x => oNilCheck x
  | .binOp op t x y _ => oBin op t x y
  | .unOp op _ x => oUn op x
  | .convert src dst x => oConv src dst x
  | .makeInterface t x => oMakeInterface t x
  | .makeFunc f first caps => oMakeFunc f first caps
  | .makeMap t r => oMakeMap t r
  | .makeSlice t l m => oMakeSlice t l m
  | .slice t x lo hi mx => oSlice t x lo hi mx
  | .fieldAddr s x f => oFieldAddr s x f
  | .field t x f => oField t x f
  | .indexAddr t x i => oIndexAddr t x i
  | .index t x i => oIndex t x i
  | .lookup t x i ok => oLookup t x i ok
  | .mapUpdate t m k v => oMapUpdate t m k v
  | .insert t m k v => oMapUpdate t m k v
  | .mapEntry t m k => oMapEntry t m k
  | .entryStore _ m s v => oEntryStore m s v
  | .range t x => oRange t x
  | .next it s => oNext it s
  | .entry it => oEntry it
  | .typeAssert x xt a ok => oAssert x xt a ok
  | .extract x i => oExtract x i
  | .call cl => oCall cl
  | .defer cl => oDefer cl
  | _ => oNo
end
end Go.M
