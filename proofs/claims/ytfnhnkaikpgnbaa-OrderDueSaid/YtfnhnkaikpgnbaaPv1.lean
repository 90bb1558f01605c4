/- The engine, part 1: plain values, types, states, and the evaluation of code over them (definitions alone). -/
import Derived.Tactics
import Derived.Scope
namespace Go.Pv
open Go
set_option linter.all false
set_option linter.constructorNameAsVariable false
set_option linter.unusedSectionVars false
set_option linter.unusedVariables false
set_option linter.unusedSimpArgs false

/-! ### types and values -/

/-- api.Expr as a plain value. -/
inductive Ex where
  | mk (kind vk vn : Int) (vs v f : ByteArray) (kids : List Ex)

def Ex.kind : Ex → Int | .mk k _ _ _ _ _ _ => k
def Ex.vk : Ex → Int | .mk _ k _ _ _ _ _ => k
def Ex.vn : Ex → Int | .mk _ _ k _ _ _ _ => k
def Ex.vs : Ex → ByteArray | .mk _ _ _ k _ _ _ => k
def Ex.var : Ex → ByteArray | .mk _ _ _ _ k _ _ => k
def Ex.fld : Ex → ByteArray | .mk _ _ _ _ _ k _ => k
def Ex.kids : Ex → List Ex | .mk _ _ _ _ _ _ k => k

inductive Ty where
  | b | y8 | i (k : IntKind) | s | l (e : Ty) | p (x y : Ty) | w (x : Ty) | ex | c
  deriving DecidableEq

@[reducible] def Ty.den : Ty → Type
  | .b => Bool
  | .y8 => UInt8
  | .i _ => Int
  | .s => ByteArray
  | .l e => List e.den
  | .p x y => x.den × y.den
  | .w x => x.den
  | .ex => Ex
  | .c => Nat × Nat

def Ty.dflt : (t : Ty) → t.den
  | .b => false
  | .y8 => (0 : UInt8)
  | .i _ => (0 : Int)
  | .s => ByteArray.empty
  | .l _ => []
  | .p x y => (x.dflt, y.dflt)
  | .w x => x.dflt
  | .ex => Ex.mk 0 0 0 ByteArray.empty ByteArray.empty ByteArray.empty []
  | .c => (0, 0)

/-- How many cells. -/
def Ty.n : Ty → Nat
  | .p x y => x.n + y.n
  | .w x => x.n
  | .ex => 7
  | _ => 1

def Ty.agg : Ty → Bool
  | .p _ _ | .w _ | .ex => true
  | _ => false

inductive V where
  | u
  | b (x : Bool)
  | i (k : IntKind) (n : Int)
  | s (x : ByteArray)
  | f (x : Nat)
  | c (a b : Nat)
  | nil
  | l (e : Ty) (xs : List e.den)
  | np
  | row (id : Nat)
  | ptr (id off : Nat)
  | pel (e : Ty) (id : Nat) (i : Int) (off : Nat)
  | pim (vs : List V)
  | fn (f : Fn) (cs : List V)
  | agg (vs : List V)
  | tup (vs : List V)
  | g (d : Nat) (want : Bool) (v : V)   -- told by a guard: a slot, and what it must be

inductive Ob where
  | box (vs : List V)
  | row (e : Ty) (xs : List e.den)
  | fro (e : Ty) (xs : List e.den)
  | mp (es : List (ByteArray × Int))   -- a map of texts to ints
  | rw (e : Ty) (xss : List (List e.den)) (hole : Option Int)   -- a row of rows, all of its own; one of them may be away
  | dead

abbrev Env := List (Nat × V)

structure St where
  env : Env
  h : List Ob

def look (t : Nat) : Env → V
  | [] => .u
  | (k, v) :: r => bif Nat.beq k t then v else look t r

def nth {α : Type} : List α → Nat → Option α
  | [], _ => none
  | x :: _, 0 => some x
  | _ :: r, n + 1 => nth r n

def setn {α : Type} : List α → Nat → α → List α
  | [], _, _ => []
  | _ :: r, 0, y => y :: r
  | x :: r, n + 1, y => x :: setn r n y

/-- n from off on. -/
def cut {α : Type} (off n : Nat) (l : List α) : Option (List α) :=
  match Nat.ble (off + n) l.length with
  | true => some ((l.drop off).take n)
  | false => none

/-- A typed value's cells. -/
def Ty.leaves (t : Ty) : t.den → List V := match t with
  | .b => fun x => [V.b x]
  | .y8 => fun x => [V.i .u8 (UInt8.toNat x)]
  | .i k => fun x => [V.i k x]
  | .s => fun x => [V.s x]
  | .l e => fun xs => [V.l e xs]
  | .p t1 t2 => fun x => t1.leaves x.1 ++ t2.leaves x.2
  | .w t1 => fun x => t1.leaves x
  | .ex => fun x => [.i .i64 (Ex.kind x), .i .i64 (Ex.vk x), .i .i64 (Ex.vn x), .s (Ex.vs x), .s (Ex.var x), .s (Ex.fld x), .l .ex (Ex.kids x)]
  | .c => fun x => [V.c x.1 x.2]

def Ty.val (t : Ty) (x : t.den) : V :=
  match t.agg with
  | true => .agg (t.leaves x)
  | false => match t.leaves x with | v :: _ => v | [] => .u

def asB : V → Option Bool | .b x => some x | _ => none
def asI (k : IntKind) : V → Option Int | .i k' n => (match decide (k' = k) with | true => some n | false => none) | _ => none
def asS : V → Option ByteArray | .s x => some x | _ => none
def asC : V → Option (Nat × Nat) | .c a b => some (a, b) | _ => none
/-- Are they one? (quick to evaluate) -/
def Ty.same : Ty → Ty → Bool
  | .b, .b => true
  | .y8, .y8 => true
  | .i k, .i k' => decide (k = k')
  | .s, .s => true
  | .l e, .l e' => Ty.same e e'
  | .p x y, .p x' y' => Ty.same x x' && Ty.same y y'
  | .w x, .w x' => Ty.same x x'
  | .ex, .ex => true
  | .c, .c => true
  | _, _ => false
theorem Ty.same_eq : ∀ (a b : Ty), Ty.same a b = true → a = b
  | .b, x, h => by cases x <;> first | rfl | (cases h; done)
  | .y8, x, h => by cases x <;> first | rfl | (cases h; done)
  | .i k, x, h => by
    cases x with
    | i k' => rw [show k = k' from of_decide_eq_true h]
    | _ => cases h
  | .s, x, h => by cases x <;> first | rfl | (cases h; done)
  | .l e, x, h => by
    cases x with
    | l e' => rw [Ty.same_eq e e' h]
    | _ => cases h
  | .p u v, x, h => by
    cases x with
    | p u' v' =>
      simp only [Ty.same, Bool.and_eq_true] at h
      rw [Ty.same_eq u u' h.1, Ty.same_eq v v' h.2]
    | _ => cases h
  | .w u, x, h => by
    cases x with
    | w u' => rw [Ty.same_eq u u' h]
    | _ => cases h
  | .ex, x, h => by cases x <;> first | rfl | (cases h; done)
  | .c, x, h => by cases x <;> first | rfl | (cases h; done)
theorem Ty.same_self : ∀ (a : Ty), Ty.same a a = true
  | .b => rfl
  | .y8 => rfl
  | .i k => decide_eq_true rfl
  | .s => rfl
  | .l e => Ty.same_self e
  | .p u v => by simp only [Ty.same, Ty.same_self u, Ty.same_self v, Bool.and_self]
  | .w u => Ty.same_self u
  | .ex => rfl
  | .c => rfl
def castL (e : Ty) (e' : Ty) (xs : List e'.den) : Option (List e.den) := if h : Ty.same e' e = true then some (Ty.same_eq _ _ h ▸ xs) else none
def asL (e : Ty) : V → Option (List e.den) | .l e' xs => castL e e' xs | .nil => some [] | _ => none

/-- A typed value out of cells; and the rest. -/
def Ty.comp (t : Ty) (vs : List V) : Option (t.den × List V) := match t with
  | .b => (match vs with | v :: r => (match asB v with | some x => some (x, r) | none => none) | [] => none)
  | .y8 => (match vs with | v :: r => (match asI .u8 v with | some x => some (UInt8.ofNat x.toNat, r) | none => none) | [] => none)
  | .i k => (match vs with | v :: r => (match asI k v with | some x => some (x, r) | none => none) | [] => none)
  | .s => (match vs with | v :: r => (match asS v with | some x => some (x, r) | none => none) | [] => none)
  | .c => (match vs with | v :: r => (match asC v with | some x => some (x, r) | none => none) | [] => none)
  | .l e => (match vs with | v :: r => (match asL e v with | some x => some (x, r) | none => none) | [] => none)
  | .p t1 t2 => (match t1.comp vs with
    | some (x, r) => (match t2.comp r with | some (y, r') => some ((x, y), r') | none => none)
    | none => none)
  | .w t1 => t1.comp vs
  | .ex => (match vs with
    | v1 :: v2 :: v3 :: v4 :: v5 :: v6 :: v7 :: r =>
      (match asI .i64 v1, asI .i64 v2, asI .i64 v3, asS v4, asS v5, asS v6, asL .ex v7 with
      | some x1, some x2, some x3, some x4, some x5, some x6, some x7 => some (Ex.mk x1 x2 x3 x4 x5 x6 x7, r)
      | _, _, _, _, _, _, _ => none)
    | _ => none)

def Ty.comp1 (t : Ty) (vs : List V) : Option t.den :=
  match t.comp vs with
  | some (x, []) => some x
  | _ => none

def V.cells : V → List V
  | .agg vs => vs
  | v => [v]

def isAggV : V → Bool
  | .agg _ => true
  | _ => false
def V.leaf : V → Bool
  | .u | .agg _ | .tup _ | .g .. => false
  | _ => true
def leafs : List V → Bool
  | [] => true
  | v :: r => v.leaf && leafs r

/-- A row as the list that it is. -/
def imm1 (h : List Ob) : V → V
  | .row id => match nth h id with
    | some (.row e xs) => .l e xs
    | some (.fro e xs) => .l e xs
    | _ => .u
  | v => v

/-- .. and from then on it is only read. -/
def fro1 (h : List Ob) : V → List Ob
  | .row id => match nth h id with
    | some (.row e xs) => setn h id (.fro e xs)
    | _ => h
  | _ => h

def froL (h : List Ob) : List V → List Ob
  | [] => h
  | v :: r => froL (fro1 h v) r

def rd (e : Ty) (xs : List e.den) (i : Int) : e.den := xs.getD i.toNat e.dflt
/-- A byte of a text. -/
def bt (a : ByteArray) (i : Int) : UInt8 := a.data.toList.getD i.toNat 0
def inb (i : Int) (n : Nat) : Bool := decide (0 ≤ i) && decide (i < n)
def inr (l h : Int) (n : Nat) : Bool := decide (0 ≤ l) && (decide (l ≤ h) && decide (h ≤ n))
def ext {α : Type} (l h : Int) (xs : List α) : List α := (xs.take h.toNat).drop l.toNat

/-! ### types of the program -/

/-- May values of a struct be compared, field by field? -/
def okCmp (P : Program) (t : TypeId) : Bool :=
  match P.underlying t with
  | some (.struct fs) => !P.stoodInHeld t && (!P.eqGuardType P.depth t && fs.toList.all fun f => !decide (f.name = "_"))
  | _ => false
/-- A function that does nothing but make another one, which has captured its arguments. -/
def MkSnd (P : Program) (fid g : Nat) : Prop :=
  (∀ (args : Array Value) (w : World), (callFunc fid args).run P w = .ok (.enter fid args) w) ∧
  ∀ (vals : List Value) (w : World), Calls P fid vals.toArray w fun e w' => e = .returned (.func (.func g) #[] vals.toArray) ∧ w' = w
structure Cfg where
  P : Program
  ex : TypeId
  gl : List Nat := []   -- variables of the program that are ints, and stay so
  cmp : List TypeId := []   -- structs that are compared
  cmpOk : cmp.all (okCmp P) = true := by rfl
  own2 : List (Nat × Nat) := []   -- slices whose elements are slices of their own: their types, the elements'
  mv : List TypeId := []   -- slices that are cut from behind, and not looked at any more
  mks : List (Nat × Nat) := []   -- functions that make functions
  mkOk : ∀ p, p ∈ mks → MkSnd P p.1 p.2 := by intro p hp; cases hp

section
variable (C : Cfg)

def Cfg.size (t : TypeId) : Option Nat := (C.P.info? t).map (·.size)
def Cfg.isAgg (t : TypeId) : Option Bool := (C.P.underlying t).map fun | .struct _ | .array _ _ => true | _ => false
def Cfg.bytes (t : TypeId) : Option Nat := (C.P.info? t).map (·.bytes)

/-- A constant. -/
def ofv1 : Value → V
  | .bool b => .b b
  | .int .u8 n => (match decide (0 ≤ n) && decide (n < 256) with | true => .i .u8 n | false => .u)
  | .int k n => .i k n
  | .string s => .s s
  | .slice none 0 0 => .nil
  | .pointer none => .np
  | _ => .u
def ofv : Value → V
  | .agg cs => .agg (cs.toList.map ofv1)
  | v => ofv1 v

def Cfg.zero (t : TypeId) : Option (List V) := ((C.P.info? t).bind (·.zero)).map fun z => z.cells.toList.map ofv1

/-- The plain type of a type of the program. -/
def pairs : List Ty → Option Ty
  | [] => none
  | [t] => some t
  | t :: r => (pairs r).map (.p t)
def seqO {α : Type} : List (Option α) → Option (List α)
  | [] => some []
  | some x :: r => (seqO r).map (x :: ·)
  | none :: _ => none
def Cfg.ty : Nat → TypeId → Option Ty
  | 0, _ => none
  | f + 1, t =>
    bif Nat.beq t C.ex then some .ex else
    match C.P.underlying t with
    | some .bool => some .b
    | some (.int .u8) => some .y8
    | some (.int k) => some (.i k)
    | some .string => some .s
    | some (.complex .f64) => some .c
    | some (.slice e) => (Cfg.ty f e).map .l
    | some (.struct fs) => match seqO (fs.toList.map fun x => Cfg.ty f x.type) with
      | some [t] => some (.w t)
      | some ts => pairs ts
      | none => none
    | _ => none
def Cfg.tyOf (t : TypeId) : Option Ty := match C.ty 12 t with
  | some τ => (match C.size t with | some n => (bif Nat.beq τ.n n then some τ else none) | none => none)
  | none => none
def Cfg.elem (t : TypeId) : Option TypeId := match C.P.underlying t with | some (.slice e) => some e | _ => none
def Cfg.fld (t : TypeId) (f : Nat) : Option Field := match C.P.underlying t with | some (.struct fs) => nth fs.toList f | _ => none

def opnd (env : Env) : Operand → V
  | .tmp t => look t env
  | .const v => ofv v
  | .func f => .fn (.func f) []
  | .global _ => .u

end

/-! ### operations -/

/-- What an operation comes to: a value and the memory behind it; under a test; or out of a call. -/
inductive Out : Type 1 where
  | no
  | val (v : V) (h : List Ob)
  | chk (c : Bool) (v : V) (h : List Ob)
  | call (W : Type) (d : W) (o : Option W) (v : W → V) (h : W → List Ob)

section
variable (C : Cfg)

def binI (h : List Ob) (op : BinOp) (k : IntKind) (a b : Int) : Out :=
  match op with
  | .add => .val (.i k (k.wrap (a + b))) h
  | .sub => .val (.i k (k.wrap (a - b))) h
  | .mul => .val (.i k (k.wrap (a * b))) h
  | .quo => .chk (!decide (b = 0)) (.i k (k.wrap (a.tdiv b))) h
  | .rem => (match decide (k = .u8) with | true => .no | false => .chk (!decide (b = 0)) (.i k (a.tmod b)) h)
  | .eql => .val (.b (decide (a = b))) h
  | .neq => .val (.b (!decide (a = b))) h
  | .lss => .val (.b (decide (a < b))) h
  | .leq => .val (.b (decide (a ≤ b))) h
  | .gtr => .val (.b (decide (b < a))) h
  | .geq => .val (.b (decide (b ≤ a))) h
  | .and => .val (.i k (k.wrap (BitVec.ofInt k.bits a &&& BitVec.ofInt k.bits b).toNat)) h
  | .or => .val (.i k (k.wrap (BitVec.ofInt k.bits a ||| BitVec.ofInt k.bits b).toNat)) h
  | .xor => .val (.i k (k.wrap (BitVec.ofInt k.bits a ^^^ BitVec.ofInt k.bits b).toNat)) h
  | _ => .no

def shI (h : List Ob) (op : BinOp) (k : IntKind) (a b : Int) : Out :=
  match op with
  | .shl => .chk (!decide (b < 0)) (.i k (k.wrap (a * 2 ^ (min b.toNat k.bits)))) h
  | .shr => (match decide (k = .u8) with | true => .no | false => .chk (!decide (b < 0)) (.i k (a.fdiv (2 ^ (min b.toNat k.bits)))) h)
  | _ => .no

def strLt (a b : ByteArray) : Bool := Op.bytesLess a.toList b.toList

def binS (h : List Ob) (op : BinOp) (a b : ByteArray) : Out :=
  match op with
  | .add => .chk (decide (a.size + b.size ≤ 9223372036854775807)) (.s (a ++ b)) h
  | .eql => .val (.b (decide (a = b))) h
  | .neq => .val (.b (!decide (a = b))) h
  | .lss => .val (.b (strLt a b)) h
  | .leq => .val (.b (strLt a b || decide (a = b))) h
  | .gtr => .val (.b (!(strLt a b || decide (a = b)))) h
  | .geq => .val (.b (!strLt a b)) h
  | _ => .no

/-- Are two complex numbers one? -/
def cEq (a b c d : Nat) : Bool := (FloatKind.f64.format.order a c == some .eq) && (FloatKind.f64.format.order b d == some .eq)
/-- Two structs' fields, one by one. -/
def eqFs (xs ys : List V) : List Field → Option Bool
  | [] => some true
  | f :: r => (match C.P.underlying f.type, C.isAgg f.type, nth xs f.offset, nth ys f.offset with
    | some (.int _), some false, some (.i k a), some (.i k' b) => (match decide (k = k'), eqFs xs ys r with | true, some x => some (decide (a = b) && x) | _, _ => none)
    | some .string, some false, some (.s a), some (.s b) => (match eqFs xs ys r with | some x => some (decide (a = b) && x) | none => none)
    | some .bool, some false, some (.b a), some (.b b) => (match eqFs xs ys r with | some x => some (decide (a = b) && x) | none => none)
    | _, _, _, _ => none)
def eqAgg (t : TypeId) (xs ys : List V) : Option Bool :=
  match C.P.underlying t, C.cmp.any (fun u => Nat.beq u t) with
  | some (.struct fs), true => eqFs C xs ys fs.toList
  | _, _ => none
def binV (h : List Ob) (op : BinOp) (t : TypeId) (x y : V) : Out :=
  match x, y with
  | .i k a, .i k' b =>
    match op with
    | .shl | .shr => shI h op k a b
    | _ => (match decide (k = k') with | true => binI h op k a b | false => .no)
  | .s a, .s b => binS h op a b
  | .b a, .b b =>
    match op, C.P.underlying t with
    | .eql, some .bool => .val (.b (decide (a = b))) h
    | .neq, some .bool => .val (.b (!decide (a = b))) h
    | _, _ => .no
  | .c p q, .c p' q' =>
    match op with
    | .eql => .val (.b (cEq p q p' q')) h
    | .neq => .val (.b (!cEq p q p' q')) h
    | _ => .no
  | .ptr _ _, .np =>
    match op, C.P.underlying t with
    | .eql, some (.pointer _) => .val (.b false) h
    | .neq, some (.pointer _) => .val (.b true) h
    | _, _ => .no
  | .agg xs, .agg ys =>
    match op, eqAgg C t xs ys with
    | .eql, some r => .val (.b r) h
    | .neq, some r => .val (.b (!r)) h
    | _, _ => .no
  | _, _ => .no

def unV (h : List Ob) (op : UnOp) (x : V) : Out :=
  match op, x with
  | .not, .b x => .val (.b (!x)) h
  | .neg, .i k n => .val (.i k (k.wrap (0 - n))) h
  | _, _ => .no

def grp (h : List Ob) (agg : Bool) (vs : Option (List V)) : Out :=
  match vs with
  | some vs => (match agg with
    | true => .val (.agg vs) h
    | false => match vs with | [v] => .val v h | _ => .no)
  | none => .no

/-- .. under a test. -/
def Out.under (c : Bool) : Out → Out
  | .val v h => .chk c v h
  | .chk d v h => .chk (c && d) v h
  | _ => .no

def loadV (h : List Ob) (t : TypeId) (a : V) : Out :=
  match C.size t, C.isAgg t with
  | some n, some g =>
    match a with
    | .ptr id off => (match nth h id with
      | some (.box vs) => grp h g (cut off n vs)
      | _ => .no)
    | .pim vs => grp h g (cut 0 n vs)
    | .pel e id i off => (match asL e (imm1 h (.row id)) with
      | some xs => (grp h g (cut off n (e.leaves (rd e xs i)))).under (inb i xs.length)
      | none => .no)
    | _ => .no
  | _, _ => .no

def storeV (h : List Ob) (t : TypeId) (a v : V) : Out :=
  match C.size t with
  | some n =>
    let us := v.cells
    match Nat.beq us.length n && leafs us with
    | true =>
      match a with
      | .ptr id off => (match nth h id with
        | some (.box vs) => (match Nat.ble (off + n) vs.length with | true => .val .u (setn h id (.box (vs.take off ++ us ++ vs.drop (off + n)))) | false => .no)
        | _ => .no)
      | .pel e id i off => (match nth (froL h us) id with
        | some (.row e' xs) => (match castL e e' xs with
          | some xs =>
            (match e.comp1 ((e.leaves (rd e xs i)).take off ++ us.map (imm1 h) ++ (e.leaves (rd e xs i)).drop (off + n)) with
             | some x => (match Nat.ble (off + n) e.n with | true => .chk (inb i xs.length) .u (setn (froL h us) id (.row e (xs.set i.toNat x))) | false => .no)
             | none => .no)
          | none => .no)
        | _ => .no)
      | _ => .no
    | false => .no
  | none => .no

def offV (h : List Ob) (a : V) (d : Nat) : Out :=
  match a with
  | .ptr id off => .val (.ptr id (off + d)) h
  | .pim vs => .val (.pim (vs.drop d)) h
  | .pel e id i off => .val (.pel e id i (off + d)) h
  | _ => .no

def idxAddr (h : List Ob) (t : TypeId) (x i : V) : Out :=
  match C.elem t, i with
  | some te, .i _ n => (match C.tyOf te with
    | some τ => (match asL τ (imm1 h x) with
      | some xs => .chk (inb n xs.length) (match x with | .row id => .pel τ id n 0 | _ => .pim (τ.leaves (rd τ xs n))) h
      | none => .no)
    | none => .no)
  | _, _ => .no

def sliceI (d : Int) : Option V → Option Int
  | none => some d
  | some (.i _ n) => some n
  | _ => none

def sliceV (h : List Ob) (t : TypeId) (x : V) (lo hi : Option V) : Out :=
  match x with
  | .s a =>
    match C.P.underlying t, sliceI 0 lo, sliceI a.size hi with
    | some .string, some l, some r => .chk (inr l r a.size) (.s (a.extract l.toNat r.toNat)) h
    | _, _, _ => .no
  | x => (match C.elem t with
    | some te => (match C.tyOf te with
      | some τ => (match asL τ (imm1 h x) with
        | some xs => (match sliceI 0 lo, sliceI xs.length hi with
          | some l, some r => .chk (inr l r xs.length) (.l τ (ext l r xs)) (fro1 h x)
          | _, _ => .no)
        | none => .no)
      | none => .no)
    | none => .no)

def lenV (h : List Ob) (t : TypeId) (x : V) : Out :=
  match C.P.underlying t, imm1 h x with
  | some .string, .s a => .val (.i .i64 a.size) h
  | some (.slice _), .l _ xs => .val (.i .i64 xs.length) h
  | some (.slice _), .nil => .val (.i .i64 0) h
  | _, _ => .no

/-- What may be put behind a row: a list of elements. -/
def tailV (e : Ty) (h : List Ob) : V → Option (List e.den)
  | .s a => (match e with | .y8 => some a.data.toList | _ => none)
  | v => asL e (imm1 h v)

def appendV (h : List Ob) (ts tx : TypeId) (s x : V) : Out :=
  match C.elem ts, (match C.P.underlying tx with | some (.slice _) => true | some .string => true | _ => false), C.zero (match C.elem ts with | some te => te | none => 0) with
  | some te, true, some z =>
    match C.tyOf te, C.bytes te with
    | some e, some (by_ + 1) => (match (bif Nat.beq z.length e.n then tailV e h x else none) with
      | some ys => (match s with
        | .nil => .chk (decide (ys.length * (by_ + 1) ≤ 140737488355328)) (.row h.length) (h ++ [.row e ys])
        | .row id => (match nth h id with
          | some (.row e' xs) => (match castL e e' xs with
            | some xs => .chk (decide ((xs.length + ys.length) * (by_ + 1) ≤ 140737488355328)) (.row h.length) (setn h id .dead ++ [.row e (xs ++ ys)])
            | none => .no)
          | _ => .no)
        | _ => .no)
      | none => .no)
    | _, _ => .no
  | _, _, _ => .no

/-- Parts laid into cells. -/
def lay (place : Nat → Option (Nat × Nat)) (cells : List V) : List (Nat × V) → Option (List V)
  | [] => some cells
  | (i, v) :: r => match place i with
    | some (off, n) => (match Nat.beq v.cells.length n && (leafs v.cells && Nat.ble (off + n) cells.length) with
      | true => lay place (cells.take off ++ v.cells ++ cells.drop (off + n)) r
      | false => none)
    | none => none

def buildV (h : List Ob) (t : TypeId) (parts : List (Nat × V)) : Out :=
  match C.zero t, C.P.underlying t with
  | some z, some (.struct fs) =>
    (match lay (fun i => match nth fs.toList i with | some f => (match C.size f.type with | some n => some (f.offset, n) | none => none) | none => none) z parts with
     | some cs => (match fs.toList.all fun f => (C.size f.type).isSome with | true => .val (.agg cs) h | false => .no)
     | none => .no)
  | _, _ => .no

def repL {α : Type} (l : List α) : Nat → List α
  | 0 => []
  | n + 1 => l ++ repL l n

def compN (e : Ty) : Nat → List V → Option (List e.den)
  | 0, [] => some []
  | 0, _ => none
  | n + 1, vs => match e.comp vs with
    | some (x, r) => (match compN e n r with | some xs => some (x :: xs) | none => none)
    | none => none

def buildSliceV (h : List Ob) (t : TypeId) (len : Nat) (parts : List (Nat × V)) : Out :=
  match C.elem t with
  | some te =>
    match C.tyOf te, C.zero te, C.size te with
    | some e, some z, some n =>
      (match lay (fun i => some (i * n, n)) (repL z len) parts with
       | some cs => (match compN e len (cs.map (imm1 h)), Nat.ble (len * n) 16777216 && (Nat.beq z.length n && leafs cs) with
         | some xs, true => .val (.row (froL h cs).length) (froL h cs ++ [.row e xs])
         | _, _ => .no)
       | none => .no)
    | _, _, _ => .no
  | none => .no

def V.isRow : V → Bool
  | .row _ => true
  | _ => false
/-- A row that is built, and from then on only read: no object of the run's own. -/
def listV (h : List Ob) (t : TypeId) (len : Nat) (parts : List (Nat × V)) : Out :=
  match C.elem t with
  | some te =>
    match C.tyOf te, C.zero te, C.size te with
    | some e, some z, some n =>
      (match lay (fun i => some (i * n, n)) (repL z len) parts with
       | some cs => (match compN e len cs, Nat.ble (len * n) 16777216 && (Nat.beq z.length n && (leafs cs && cs.all fun v => !v.isRow)) with
         | some xs, true => .val (.l e xs) h
         | _, _ => .no)
       | none => .no)
    | _, _, _ => .no
  | none => .no

def makeSliceV (h : List Ob) (t : TypeId) (len cap : V) : Out :=
  match C.elem t, len, cap with
  | some te, .i _ n, .i _ c =>
    match C.tyOf te, C.zero te, C.bytes te with
    | some e, some z, some by_ => (match e.comp1 z with
      | some x => .chk (decide (0 ≤ n) && (decide (n ≤ c) && (decide (c * by_ ≤ 140737488355328) && decide (c ≤ 140737488355328)))) (.row h.length) (h ++ [.row e (List.replicate n.toNat x)])
      | none => .no)
    | _, _, _ => .no
  | _, _, _ => .no

def convV (h : List Ob) (src dst : TypeId) (x : V) : Out :=
  match C.P.underlying dst, x with
  | some (.int k), .i _ n => .val (.i k (k.wrap n)) h
  | some (.float .f64), .i _ n => .val (.f (FloatKind.f64.nearest n)) h
  | some .string, .s a => .val (.s a) h
  | some .string, v => (match C.elem src with
    | some te => (match C.P.underlying te, asL .y8 (imm1 h v) with
      | some (.int .u8), some xs => .val (.s ⟨xs.toArray⟩) h
      | _, _ => .no)
    | none => .no)
  | some (.slice te), .s a => (match C.P.underlying te with
    | some (.int .u8) => .val (.row h.length) (h ++ [.row .y8 a.data.toList])
    | _ => .no)
  | _, _ => .no

def pickV (x : Bool) : V → V → V
  | .b p, .b q => .b (bif x then p else q)
  | .i k m, .i k' n => (match decide (k = k') with | true => .i k (bif x then m else n) | false => .u)
  | .s p, .s q => .s (bif x then p else q)
  | .u, v => (match x with | true => .u | false => v)
  | v, .u => (match x with | true => v | false => .u)
  | _, _ => .u

/-- Told by a guard that is met. -/
def ung (gs : List (Nat × Bool)) : V → V
  | .g d want v => (match gs.any fun p => Nat.beq p.1 d && (p.2 == want) with | true => v | false => .u)
  | v => v

def withG (c : Operand) (want : Bool) (gs : List (Nat × Bool)) : List (Nat × Bool) :=
  match c with
  | .tmp t => (t, want) :: gs
  | _ => gs

/-- The greater, or the less. -/
def minV (h : List Ob) (mx : Bool) (x y : V) : Out :=
  match x, y with
  | .i k a, .i k' b => (match decide (k = k') with | true => .val (.i k (bif mx then bif decide (a < b) then b else a else bif decide (b < a) then b else a)) h | false => .no)
  | _, _ => .no

/-- Two floats as one number. -/
def cplV (h : List Ob) (x y : V) : Out :=
  match x, y with
  | .f a, .f b => .val (.c a b) h
  | _, _ => .no

/-- Maps of texts to ints. -/
def Cfg.mapT (t : TypeId) : Bool := match C.P.underlying t with
  | some (.map k e) => (match C.P.underlying k, C.P.underlying e, (C.P.info? e).bind (·.zero) with | some .string, some (.int .i64), some (.int .i64 0) => true | _, _, _ => false)
  | _ => false
def mpGet (k : ByteArray) : List (ByteArray × Int) → Option Int
  | [] => none
  | (j, n) :: r => bif decide (k = j) then some n else mpGet k r
def mpPut (k : ByteArray) (n : Int) : List (ByteArray × Int) → List (ByteArray × Int)
  | [] => [(k, n)]
  | (j, m) :: r => bif decide (k = j) then (k, n) :: r else (j, m) :: mpPut k n r
def lookV (h : List Ob) (t : TypeId) (x k : V) (ok : Bool) : Out :=
  match x, k with
  | .row id, .s k => (match nth h id, C.mapT t with
    | some (.mp es), true => .val (match ok with
      | true => .tup [.i .i64 (match mpGet k es with | some n => n | none => 0), .b (match mpGet k es with | some _ => true | none => false)]
      | false => .i .i64 (match mpGet k es with | some n => n | none => 0)) h
    | _, _ => .no)
  | _, _ => .no
def mapUpV (h : List Ob) (t : TypeId) (x k v : V) : Out :=
  match x, k, v with
  | .row id, .s k, .i .i64 n => (match nth h id, C.mapT t with
    | some (.mp es), true => .val .u (setn h id (.mp (mpPut k n es)))
    | _, _ => .no)
  | _, _, _ => .no

/-- An operation that is no call: what it makes, and the memory behind it. gs: the guards that are met. -/
def evalOp (op : Op) (env : Env) (h : List Ob) (gs : List (Nat × Bool)) : Out :=
  let o (x : Operand) : V := ung gs (opnd env x)
  match op with
  | .move x | .assign x => .val (o x) h
  | .pick c a b => (match o c with
    | .b x => .val (pickV x (ung (withG c true gs) (opnd env a)) (ung (withG c false gs) (opnd env b))) h
    | _ => .no)
  | .alloc t => (match C.zero t with | some z => .val (.ptr h.length 0) (h ++ [.box z]) | none => .no)
  | .box _ x => (match leafs (o x).cells with | true => .val (.ptr h.length 0) (h ++ [.box (o x).cells]) | false => .no)
  | .build t parts => buildV C h t (parts.toList.map fun p => (p.1, o p.2))
  | .buildSlice t n parts => buildSliceV C h t n (parts.toList.map fun p => (p.1, o p.2))
  | .load t a => loadV C h t (o a)
  | .store t a x => storeV C h t (o a) (o x)
  | .nilCheck x => (match o x with | .ptr id off => .val (.ptr id off) h | .pim vs => .val (.pim vs) h | .pel e id i off => .val (.pel e id i off) h | _ => .no)
  | .binOp op t x y _ => binV C h op t (o x) (o y)
  | .unOp op _ x => unV h op (o x)
  | .convert src dst x => (match C.P.underlying src with | some _ => convV C h src dst (o x) | none => .no)
  | .makeFunc f first cs => (match first.toList with | [] => .val (.fn f (cs.toList.map o)) h | _ => .no)
  | .makeSlice t l c => makeSliceV C h t (o l) (o c)
  | .slice t x lo hi none => sliceV C h t (o x) (lo.map o) (hi.map o)
  | .fieldAddr t x f => (match C.fld t f with | some f => (match C.size f.type with | some (_ + 1) => offV h (o x) f.offset | _ => .no) | none => .no)
  | .field t x f => (match C.fld t f, o x with
    | some f, .agg vs => (match C.size f.type, C.isAgg f.type with
      | some n, some g => grp h g (cut f.offset n vs)
      | _, _ => .no)
    | _, _ => .no)
  | .indexAddr t x i => idxAddr C h t (o x) (o i)
  | .index t x i => (match C.P.underlying t, o x, o i with
    | some .string, .s a, .i _ n => .chk (inb n a.size) (.i .u8 (bt a n).toNat) h
    | _, _, _ => .no)
  | .makeMap t none => (match C.mapT t with | true => .val (.row h.length) (h ++ [.mp []]) | false => .no)
  | .lookup t x i ok => lookV C h t (o x) (o i) ok
  | .mapUpdate t m k x => mapUpV C h t (o m) (o k) (o x)
  | .extract x n => (match o x with | .tup vs => (match nth vs n with | some v => .val v h | none => .no) | _ => .no)
  | .call { callee := .builtin .len, args, argTypes } => (match args.toList, argTypes.toList with | [x], [t] => lenV C h t (o x) | _, _ => .no)
  | .call { callee := .builtin .min, args, argTypes := _ } => (match args.toList with | [x, y] => minV h false (o x) (o y) | _ => .no)
  | .call { callee := .builtin .max, args, argTypes := _ } => (match args.toList with | [x, y] => minV h true (o x) (o y) | _ => .no)
  | .call { callee := .builtin .complex, args, argTypes := _ } => (match args.toList with | [x, y] => cplV h (o x) (o y) | _ => .no)
  | .call { callee := .builtin .append, args, argTypes } => (match args.toList, argTypes.toList with | [x, y], [t, u] => appendV C h t u (o x) (o y) | _, _ => .no)
  | _ => .no

/-- Does it leave memory as it is, whatever it comes to? -/
def calm : Op → Bool
  | .move _ | .assign _ | .pick .. | .build .. | .load .. | .nilCheck _ | .binOp .. | .unOp .. | .makeFunc .. | .fieldAddr .. | .field .. | .indexAddr .. | .index .. | .extract .. => true
  | .call { callee := .builtin .len, .. } => true
  | .call { callee := .builtin .min, .. } | .call { callee := .builtin .max, .. } => true
  | .call { callee := .builtin .complex, .. } => true
  | .slice t _ _ _ _ => false
  | .convert .. => false
  | _ => false
end

/-! ### shapes of states, functions, loops -/

/-- What stands in a box: a typed value, or a row of its own. -/
inductive Lf where
  | t (τ : Ty)
  | row (e : Ty)

/-- The shape of a value: typed; a row that is handed over; a row that is handed back; a variable, likewise; a variable that is only read; a function whose captured values are told by the next shapes. -/
inductive Sh where
  | t (τ : Ty)
  | row (e : Ty)
  | mrow (e : Ty)
  | ptr (fs : List Lf)
  | cptr (τs : List Ty)
  | fn (f : Fn) (k : Nat)
  | mp   -- a map, in a loop's state
  | rw (e : Ty)   -- a row of rows of its own

@[reducible] def tysDen : List Ty → Type
  | [] => Unit
  | t :: r => t.den × tysDen r
@[reducible] def Lf.den : Lf → Type
  | .t τ => τ.den
  | .row e => List e.den
@[reducible] def lfsDen : List Lf → Type
  | [] => Unit
  | f :: r => f.den × lfsDen r
@[reducible] def Sh.den : Sh → Type
  | .t τ => τ.den
  | .row e => List e.den
  | .mrow e => List e.den
  | .ptr fs => lfsDen fs
  | .cptr τs => tysDen τs
  | .fn _ _ => Unit
  | .mp => List (ByteArray × Int)
  | .rw e => List (List e.den)
@[reducible] def shsDen : List Sh → Type
  | [] => Unit
  | s :: r => s.den × shsDen r

def tysDflt : (ts : List Ty) → tysDen ts
  | [] => ()
  | t :: r => (t.dflt, tysDflt r)
def lfsDflt : (fs : List Lf) → lfsDen fs
  | [] => ()
  | .t τ :: r => (τ.dflt, lfsDflt r)
  | .row _ :: r => ([], lfsDflt r)
def Sh.dflt : (sh : Sh) → sh.den
  | .t τ => τ.dflt
  | .row _ => []
  | .mrow _ => []
  | .ptr fs => lfsDflt fs
  | .cptr τs => tysDflt τs
  | .fn _ _ => ()
  | .mp => []
  | .rw _ => []
def shsDflt : (shs : List Sh) → shsDen shs
  | [] => ()
  | s :: r => (s.dflt, shsDflt r)

def tysLeaves : (ts : List Ty) → tysDen ts → List V
  | [], _ => []
  | t :: r, x => t.leaves x.1 ++ tysLeaves r x.2
def tysComp : (ts : List Ty) → List V → Option (tysDen ts)
  | [], [] => some ()
  | [], _ => none
  | t :: r, vs => match t.comp vs with
    | some (x, q) => (match tysComp r q with | some y => some (x, y) | none => none)
    | none => none

/-- A box's cells, and the rows in it, from number j on. -/
def lfsMk (j : Nat) : (fs : List Lf) → lfsDen fs → List V × List Ob
  | [], _ => ([], [])
  | .t τ :: r, x => let q := lfsMk j r x.2; (τ.leaves x.1 ++ q.1, q.2)
  | .row e :: r, x => let q := lfsMk (j + 1) r x.2; (.row j :: q.1, .row e x.1 :: q.2)

/-- Values by their shapes: with the objects that are their own from number j on. -/
def shsMk (j : Nat) : (shs : List Sh) → shsDen shs → List V × List Ob
  | [], _ => ([], [])
  | .t τ :: r, x => let q := shsMk j r x.2; (τ.val x.1 :: q.1, q.2)
  | .row e :: r, x => let q := shsMk (j + 1) r x.2; (.row j :: q.1, .row e x.1 :: q.2)
  | .mrow e :: r, x => let q := shsMk (j + 1) r x.2; (.row j :: q.1, .row e x.1 :: q.2)
  | .mp :: r, x => let q := shsMk (j + 1) r x.2; (.row j :: q.1, .mp x.1 :: q.2)
  | .rw e :: r, x => let q := shsMk (j + 1) r x.2; (.row j :: q.1, .rw e x.1 none :: q.2)
  | .ptr fs :: r, x => let a := lfsMk (j + 1) fs x.1; let q := shsMk (j + 1 + a.2.length) r x.2; (.ptr j 0 :: q.1, .box a.1 :: (a.2 ++ q.2))
  | .cptr τs :: r, x => let q := shsMk j r x.2; (.pim (tysLeaves τs x.1) :: q.1, q.2)
  | .fn f k :: r, x => let q := shsMk j r x.2; (.fn f (q.1.take k) :: q.1.drop k, q.2)

/-- The rows of cells that are rows still. -/
def rowsIn (h : List Ob) : List V → List Nat
  | [] => []
  | .row id :: r => (match nth h id with | some (.row _ _) => id :: rowsIn h r | _ => rowsIn h r)
  | _ :: r => rowsIn h r

def rowOf (h : List Ob) (e : Ty) : V → Option (List e.den × Option Nat)
  | .row id => (match nth h id with | some (.row e' xs) => (match castL e e' xs with | some xs => some (xs, some id) | none => none) | _ => none)
  | .nil => some ([], none)
  | _ => none

/-- A box read by its shape: what it is; the rows in it; the rows that are only read. -/
def lfsRd (h : List Ob) : (fs : List Lf) → List V → Option (lfsDen fs × List (Option Nat) × List Nat)
  | [], [] => some ((), [], [])
  | [], _ => none
  | .t τ :: r, vs => match Nat.ble τ.n vs.length, τ.comp1 ((vs.take τ.n).map (imm1 h)) with
    | true, some x => (match lfsRd h r (vs.drop τ.n) with | some (y, o, b) => some ((x, y), o, rowsIn h (vs.take τ.n) ++ b) | none => none)
    | _, _ => none
  | .row e :: r, v :: vs => match rowOf h e v with
    | some (xs, i) => (match lfsRd h r vs with | some (y, o, b) => some ((xs, y), i :: o, b) | none => none)
    | none => none
  | .row _ :: _, [] => none

/-- Values read by their shapes: what they are; the objects that are their own, in order; those that are only read. -/
def shsRd (h : List Ob) : (shs : List Sh) → List V → Option (shsDen shs × List (Option Nat) × List Nat)
  | [], [] => some ((), [], [])
  | [], _ :: _ => none
  | _ :: _, [] => none
  | .t τ :: r, v :: vs => (match τ.comp1 (v.cells.map (imm1 h)), decide (τ.agg = isAggV v) with
    | some x, true => (match shsRd h r vs with | some (y, o, b) => some ((x, y), o, rowsIn h v.cells ++ b) | none => none)
    | _, _ => none)
  | .row e :: r, v :: vs => (match rowOf h e v with
    | some (xs, i) => (match shsRd h r vs with | some (y, o, b) => some ((xs, y), i :: o, b) | none => none)
    | none => none)
  | .mrow e :: r, v :: vs => (match rowOf h e v with
    | some (xs, some i) => (match shsRd h r vs with | some (y, o, b) => some ((xs, y), some i :: o, b) | none => none)
    | _ => none)
  | .mp :: r, v :: vs => (match v with
    | .row id => (match nth h id with
      | some (.mp es) => (match shsRd h r vs with | some (y, o, b) => some ((es, y), some id :: o, b) | none => none)
      | _ => none)
    | _ => none)
  | .rw e :: r, v :: vs => (match v with
    | .row id => (match nth h id with
      | some (.rw e' xss none) => (match castL (.l e) (.l e') xss with
        | some xss => (match shsRd h r vs with | some (y, o, b) => some ((xss, y), some id :: o, b) | none => none)
        | none => none)
      | _ => none)
    | _ => none)
  | .ptr fs :: r, v :: vs => (match v with
    | .ptr id 0 => (match nth h id with
      | some (.box us) => (match lfsRd h fs us with
        | some (x, o, b) => (match shsRd h r vs with | some (y, o', b') => some ((x, y), some id :: (o ++ o'), b ++ b') | none => none)
        | none => none)
      | _ => none)
    | _ => none)
  | .cptr τs :: r, v :: vs => (match v with
    | .pim us => (match tysComp τs us with
      | some x => (match shsRd h r vs with | some (y, o, b) => some ((x, y), o, b) | none => none)
      | none => none)
    | .ptr id off => (match nth h id with
      | some (.box us) => (match tysComp τs ((us.drop off).map (imm1 h)) with
        | some x => (match shsRd h r vs with | some (y, o, b) => some ((x, y), o, id :: (rowsIn h us ++ b)) | none => none)
        | none => none)
      | _ => none)
    | _ => none)
  | .fn f k :: r, v :: vs => (match v with
    | .fn f' cs => (match decide (f' = f), Nat.beq cs.length k with
      | true, true => (match shsRd h r (cs ++ vs) with | some (y, o, b) => some (((), y), o, b) | none => none)
      | _, _ => none)
    | _ => none)

def nodupB : List Nat → Bool
  | [] => true
  | x :: r => (r.all fun y => !Nat.beq x y) && nodupB r

def somes : List (Option Nat) → List Nat
  | [] => []
  | some x :: r => x :: somes r
  | none :: r => somes r

/-- Are the objects all different, and none of them one that is only read? -/
def apartB (o : List (Option Nat)) (b : List Nat) : Bool := nodupB (somes o) && (somes o).all fun x => b.all fun y => !Nat.beq x y

/-- What a function hands back of its arguments. -/
def shsUpd : List Sh → List Sh
  | [] => []
  | .mrow e :: r => .mrow e :: shsUpd r
  | .ptr fs :: r => .ptr fs :: shsUpd r
  | _ :: r => shsUpd r
/-- .. where it stands behind the call. -/
def shsUpdV : List Sh → List V → List V
  | .mrow _ :: r, v :: vs => v :: shsUpdV r vs
  | .ptr _ :: r, v :: vs => v :: shsUpdV r vs
  | .fn _ _ :: r, .fn _ cs :: vs => shsUpdV r (cs ++ vs)
  | _ :: r, _ :: vs => shsUpdV r vs
  | _, _ => []

/-- The arguments that must stay in their slots (what a function has captured has none). -/
def kpG : Nat → Nat → List Sh → List Nat
  | _, _, [] => []
  | sk + 1, i, .fn _ k :: r => kpG (k + sk) i r
  | sk + 1, i, _ :: r => kpG sk i r
  | 0, i, .fn _ k :: r => i :: kpG k (i + 1) r
  | 0, i, .mrow _ :: r => i :: kpG 0 (i + 1) r
  | 0, i, .ptr _ :: r => i :: kpG 0 (i + 1) r
  | 0, i, _ :: r => kpG 0 (i + 1) r
def kpOf (i : Nat) (shs : List Sh) : List Nat := kpG 0 i shs
/-- Are functions where functions must be? -/
def fnOk : List Sh → List V → Bool
  | [], _ => true
  | .fn _ k :: r, .fn _ cs :: vs => Nat.beq cs.length k && fnOk r (cs ++ vs)
  | .fn _ _ :: _, _ => false
  | _ :: r, _ :: vs => fnOk r vs
  | _ :: _, [] => true
def Sh.noFn : Sh → Bool
  | .fn _ _ => false
  | _ => true

/-- A type without slices. -/
def Ty.flat : Ty → Bool
  | .l _ | .ex => false
  | .p x y => x.flat && y.flat
  | .w x => x.flat
  | _ => true
def Sh.flat : Sh → Bool
  | .t τ => τ.flat
  | _ => false
/-- Has it no object of its own? -/
def Sh.bare : Sh → Bool
  | .t _ | .cptr _ | .fn _ _ => true
  | _ => false

structure Spec where
  ins : List Sh
  outs : List Sh
  F : shsDen ins → Option (shsDen outs × shsDen (shsUpd ins))
def Spec.dflt (sp : Spec) : shsDen sp.outs × shsDen (shsUpd sp.ins) := (shsDflt sp.outs, shsDflt (shsUpd sp.ins))

inductive PX where
  | nx | ex (id : Nat) | gt (l : Nat) | rt
  deriving DecidableEq

abbrev Slots := List (Nat × Sh)

/-- The slots of a state; numbers from a million on stand for what a function in a slot has captured: no slots. -/
def slN : Slots → List Nat
  | [] => []
  | (t, _) :: r => bif Nat.blt t 1000000 then t :: slN r else slN r
def slotsRd (s : St) (sl : Slots) : Option (shsDen (sl.map (·.2)) × List (Option Nat) × List Nat) := shsRd s.h (sl.map (·.2)) ((slN sl).map fun t => look t s.env)
def slotsMk (sl : Slots) (x : shsDen (sl.map (·.2))) : St :=
  let q := shsMk 0 (sl.map (·.2)) x
  { env := (slN sl).zip q.1, h := q.2 }
def slotsGet (s : St) (sl : Slots) : Option (shsDen (sl.map (·.2))) :=
  match slotsRd s sl with
  | some (x, o, b) => (match apartB o b with | true => some x | false => none)
  | none => none

@[reducible] def XD : List (PX × Slots) → Type
  | [] => Empty
  | (_, sl) :: r => Sum (shsDen (sl.map (·.2))) (XD r)

def xInj : (xs : List (PX × Slots)) → PX → St → Option (XD xs)
  | [], _, _ => none
  | (e', sl) :: r, e, s => match decide (e' = e) with
    | true => (slotsGet s sl).map .inl
    | false => (xInj r e s).map .inr

def xElim {R : Type} : (xs : List (PX × Slots)) → XD xs → (PX → St → Option R) → Option R
  | [], x, _ => nomatch x
  | (e, sl) :: r, x, K => match x with
    | .inl y => K e (slotsMk sl y)
    | .inr y => xElim r y K

structure LSpec where
  head : Slots
  exits : List (PX × Slots)
  F : shsDen (head.map (·.2)) → Option (XD exits)

/-- The exit that a loop came to, and the state there. -/
def xAt : (xs : List (PX × Slots)) → XD xs → PX × St
  | [], x => nomatch x
  | (e, sl) :: r, x => match x with
    | .inl y => (e, slotsMk sl y)
    | .inr y => xAt r y

/-- The loops of a text (not those within loops). -/
def loopsIn : Code → List Code
  | .seq a b => loopsIn a ++ loopsIn b
  | .cond _ a b => loopsIn a ++ loopsIn b
  | .block _ c => loopsIn c
  | .loop c => [c]
  | .scope c => loopsIn c
  | _ => []

/-- The scopes of a text (not those within loops). -/
def scopesIn : Code → List Code
  | .seq a b => scopesIn a ++ scopesIn b
  | .cond _ a b => scopesIn a ++ scopesIn b
  | .block _ c => scopesIn c
  | .scope c => c :: scopesIn c
  | _ => []

/-- A loop's key: the number of the first region in it. -/
def lkey : Code → Option Nat
  | .region id _ _ => some id
  | .seq a b => match lkey a with | some n => some n | none => lkey b
  | .cond _ a b => match lkey a with | some n => some n | none => lkey b
  | .block _ c | .loop c | .scope c => lkey c
  | _ => none

def find {α : Type} (k : Nat) : List (Nat × α) → Option α
  | [] => none
  | (j, x) :: r => bif Nat.beq j k then some x else find k r

section
variable {R : Type} (C : Cfg) (n : Nat) (kp : List Nat) (T : List (Nat × Spec)) (L : List (Nat × LSpec))

/-- Rows that are only read from now on. -/
def froIds (h : List Ob) : List Nat → List Ob
  | [] => h
  | i :: r => froIds (fro1 h (.row i)) r

def tupV : List V → V
  | [v] => v
  | vs => .tup vs

/-- Objects that are handed over. -/
def kill (h : List Ob) : List Nat → List Ob
  | [] => h
  | i :: r => kill (setn h i .dead) r
/-- An object goes to another place. -/
def swapO (h : List Ob) (i j : Nat) : List Ob :=
  match nth h j with
  | some ob => setn (setn h i ob) j .dead
  | none => h
def swap1 (h : List Ob) (x x' : V) : List Ob :=
  match x, x' with
  | .row i, .row j => swapO h i j
  | .ptr i 0, .ptr j 0 => swapO h i j
  | _, _ => h
def swapV (h : List Ob) : List V → List V → List Ob
  | x :: r, x' :: r' => swapV (swap1 h x x') r r'
  | _, _ => h

def Spec.plain (sp : Spec) : Bool := sp.outs.all Sh.flat && sp.ins.all Sh.bare
/-- Memory behind a call: what was handed over is gone; what comes back; the results. -/
def aftM (h : List Ob) (o : List (Option Nat)) (sp : Spec) (y : shsDen sp.outs × shsDen (shsUpd sp.ins)) : List Ob :=
  let q := (shsMk h.length (shsUpd sp.ins) y.2).2
  kill h (somes o) ++ (q ++ (shsMk (h.length + q.length) sp.outs y.1).2)
def aftV (h : List Ob) (sp : Spec) (y : shsDen sp.outs × shsDen (shsUpd sp.ins)) : V :=
  tupV (shsMk (h.length + (shsMk h.length (shsUpd sp.ins) y.2).2.length) sp.outs y.1).1
def aftH (h : List Ob) (o : List (Option Nat)) (sp : Spec) (vs : List V) (y : shsDen sp.outs × shsDen (shsUpd sp.ins)) : List Ob :=
  swapV (aftM h o sp y) (shsUpdV sp.ins vs) (shsMk h.length (shsUpd sp.ins) y.2).1

/-- A call: of the first row of the table that it fits. What is read stays as it is, if nothing of it can come back; else it is only read from then on. -/
def callV (fid : Nat) (h : List Ob) (vs : List V) : List (Nat × Spec) → Out
  | [] => .no
  | (g, sp) :: r => bif Nat.beq g fid then
      (match shsRd h sp.ins vs with
       | some (_, _, b) =>
         let h1 := bif sp.plain then h else froIds h b
         (match shsRd h1 sp.ins vs with
          | some (x, o, b') => (match sp.plain || (apartB o b' && b'.isEmpty) with
            | true => .call (shsDen sp.outs × shsDen (shsUpd sp.ins)) sp.dflt (sp.F x) (fun y => aftV h1 sp y) (fun y => aftH h1 o sp vs y)
            | false => .no)
          | none => .no)
       | none => callV fid h vs r)
    else callV fid h vs r

/-- Are all results without objects of their own? -/
def calmSpec (fid : Nat) : List (Nat × Spec) → Bool
  | [] => true
  | (g, sp) :: r => (bif Nat.beq g fid then sp.plain else true) && calmSpec fid r
/-- .. or has it none to hand over? -/
def bareSpec (fid : Nat) : List (Nat × Spec) → Bool
  | [] => true
  | (g, sp) :: r => (bif Nat.beq g fid then sp.ins.all Sh.bare else true) && bareSpec fid r

def inner (t : TypeId) : List (Nat × Nat) → Bool
  | [] => false
  | (_, e) :: r => Nat.beq e t || inner t r
def outer (t : TypeId) : List (Nat × Nat) → Bool
  | [] => false
  | (e, _) :: r => Nat.beq e t || outer t r
def makeRwV (h : List Ob) (t : TypeId) (l c : V) : Out :=
  match C.elem t, l, c with
  | some te, .i _ n, .i _ m =>
    match C.tyOf te, C.zero te, C.bytes te with
    | some (.l e), some [.nil], some by_ => .chk (decide (0 ≤ n) && (decide (n ≤ m) && (decide (m * by_ ≤ 140737488355328) && decide (m ≤ 140737488355328)))) (.row h.length) (h ++ [.rw e (List.replicate n.toNat []) none])
    | _, _, _ => .no
  | _, _, _ => .no
/-- Rows of rows of one's own: made; an element's place; an element taken out, and put back. -/
def rwV (op : Op) (env : Env) (h : List Ob) (gs : List (Nat × Bool)) : Option Out :=
  match op with
  | .makeSlice t l c => (match outer t C.own2 with
    | true => some (makeRwV C h t (ung gs (opnd env l)) (ung gs (opnd env c)))
    | false => none)
  | .indexAddr t x i => (match outer t C.own2, ung gs (opnd env x), C.elem t with
    | true, .row id, some te => (match nth h id, ung gs (opnd env i), C.size te with
      | some (.rw e xss hole), .i _ n, some 1 => some (.chk (inb n xss.length) (.pel (.l e) id n 0) h)
      | some (.rw ..), _, _ => some .no
      | _, _, _ => none)
    | _, _, _ => none)
  | .load t a => (match inner t C.own2, ung gs (opnd env a), C.size t, C.isAgg t with
    | true, .pel (.l e) id i 0, some 1, some false => (match nth h id with
      | some (.rw e' xss none) => (match castL (.l e) (.l e') xss with
        | some xss => some (.chk (inb i xss.length) (.row h.length) (setn h id (.rw e xss (some i)) ++ [.row e (rd (.l e) xss i)]))
        | none => some .no)
      | _ => none)
    | _, _, _, _ => none)
  | .store t a v => (match inner t C.own2, ung gs (opnd env a), ung gs (opnd env v), C.size t with
    | true, .pel (.l e) id i 0, .row m, some 1 => (match nth h id, nth h m with
      | some (.rw e1 xss (some k)), some (.row e2 ys) => (match castL (.l e) (.l e1) xss, castL e e2 ys with
        | some xss, some ys => some (.chk (decide (i = k) && inb i xss.length) .u (setn (setn h id (.rw e (xss.set i.toNat ys) none)) m .dead))
        | _, _ => some .no)
      | some (.rw ..), _ => some .no
      | _, _ => none)
    | _, _, _, _ => none)
  | .slice t x (some lo) none none => (match C.mv.any (fun u => Nat.beq u t), ung gs (opnd env x), C.elem t, ung gs (opnd env lo) with
    | true, .row id, some te, .i _ l => (match nth h id, C.tyOf te with
      | some (.row e' xs), some e => (match castL e e' xs with
        | some xs => some (.chk (inr l xs.length xs.length) (.row h.length) (setn h id .dead ++ [.row e (xs.drop l.toNat)]))
        | none => none)
      | _, _ => none)
    | _, _, _, _ => none)
  | _ => none

def evalCall (o : Oper) (env : Env) (h : List Ob) (gs : List (Nat × Bool)) : Out :=
  match o.op with
  | .call { callee := .value f, args, .. } => (match ung gs (opnd env f) with
    | .fn (.func fid) cs => (match find fid C.mks with
      | some g => .call Unit () (some ()) (fun _ => .fn (.func g) (args.toList.map (fun x => ung gs (opnd env x)) ++ cs)) (fun _ => h)
      | none => callV fid h (args.toList.map (fun x => ung gs (opnd env x)) ++ cs) T)
    | _ => .no)
  | op => (match rwV C op env h gs with
    | some r => r
    | none => evalOp C op env h gs)

/-- What is no row of one's own: cutting it changes nothing. -/
def lightV : V → Bool
  | .l _ _ | .nil | .s _ => true
  | .g _ _ (.l _ _) | .g _ _ .nil | .g _ _ (.s _) => true
  | _ => false
def calmOper (o : Oper) (env : Env) : Bool :=
  match o.op with
  | .slice _ x _ _ _ => lightV (opnd env x)
  | .call { callee := .value f, .. } => (match opnd env f with
    | .fn (.func fid) _ => calmSpec fid T
    | _ => false)
  | .load t _ => !inner t C.own2
  | op => calm op

/-- The guards that are met where a slot is what it must be. -/
def actG (env : Env) : Nat → Nat → Bool → List (Nat × Bool)
  | 0, _, _ => []
  | f + 1, d, want => (d, want) :: match look d env with
    | .g d' want' _ => actG env f d' want'
    | _ => []
/-- Is it what it must be? -/
def condG (env : Env) : Nat → Nat → Bool → Option Bool
  | 0, _, _ => none
  | f + 1, d, want => match look d env with
    | .b x => some (match want with | true => x | false => !x)
    | .g d' want' (.b x) => (match condG env f d' want' with
      | some y => some (y && match want with | true => x | false => !x)
      | none => none)
    | _ => none

/-- A region's state: the environment, memory, and the slots that guards hang on. -/
def putE (env : Env) (gs : List Nat) (dst : Option Nat) (v : V) : Option Env :=
  match dst with
  | none => some env
  | some d => (match Nat.blt d n && gs.all (fun x => !Nat.beq x d) with
    | true => some ((d, v) :: env)
    | false => none)

def noG : V → V
  | .g .. => .u
  | v => v
def unG (env : Env) : List Nat → Env
  | [] => env
  | _ => env.map fun p => (p.1, noG p.2)

def evalOps (all : List Oper) : List Oper → Env → List Ob → List Nat → (St → Option R) → Option R
  | [], env, h, gs, K => K { env := unG env gs, h := h }
  | o :: r, env, h, gs, K =>
    let next (v : V) (h' : List Ob) (gs' : List Nat) : Option R := match putE n env gs' o.dst v with | some e => evalOps all r e h' gs' K | none => none
    match o.guard with
    | none => (match evalCall C T o env h [] with
      | .no => none
      | .val v h' => next v h' gs
      | .chk c v h' => bif c then next v h' gs else none
      | .call _ _ q v h' => q.bind fun y => next (v y) (h' y) gs)
    | some (j, want) => (match (nth all j).bind (·.dst) with
      | some d => (match condG env 9 d want with
        | some x => (match calmOper C T o env with
          | true => (match evalCall C T o env h (actG env 9 d want) with
            | .no => bif x then none else next .u h gs
            | .val v _ => next (.g d want v) h (d :: gs)
            | .chk c v _ => bif (bif x then c else true) then next (.g d want v) h (d :: gs) else none
            | .call _ y q v _ => (bif x then q else some y).bind fun y => next (.g d want (v y)) h (d :: gs))
          | false => match look d env with
            | .b _ => bif x then
              (match putE n env [] (some d) (.b want) with
               | some env' => (match evalCall C T o env' h (actG env 9 d want) with
                 | .no => none
                 | .val v h' => (match putE n env' gs o.dst v with | some e => evalOps all r e h' gs K | none => none)
                 | .chk c v h' => bif c then (match putE n env' gs o.dst v with | some e => evalOps all r e h' gs K | none => none) else none
                 | .call _ _ q v h' => q.bind fun y => (match putE n env' gs o.dst (v y) with | some e => evalOps all r e (h' y) gs K | none => none))
               | none => none)
             else (match putE n env [] (some d) (.b (!want)) with
              | some env' => (match putE n env' gs o.dst .u with | some e => evalOps all r e h gs K | none => none)
              | none => none)
            | _ => none)
        | none => none)
      | none => none)

/-! ### regions without an order -/
inductive Kd where | free | read | chain
  deriving DecidableEq

/-- .. in a region without an order: what is built of parts is only read from then on. -/
def evalD (op : Op) (env : Env) (h : List Ob) (gs : List (Nat × Bool)) : Out :=
  match op with
  | .buildSlice t (n + 1) parts => listV C h t (n + 1) (parts.toList.map fun p => (p.1, ung gs (opnd env p.2)))
  | op => evalOp C op env h gs
/-- .. or a call. -/
def evalW (o : Oper) (env : Env) (h : List Ob) (gs : List (Nat × Bool)) : Out :=
  match o.op with
  | .buildSlice t (n + 1) parts => listV C h t (n + 1) (parts.toList.map fun p => (p.1, ung gs (opnd env p.2)))
  | .load t a => evalOp C (.load t a) env h gs
  | .indexAddr t x i => evalOp C (.indexAddr t x i) env h gs
  | .slice t x lo hi m => evalOp C (.slice t x lo hi m) env h gs
  | _ => evalCall C T o env h gs

/-- Free: it has nothing to do with memory. Read: it only reads there. -/
def kind (op : Op) : Kd :=
  match op with
  | .move _ | .assign _ | .pick .. | .build .. | .nilCheck _ | .binOp .. | .unOp .. | .makeFunc .. | .fieldAddr .. | .field .. | .index .. | .extract .. | .slice .. | .buildSlice _ (_ + 1) _ => .free
  | .load .. | .indexAddr .. => .read
  | .call { callee := .builtin .len, .. } => .read
  | .call { callee := .builtin .min, .. } | .call { callee := .builtin .max, .. } => .free
  | .call { callee := .builtin .complex, .. } => .free
  | .convert _ dst _ => (match C.P.underlying dst with | some (.int _) => .free | _ => .chain)
  | _ => .chain

def dirs (o : Oper) : List Nat := (o.after.toList.filter (Region.binds .any)).map (·.on)
def bitsOf (acc : List Nat) : List Nat → Nat
  | [] => 0
  | j :: r => Nat.lor (Nat.lor (2 ^ j) ((nth acc j).getD 0)) (bitsOf acc r)
/-- Who has to be ahead of whom. -/
def ancT : List Oper → List Nat → List Nat
  | [], acc => acc
  | o :: r, acc => ancT r (acc ++ [bitsOf acc (dirs o)])
def opT (o : Oper) : List Nat := o.op.operands.toList.filterMap fun | .tmp t => some t | _ => none
/-- The slots that a guard hangs on. -/
def gch (env : Env) : Nat → Nat → List Nat
  | 0, d => [d]
  | f + 1, d => d :: match look d env with
    | .g d' _ _ => gch env f d'
    | _ => []
def gSlots (all : List Oper) (env : Env) (o : Oper) : List Nat :=
  match o.guard with
    | some (j, _) => (match (nth all j).bind (·.dst) with | some d => gch env 9 d | none => [])
    | none => []
def slotsAt (all : List Oper) (env : Env) (o : Oper) : List Nat := opT o ++ gSlots all env o
def restr (env : Env) (ts : List Nat) : Env := ts.map fun t => (t, look t env)
/-- Whoever writes the slot is ahead. -/
def ahead (A t : Nat) : Nat → List Oper → Bool
  | _, [] => true
  | j, o :: r => (match o.dst with | some d => (bif Nat.beq d t then Nat.testBit A j else true) | none => true) && ahead A t (j + 1) r
/-- Whoever writes the slot is behind. -/
def oldB (A : List Nat) (i t : Nat) : Nat → List Oper → Bool
  | _, [] => true
  | j, o :: r => (match o.dst with | some d => (bif Nat.beq d t then !Nat.beq j i && Nat.testBit ((nth A j).getD 0) i else true) | none => true) && oldB A i t (j + 1) r
/-- Each slot is written ahead, or read as it was. -/
def okT (A : List Nat) (Ai i : Nat) (all : List Oper) (env : Env) (o : Oper) : Bool :=
  (opT o).all (fun t => ahead Ai t 0 all || oldB A i t 0 all) && (gSlots all env o).all (fun t => ahead Ai t 0 all)
def useT (Ai : Nat) (all : List Oper) (ts : List Nat) : List Nat := ts.filter fun t => ahead Ai t 0 all
/-- Is it ordered against everything that looks at memory? -/
def barB (A : List Nat) (s : Nat) : Nat → List Oper → Bool
  | _, [] => true
  | j, o :: r => (match kind C o.op with
      | .free => true
      | _ => Nat.beq j s || (Nat.testBit ((nth A j).getD 0) s || Nat.testBit ((nth A s).getD 0) j)) && barB A s (j + 1) r
/-- Does it leave the objects that were there? -/
def isDead (b : List Ob) (id : Nat) : Bool := match nth b id with | some .dead => true | _ => false
def deadV (b : List Ob) : V → Bool
  | .ptr id _ => isDead b id
  | .row id => isDead b id
  | _ => true
/-- .. a call that takes what nobody may look at. -/
def presC (fid : Nat) (h b : List Ob) (vs : List V) : List (Nat × Spec) → Bool
  | [] => true
  | (g, sp) :: r => bif Nat.beq g fid then
      (match shsRd h sp.ins vs with
       | some (_, _, b1) =>
         (match shsRd (bif sp.plain then h else froIds h b1) sp.ins vs with
          | some (_, o, _) => (somes o).all (isDead b) && (shsUpdV sp.ins vs).all (deadV b)
          | none => true)
       | none => presC fid h b vs r)
    else presC fid h b vs r
def presO (o : Oper) (env : Env) (gs : List (Nat × Bool)) (m h : List Ob) : Bool :=
  match o.op with
  | .alloc _ | .box .. | .buildSlice .. | .makeSlice .. | .convert .. => true
  | .call { callee := .value f, args, .. } => (match ung gs (opnd env f) with | .fn (.func fid) cs => bareSpec fid T || presC fid h m (args.toList.map (fun x => ung gs (opnd env x)) ++ cs) T | _ => false)
  | .call { callee := .builtin .append, args, .. } => (match args.toList with
    | x :: _ => (match ung gs (opnd env x) with | .row id => Nat.ble m.length id || isDead m id | _ => true)
    | _ => false)
  | _ => false
def dstNew (d : Option Nat) (us : List Nat) : Bool :=
  match d with
  | none => true
  | some d => Nat.blt d n && us.all fun u => !Nat.beq u d
def putD (env : Env) (d : Option Nat) (v : V) : Env := match d with | none => env | some d => (d, v) :: env

def prevB (A : Nat) : Option Nat → Bool
  | some p => Nat.testBit A p
  | none => true
def stripG (env : Env) : Env := env.map fun p => (p.1, noG p.2)
/-- What a slot will hold. -/
def slotV (all : List Oper) (env : Env) (t : Nat) : V :=
  match all.find? fun o => match o.dst with | some d => Nat.beq d t | none => false with
    | some o => (match o.op with
      | .move (.tmp t') => look t' env
      | _ => .u)
    | none => look t env
def rowsOfBox (h : List Ob) (id : Nat) : List Nat :=
  match nth h id with
  | some (.box vs) => vs.filterMap fun | .row i => some i | _ => none
  | _ => []
/-- What is written on, or handed over, by who is not ordered against all that look at memory: nobody may look at it. -/
def apOld (A : List Nat) (all : List Oper) (env : Env) (h : List Ob) : Nat → List Oper → List Nat
  | _, [] => []
  | j, o :: r => (match o.op with
      | .call { callee := .builtin .append, args, .. } => (match barB C A j 0 all with
        | true => []
        | false => (match args.toList with
          | .tmp t :: _ => (match slotV all env t with | .row id => [id] | _ => [])
          | _ => []))
      | .call { callee := .value (.func fid), args, .. } => (match barB C A j 0 all || bareSpec fid T with
        | true => []
        | false => args.toList.flatMap fun
          | .tmp t => (match slotV all env t with | .ptr id _ => id :: rowsOfBox h id | .row id => [id] | _ => [])
          | _ => [])
      | _ => []) ++ apOld A all env h (j + 1) r
def deadB : List Nat → List Ob → List Ob
  | [], h => h
  | id :: r, h => deadB r (setn h id .dead)
/-- .. each operation told in its own slots. -/
def drawOps (A : List Nat) (all : List Oper) : Nat → List Oper → Env → List Ob → List Ob → List Nat → Option Nat → (St → Option R) → Option R
  | _, [], env, h, base, used, prev, K => K { env := stripG env, h := h }
  | i, o :: r, env, h, base, used, prev, K =>
    match nth A i with
    | none => none
    | some Ai =>
      let ts := slotsAt all env o
      let ei := restr env ts
      match Nat.blt Ai (2 ^ i) && ((dirs o).all (fun j => Nat.blt j i) && okT A Ai i all env o && dstNew n o.dst (useT Ai all ts ++ used)) with
      | false => none
      | true =>
        let used' := o.dst.toList ++ (useT Ai all ts ++ used)
        match kind C o.op with
        | .chain =>
          (match prevB Ai prev with
          | false => none
          | true =>
            let bar := barB C A i 0 all
            match o.guard with
            | none =>
              let go (v : V) (h' : List Ob) : Option R := bif bar || presO T o ei [] base h then drawOps A all (i + 1) r (putD env o.dst v) h' (bif bar then h' else base) used' (some i) K else none
              (match evalCall C T o ei h [] with
              | .no => none
              | .val v h' => go v h'
              | .chk c v h' => bif c then go v h' else none
              | .call _ _ q v h' => q.bind fun y => go (v y) (h' y))
            | some (j, want) => (match (nth all j).bind (·.dst) with
              | some d => (match condG ei 9 d want with
                | some x =>
                  let gs' := actG ei 9 d want
                  (match calmOper C T o ei with
                  | true =>
                    let go (v : V) : Option R := drawOps A all (i + 1) r (putD env o.dst (.g d want v)) h base used' (some i) K
                    (match evalCall C T o ei h gs' with
                    | .no => bif x then none else drawOps A all (i + 1) r (putD env o.dst .u) h base used' (some i) K
                    | .val v _ => go v
                    | .chk c v _ => bif (bif x then c else true) then go v else none
                    | .call _ y q v _ => (bif x then q else some y).bind fun y => go (v y))
                  | false => match look d ei with
                    | .b _ => bif x then
                        let e1 := (d, V.b want) :: ei
                        let go (v : V) (h' : List Ob) : Option R := bif bar || presO T o e1 gs' base h then drawOps A all (i + 1) r (putD ((d, V.b want) :: env) o.dst v) h' (bif bar then h' else base) used' (some i) K else none
                        (match evalCall C T o e1 h gs' with
                         | .no => none
                         | .val v h' => go v h'
                         | .chk c v h' => bif c then go v h' else none
                         | .call _ _ q v h' => q.bind fun y => go (v y) (h' y))
                      else drawOps A all (i + 1) r (putD ((d, V.b (!want)) :: env) o.dst .u) h (bif bar then h else base) used' (some i) K
                    | _ => none)
                | none => none)
              | none => none))
        | k =>
          let b := (match k with | .read => base | _ => [])
          match o.guard with
          | none =>
            let go (v : V) : Option R := drawOps A all (i + 1) r (putD env o.dst v) h base used' prev K
            (match evalD C o.op ei b [] with
            | .val v _ => go v
            | .chk c v _ => bif c then go v else none
            | _ => none)
          | some (j, want) => (match (nth all j).bind (·.dst) with
            | some d => (match condG ei 9 d want with
              | some x =>
                let go (v : V) : Option R := drawOps A all (i + 1) r (putD env o.dst (.g d want v)) h base used' prev K
                (match evalD C o.op ei b (actG ei 9 d want) with
                | .val v _ => go v
                | .chk c v _ => bif (bif x then c else true) then go v else none
                | .no => bif x then none else drawOps A all (i + 1) r (putD env o.dst .u) h base used' prev K
                | .call .. => none)
              | none => none)
            | none => none)

def thenK (a : St → Option R) (K : PX → St → Option R) (e : PX) (s : St) : Option R :=
  match e with
  | .nx => a s
  | e => K e s
def blockK (id : Nat) (K : PX → St → Option R) (e : PX) (s : St) : Option R :=
  match e with
  | .ex j => bif Nat.beq j id then K .nx s else K (.ex j) s
  | e => K e s

mutual
def pexec : Nat → Code → St → (PX → St → Option R) → Option R
  | 0, _, _, _ => none
  | f + 1, c, s, K =>
    match c with
    | .skip | .label _ => K .nx s
    | .region _ ops false => evalOps C n T ops.toList ops.toList s.env s.h kp (K .nx)
    | .region _ ops true => (match C.P.follows .mixedOrders with | true => drawOps C n T (ancT ops.toList []) ops.toList 0 ops.toList s.env s.h (deadB (apOld C T (ancT ops.toList []) ops.toList s.env s.h 0 ops.toList) s.h) kp none (K .nx) | false => none)
    | .seq a b => pexec f a s (thenK (fun s' => pexec f b s' K) K)
    | .cond c a b => (match opnd s.env c with
      | .b x => bif x then pexec f a s K else pexec f b s K
      | _ => none)
    | .block id c => pexec f c s (blockK id K)
    | .exit id => K (.ex id) s
    | .goto l => K (.gt l) s
    | .ret => K .rt s
    | .loop body => (match lkey body with
      | some k => (match find k L with
        | some sp => (match slotsGet s sp.head with
          | some x => (sp.F x).bind fun y => xElim sp.exits y K
          | none => none)
        | none => none)
      | none => none)
    | .scope body => pscope f body body s K
    | _ => none
def pscope : Nat → Code → Code → St → (PX → St → Option R) → Option R
  | 0, _, _, _, _ => none
  | f + 1, B, c, s, K => pexec f c s fun e s' =>
      match e with
      | .gt l => (match findLabel B l with
        | some rest => (match lkey rest with
          | some k => (match find (k + 1000000) L with
            | some sp => (match slotsGet s' sp.head with
              | some x => (sp.F x).bind fun y => xElim sp.exits y K
              | none => none)
            | none => pscope f B rest s' K)
          | none => pscope f B rest s' K)
        | none => K (.gt l) s')
      | e => K e s'
end

/-- A loop, so many rounds at most. -/
def loopF (f : Nat) (head : Slots) (exits : List (PX × Slots)) (body : Code) : Nat → shsDen (head.map (·.2)) → Option (XD exits)
  | 0, _ => none
  | k + 1, x => pexec (R := XD exits) C n kp T L f body (slotsMk head x) fun e s =>
    match e with
    | .nx => (match slotsGet s head with | some y => loopF f head exits body k y | none => none)
    | e => xInj exits e s

/-- A label that is jumped back to, so many rounds at most. -/
def scopeF (f : Nat) (head : Slots) (exits : List (PX × Slots)) (B rest : Code) (l : Nat) : Nat → shsDen (head.map (·.2)) → Option (XD exits)
  | 0, _ => none
  | k + 1, x => pexec (R := XD exits) C n kp T L f rest (slotsMk head x) fun e s =>
    match e with
    | .gt l' => (match decide (l' = l) with
      | true => (match slotsGet s head with | some y => scopeF f head exits B rest l k y | none => none)
      | false => (match findLabel B l' with | some _ => none | none => xInj exits (.gt l') s))
    | e => xInj exits e s

def resV (s : St) : List ResultVar → Option (List V)
  | [] => some []
  | .tmp t :: r => (resV s r).map (look t s.env :: ·)
  | .cell t ty :: r => (match loadV C s.h ty (look t s.env) with
    | .val v _ => (resV s r).map (v :: ·)
    | _ => none)

/-- Rows of rows that are told: only read from now on. -/
def frRw (h : List Ob) : List V → List Ob
  | [] => h
  | .row id :: r => (match nth h id with
    | some (.rw e xss none) => frRw (setn h id (.fro (.l e) xss)) r
    | _ => frRw h r)
  | _ :: r => frRw h r
/-- A function's end: its results read by their shapes, and what it hands back. -/
def finish (fn : Func) (ins outs : List Sh) (vs : List V) (s : St) : Option (shsDen outs × shsDen (shsUpd ins)) :=
  match resV C s fn.results.toList, fnOk ins vs || (shsUpd ins).isEmpty with
  | some rs, true =>
    let h := frRw s.h rs
    (match shsRd h outs rs with
    | some (y, o, b) => (match shsRd h (shsUpd ins) (shsUpdV ins vs) with
      | some (z, o', b') => (match apartB (o' ++ o) (b' ++ b) with | true => some (y, z) | false => none)
      | none => none)
    | none => none)
  | _, _ => none

/-- A function's meaning. -/
def funF (f : Nat) (fn : Func) (ins outs : List Sh) (x : shsDen ins) : Option (shsDen outs × shsDen (shsUpd ins)) :=
  match fn.body with
  | some c =>
    let q := shsMk 0 ins x
    match Nat.ble q.1.length fn.ntmps with
    | true => pexec (R := shsDen outs × shsDen (shsUpd ins)) C fn.ntmps (kpOf 0 ins) T L f c { env := (List.range q.1.length).zip q.1, h := q.2 } fun e s =>
      match e with
      | .nx | .rt => finish C fn ins outs ((List.range q.1.length).map fun t => look t s.env) s
      | _ => none
    | false => none
  | none => none
end

end Go.Pv
