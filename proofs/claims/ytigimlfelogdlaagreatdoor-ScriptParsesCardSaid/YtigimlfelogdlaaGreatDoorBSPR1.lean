/- What the claim SPR leans on: texts joined by bundle.py, a program of ours; the words cut down to what is used. -/
import GoSem.ClaimFn
import GoSem.ClaimGoes
import Derived.Orders
import Derived.Laws.AppendOwn
import Derived.Below
import Derived.Deep.MidRow
import Derived.Laws.StructEq
section
namespace Go.Vm
def closT (tab : List (List Nat)) : Nat → List Nat → List Nat → List Nat
  | 0, _, seen => seen.reverse
  | _, [], seen => seen.reverse
  | n + 1, f :: todo, seen => bif seen.contains f then closT tab n todo seen else closT tab n ((tab[f]?).getD [] ++ todo) (f :: seen)
theorem closT_is {P : Program} {tab : List (List Nat)} (h : P.funcs.toList.map P.leadsTo = tab) : ∀ n todo seen, P.closureVia n todo seen = closT tab n todo seen
  | 0, todo, seen => by cases todo <;> rfl
  | n + 1, [], seen => rfl
  | n + 1, f :: todo, seen => by
    unfold Program.closureVia closT
    have e : (P.funcs[f]?).elim [] P.leadsTo = (tab[f]?).getD [] := by
      rw [← h, List.getElem?_map, Array.getElem?_toList]
      cases P.funcs[f]? <;> rfl
    rw [e]
    cases hc : seen.contains f with
    | true => simp only [if_true, cond_true]; exact closT_is h n todo seen
    | false => simp only [Bool.false_eq_true, if_false, cond_false]; exact closT_is h n _ _
def fuelT (tab : List (List Nat)) : Nat := 1 + (tab.map fun l => l.length + 1).sum
theorem closure_is {P : Program} {tab : List (List Nat)} (h : P.funcs.toList.map P.leadsTo = tab) (f : Nat) : P.closure f = closT tab (fuelT tab) [f] [] := by
  unfold Program.closure fuelT
  rw [closT_is h]
  congr 3
  rw [← h, List.map_map]
  rfl
theorem goesBy_of {P : Program} {c : OpenClaim} {n : Nat} (hs : c.start = .entering) (hf : P.funcNamed c.func = some n) (hg : P.goes n = false) : false = c.goesBy P := by
  unfold OpenClaim.goesBy Program.goesAt Program.goesFrom
  rw [hs, hf, Option.any_some, hg]
  rfl
end Go.Vm
end
section
namespace Go.Vm

inductive Ty where
  | int (k : IntKind) | bool | str
  | sl (e : TypeId) (t : Ty)
  | mp (k v : Ty)
  | arr (n : Nat) (t : Ty)
  | st (c : Ty)
  | pair (a b : Ty)
  | tup (c : Ty)
  | unit
  | any (it st : TypeId)
  | iter
  | pt (e : TypeId)
  deriving DecidableEq

abbrev Ty.i64 : Ty := .int .i64
abbrev Ty.den : Ty → Type
  | .int _ => Int
  | .bool => Bool
  | .str => ByteArray
  | .sl _ t => List t.den
  | .mp k v => List (k.den × v.den)
  | .arr _ t => List t.den
  | .st c => c.den
  | .pair a b => a.den × b.den
  | .tup c => c.den
  | .unit => Unit
  | .any _ _ => Option (Int ⊕ ByteArray)
  | .pt _ => Unit
  | .iter => ByteArray × Nat

def Ty.zero : (t : Ty) → t.den
  | .int _ => (0 : Int)
  | .bool => false
  | .str => (⟨#[]⟩ : ByteArray)
  | .sl _ _ => []
  | .mp _ _ => []
  | .arr n t => List.replicate n t.zero
  | .st c => c.zero
  | .pair a b => (a.zero, b.zero)
  | .tup c => c.zero
  | .unit => ()
  | .any _ _ => none
  | .pt _ => ()
  | .iter => ((⟨#[]⟩ : ByteArray), 0)

def Ty.size : Ty → Nat
  | .arr n t => n * t.size
  | .st c => c.size
  | .pair a b => a.size + b.size
  | .tup _ => 0
  | .unit => 0
  | _ => 1

def Ty.one : Ty → Bool
  | .int _ | .bool | .str | .sl _ _ | .mp _ _ | .any _ _ | .pt _ => true
  | _ => false

def Ty.keyT : Ty → Bool
  | .int _ | .str => true
  | _ => false
def Ty.valT : Ty → Bool
  | .int _ | .bool | .str => true
  | _ => false
def Ty.good : Ty → Bool
  | .int _ | .bool | .str | .sl _ _ | .any _ _ | .pt _ => true
  | .mp k v => k.keyT && v.valT
  | .arr _ t => t.good
  | .st c => c.good
  | .pair a b => a.good && b.good
  | .tup _ | .unit | .iter => false
def Ty.flat : Ty → Bool
  | .sl _ _ => false
  | .any _ _ => false
  | .pt _ => false
  | .iter => false
  | .mp _ _ => false
  | .arr _ t => t.flat
  | .st c => c.flat
  | .pair a b => a.flat && b.flat
  | .tup c => c.flat
  | _ => true

def Ty.plain : Ty → Bool
  | .mp _ _ => false
  | .iter => false
  | .any _ _ => false
  | .pt _ => false
  | .sl _ t => t.plain
  | .arr _ t => t.plain
  | .st c => c.plain
  | .pair a b => a.plain && b.plain
  | .tup c => c.plain
  | _ => true

def Ty.cast {a b : Ty} (h : a = b) (x : a.den) : b.den := h ▸ x

def Ty.beq : (t : Ty) → t.den → t.den → Bool
  | .int _, x, y => let a : Int := x; let b : Int := y; a == b
  | .bool, x, y => let a : Bool := x; let b : Bool := y; a == b
  | .str, x, y => let a : ByteArray := x; let b : ByteArray := y; decide (a = b)
  | .arr _ t, x, y => let a : List t.den := x; let b : List t.den := y; (a.zip b).all fun p => t.beq p.1 p.2
  | .st c, x, y => c.beq x y
  | .pair a b, x, y => a.beq x.1 y.1 && b.beq x.2 y.2
  | _, _, _ => false

structure D where
  t : Ty
  x : t.den

inductive PS where
  | fld (i : Nat)
  | idx (i : Int)
  deriving DecidableEq

def chainGet : (c : Ty) → c.den → Nat → Option D
  | .pair a _, x, 0 => some ⟨a, x.1⟩
  | .pair _ b, x, i + 1 => chainGet b x.2 i
  | c, x, 0 => some ⟨c, x⟩
  | _, _, _ + 1 => none

def chainSet : (c : Ty) → c.den → Nat → D → Option c.den
  | .pair a _, x, 0, d => if h : d.t = a then some (Ty.cast h d.x, x.2) else none
  | .pair _ b, x, i + 1, d => match chainSet b x.2 i d with
    | some y => some (x.1, y)
    | none => none
  | c, _, 0, d => if h : d.t = c then some (Ty.cast h d.x) else none
  | _, _, _ + 1, _ => none

def getP : (p : List PS) → (t : Ty) → t.den → Option D
  | [], t, x => some ⟨t, x⟩
  | .fld i :: p, .st c, x => match chainGet c x i with
    | some d => getP p d.t d.x
    | none => none
  | .idx i :: p, .arr _ t, x => getP p t ((x : List t.den).getD i.toNat t.zero)
  | _, _, _ => none

def setP : (p : List PS) → (t : Ty) → t.den → D → Option t.den
  | [], t, _, d => if h : d.t = t then some (Ty.cast h d.x) else none
  | .fld i :: p, .st c, x, d => match chainGet c x i with
    | some e => match setP p e.t e.x d with
      | some y => chainSet c x i ⟨e.t, y⟩
      | none => none
    | none => none
  | .idx i :: p, .arr _ t, x, d => match setP p t ((x : List t.den).getD i.toNat t.zero) d with
    | some y => some ((x : List t.den).set i.toNat y)
    | none => none
  | _, _, _, _ => none

inductive Cap where
  | ptr (b : Nat) (t : Ty)
  | dat (d : D)

inductive V where
  | bad
  | und
  | dat (d : D)
  | agg (d : D) (nl : List Nat)
  | nils
  | nili
  | ifv (t : TypeId) (d : D)
  | ifp (t : TypeId) (b : Nat) (p : List PS) (pt : Ty)
  | prow (l : List (TypeId × Nat × List PS × Ty))
  | own (a : Nat)
  | ptr (b : Nat) (p : List PS) (t : Ty)
  | rptr (d : D)
  | eptr (a : Nat) (et : Ty) (i : Int) (p : List PS) (t : Ty)
  | clo (f : Nat) (caps : List Cap)
  | fnp (a r : Ty) (g : a.den → Option r.den)
  | fnc (a r : Ty) (g : a.den → Option r.den)

inductive LK where
  | nil
  | own (a : Nat)
  | hole
structure Box where
  t : Ty
  x : t.den
  lk : List (Nat × LK)
def lkAt : List (Nat × LK) → Nat → Option LK
  | [], _ => none
  | e :: l, i => bif Nat.beq e.1 i then some e.2 else lkAt l i
def LK.isNil : LK → Bool
  | .nil => true
  | _ => false
def lkFree (l : List (Nat × LK)) : Bool := l.all fun e => e.2.isNil
def lkDrop (l : List (Nat × LK)) (i : Nat) : List (Nat × LK) := l.filter fun e => !Nat.beq e.1 i
def chainSl : Ty → List Nat
  | .pair a b => (match a with
    | .sl _ _ => [0]
    | _ => []) ++ (chainSl b).map (· + 1)
  | .sl _ _ => [0]
  | _ => []
def Ty.slFlds : Ty → List Nat
  | .st c => chainSl c
  | _ => []
inductive Hit where
  | free
  | at_ (i : Nat) (l : LK)
  | whole
  | bad
def lkHit (lk : List (Nat × LK)) : List PS → Hit
  | [] => bif lkFree lk then .free else .whole
  | [.fld i] => match lkAt lk i with
    | none => .free
    | some l => .at_ i l
  | .fld i :: _ :: _ => match lkAt lk i with
    | none => .free
    | some _ => .bad
  | .idx _ :: _ => match lk with
    | [] => .free
    | _ => .bad
structure Arr where
  e : TypeId
  t : Ty
  xs : List t.den
  open_ : Bool

structure MO where
  k : Ty
  v : Ty
  es : List (k.den × v.den)
inductive AS where
  | no
  | dead
  | at_ (a : Arr)
  | mp (m : MO)

structure Mem where
  box : Nat → Option Box
  arr : Nat → AS

structure St where
  tmp : Nat → V
  mem : Mem

def upd {α : Type} (f : Nat → α) (i : Nat) (v : α) : Nat → α := fun j => bif Nat.beq j i then v else f j

def Mem.setB (m : Mem) (b : Nat) (x : Box) : Mem := { m with box := upd m.box b (some x) }
def Mem.setA (m : Mem) (a : Nat) (x : AS) : Mem := { m with arr := upd m.arr a x }

def idB (b : Nat) : Nat := 2 * b
def idA (a : Nat) : Nat := 2 * a + 1

inductive Res (α : Type) : Type 1 where
  | fail
  | ok (a : α)
  | br (b : Bool) (x y : Res α)
  | call {β : Type} (o : Option β) (f : β → Res α)
  | getB (b : Nat) (f : Option Box → Res α)
  | setB (b : Nat) (x : Box) (r : Res α)
  | getA (a : Nat) (f : AS → Res α)
  | setA (a : Nat) (x : AS) (r : Res α)

namespace Res
variable {α β : Type}
def bind : Res α → (α → Res β) → Res β
  | .fail, _ => .fail
  | .ok a, f => f a
  | .br b x y, f => .br b (x.bind f) (y.bind f)
  | .call o g, f => .call o fun u => (g u).bind f
  | .getB b g, f => .getB b fun u => (g u).bind f
  | .setB b x r, f => .setB b x (r.bind f)
  | .getA a g, f => .getA a fun u => (g u).bind f
  | .setA a x r, f => .setA a x (r.bind f)
def chk (b : Bool) (r : Res α) : Res α := .br b r .fail
end Res

structure FP where
  r : List Nat
  w : List Nat

structure Alg (R : Type) where
  br : Bool → Option R → Option R → Option R
  bd : (β : Type) → Option β → (β → Option R) → Option R
def Alg.std (R : Type) : Alg R := ⟨fun b x y => bif b then x else y, fun _ o f => o.bind f⟩

def Res.run {α R : Type} (A : Alg R) : Res α → Mem → FP → (α → Mem → FP → Option R) → Option R
  | .fail, _, _, _ => none
  | .ok a, m, fp, k => k a m fp
  | .br b x y, m, fp, k => A.br b (x.run A m fp k) (y.run A m fp k)
  | .call o f, m, fp, k => A.bd _ o fun u => (f u).run A m fp k
  | .getB b f, m, fp, k => (f (m.box b)).run A m ⟨idB b :: fp.r, fp.w⟩ k
  | .setB b x r, m, fp, k => r.run A (m.setB b x) ⟨fp.r, idB b :: fp.w⟩ k
  | .getA a f, m, fp, k => (f (m.arr a)).run A m ⟨idA a :: fp.r, fp.w⟩ k
  | .setA a x r, m, fp, k => r.run A (m.setA a x) ⟨fp.r, idA a :: fp.w⟩ k

end Go.Vm
end
section
namespace Go.Vm

inductive PK where
  | val (t : Ty) | ro (t : Ty) | rw (t : Ty) | fn (a r : Ty)
  deriving DecidableEq
abbrev PK.den : PK → Type
  | .val t => t.den
  | .ro t => t.den
  | .rw t => t.den
  | .fn a r => a.den → Option r.den
abbrev dens : List PK → Type
  | [] => Unit
  | p :: ps => p.den × dens ps
abbrev outs : List PK → Type
  | [] => Unit
  | .rw t :: ps => t.den × outs ps
  | _ :: ps => outs ps
abbrev fns : List PK → Type → Type
  | [], R => R
  | p :: ps, R => p.den → fns ps R
def app {R : Type} : (ps : List PK) → fns ps R → dens ps → R
  | [], f, _ => f
  | _ :: ps, f, a => app ps (f a.1) a.2
def cur {R : Type} : (ps : List PK) → (dens ps → R) → fns ps R
  | [], f => f ()
  | _ :: ps, f => fun x => cur ps fun a => f (x, a)

inductive Spec where
  | pu (ps : List PK) (r : Ty) (f : fns ps (Option r.den))
  | fr (ps : List PK) (e : TypeId) (t : Ty) (f : fns ps (Option (List t.den)))
  | cl (ps : List PK) (a r : Ty) (f : fns ps (Option (a.den → Option r.den)))
  | wr (t : Ty) (ps : List PK) (r : Ty) (f : t.den → fns ps (Option (t.den × r.den)))
  | tk (ae se it st pi pst : TypeId) (f : List (Option (Int ⊕ ByteArray)) → List ByteArray → List Bool → Option (Bool × List (Int ⊕ ByteArray)))

abbrev Gam := Nat → Option Spec
abbrev Tab := Nat → Option Ty

def constV : Value → V
  | .int k n => .dat ⟨.int k, n⟩
  | .bool b => .dat ⟨.bool, b⟩
  | .string s => .dat ⟨.str, s⟩
  | .slice none 0 0 => .nils
  | .nilIface => .nili
  | .func (.func f) ⟨[]⟩ ⟨[]⟩ => .clo f []
  | _ => .bad

def evalV (tmp : Nat → V) : Operand → V
  | .tmp t => tmp t
  | .const v => constV v
  | .global _ => .bad
  | .func f => .clo f []

def asDat (t : Ty) : V → Res t.den
  | .dat d => if h : d.t = t then .ok (Ty.cast h d.x) else .fail
  | .agg d _ => if h : d.t = t then .ok (Ty.cast h d.x) else .fail
  | .nils => match t with
    | .sl _ _ => .ok []
    | _ => .fail
  | .nili => match t with
    | .any _ _ => .ok none
    | _ => .fail
  | .ifv i d => match t with
    | .any it st => match d with
      | ⟨.int .i64, n⟩ => match decide (i = it) with
        | true => .ok (some (.inl n))
        | false => .fail
      | ⟨.str, s⟩ => match decide (i = st) with
        | true => .ok (some (.inr s))
        | false => .fail
      | _ => .fail
    | _ => .fail
  | .own a => .getA a fun
    | .at_ A => if h : Ty.sl A.e A.t = t then
        match A.open_ with
        | true => .setA a (.at_ { A with open_ := false }) (.ok (Ty.cast (a := .sl A.e A.t) h A.xs))
        | false => .ok (Ty.cast (a := .sl A.e A.t) h A.xs)
      else .fail
    | _ => .fail
  | _ => .fail

def D.int? : D → Option (IntKind × Int)
  | ⟨.int k, n⟩ => some (k, n)
  | _ => none

def bitsI (op : BinOp) (k : IntKind) (x y : Int) : Int :=
  let a := BitVec.ofInt k.bits x
  let b := BitVec.ofInt k.bits y
  match op with
  | .and => k.wrap (a &&& b).toNat
  | .or => k.wrap (a ||| b).toNat
  | .xor => k.wrap (a ^^^ b).toNat
  | _ => k.wrap (a &&& ~~~b).toNat

def shlI (k : IntKind) (x y : Int) : Int := k.wrap (x * 2 ^ (min y.toNat k.bits))
def shrI (k : IntKind) (x y : Int) : Int := x.fdiv (2 ^ (min y.toNat k.bits))
def strLt (x y : ByteArray) : Bool := Op.bytesLess x.toList y.toList
def strAt (s : ByteArray) (i : Int) : Int := ((s.data.toList.getD i.toNat 0).toNat : Int)
def inI (i : Int) (n : Nat) : Bool := decide (0 ≤ i) && decide (i < (n : Int))

def intV (k : IntKind) (n : Int) : V := .dat ⟨.int k, n⟩
def boolV (b : Bool) : V := .dat ⟨.bool, b⟩
def strV (s : ByteArray) : V := .dat ⟨.str, s⟩

def binInt (op : BinOp) (k : IntKind) (x y : Int) : Res V :=
  match op with
  | .add => .ok (intV k (k.wrap (x + y)))
  | .sub => .ok (intV k (k.wrap (x - y)))
  | .mul => .ok (intV k (k.wrap (x * y)))
  | .quo => .chk (y != 0) (.ok (intV k (k.wrap (x.tdiv y))))
  | .rem => .chk (y != 0) (.ok (intV k (x.tmod y)))
  | .and | .or | .xor | .andNot => .ok (intV k (bitsI op k x y))
  | .eql => .ok (boolV (x == y))
  | .neq => .ok (boolV (x != y))
  | .lss => .ok (boolV (decide (x < y)))
  | .leq => .ok (boolV (decide (x ≤ y)))
  | .gtr => .ok (boolV (decide (x > y)))
  | .geq => .ok (boolV (decide (x ≥ y)))
  | _ => .fail
def binStr (op : BinOp) (x y : ByteArray) : Res V :=
  match op with
  | .add => .chk (decide (x.size + y.size < 4294967296)) (.ok (strV (x ++ y)))
  | .eql => .ok (boolV (decide (x = y)))
  | .neq => .ok (boolV (!decide (x = y)))
  | .lss => .ok (boolV (strLt x y))
  | .leq => .ok (boolV (strLt x y || decide (x = y)))
  | .gtr => .ok (boolV (!(strLt x y || decide (x = y))))
  | .geq => .ok (boolV (!strLt x y))
  | _ => .fail
def binD (T : Tab) (xt : TypeId) (op : BinOp) (x y : D) : Res V :=
  match x, y with
  | ⟨.int k, a⟩, ⟨.int k', b⟩ => match op with
    | .shl => .chk (decide (0 ≤ (b : Int))) (.ok (intV k (shlI k a b)))
    | .shr => .chk (decide (0 ≤ (b : Int))) (.ok (intV k (shrI k a b)))
    | op => if k = k' then binInt op k a b else .fail
  | ⟨.str, a⟩, ⟨.str, b⟩ => binStr op a b
  | x, y => if h : y.t = x.t then
      match decide (T xt = some x.t) && x.t.flat, op with
      | true, .eql => .ok (boolV (x.t.beq x.x (Ty.cast h y.x)))
      | true, .neq => .ok (boolV (!x.t.beq x.x (Ty.cast h y.x)))
      | _, _ => .fail
    else .fail
def unD (op : UnOp) : D → Res V
  | ⟨.bool, b⟩ => match op with
    | .not => .ok (boolV (!b))
    | _ => .fail
  | ⟨.int k, n⟩ => match op with
    | .neg => .ok (intV k (k.wrap (0 - n)))
    | _ => .fail
  | _ => .fail
def convD (dst : Ty) : D → Res V
  | ⟨.int _, n⟩ => match dst with
    | .int k => .ok (intV k (k.wrap n))
    | _ => .fail
  | ⟨.str, s⟩ => match dst with
    | .str => .ok (strV s)
    | _ => .fail
  | _ => .fail

def buildC : (c : Ty) → c.den → List (Nat × V) → Res c.den
  | _, x, [] => .ok x
  | c, x, (i, v) :: l => match chainGet c x i with
    | some e => (asDat e.t v).bind fun y => match chainSet c x i ⟨e.t, y⟩ with
      | some x' => buildC c x' l
      | none => .fail
    | none => .fail
def buildL (t : Ty) : List t.den → List (Nat × V) → Res (List t.den)
  | xs, [] => .ok xs
  | xs, (i, v) :: l => match decide (i < xs.length) with
    | true => (asDat t v).bind fun y => buildL t (xs.set i y) l
    | false => .fail
def chainTy : Ty → Nat → Option Ty
  | .pair a _, 0 => some a
  | .pair _ b, i + 1 => chainTy b i
  | c, 0 => some c
  | _, _ + 1 => none

def pathTy : List PS → Ty → Option Ty
  | [], t => some t
  | .fld i :: p, .st c => match chainTy c i with
    | some t => pathTy p t
    | none => none
  | .idx _ :: p, .arr _ t => pathTy p t
  | _, _ => none

def newBox (d : Nat) (t : Ty) (x : t.den) (nl : List Nat) : Res V := .getB d fun
  | none => .setB d ⟨t, x, nl.map fun i => (i, .nil)⟩ (.ok (.ptr d [] t))
  | some _ => .fail
def newArr (d : Nat) (e : TypeId) (t : Ty) (xs : List t.den) : Res V := .getA d fun
  | .no => .setA d (.at_ ⟨e, t, xs, true⟩) (.ok (.own d))
  | _ => .fail
def settleR (c : Ty) : c.den → List (Nat × LK) → Res c.den
  | x, [] => .ok x
  | x, (_, .nil) :: l => settleR c x l
  | _, (_, .hole) :: _ => .fail
  | x, (i, .own a) :: l => match chainTy c i with
    | some u => (asDat u (.own a)).bind fun y => match chainSet c x i ⟨u, y⟩ with
      | some x' => settleR c x' l
      | none => .fail
    | none => .fail
def settleB (b : Nat) : Box → Res V
  | ⟨.st c, x, lk⟩ => (settleR c x lk).bind fun y => .setB b ⟨.st c, y, []⟩ (.ok (.dat ⟨.st c, y⟩))
  | _ => .fail
def loadV (ty : Ty) : V → Res V
  | .ptr b p t => if t = ty then .getB b fun
    | some B => match lkHit B.lk p with
      | .free => match getP p B.t B.x with
        | some d => if d.t = ty then .ok (.dat d) else .fail
        | none => .fail
      | .at_ _ .nil => .ok .nils
      | .at_ _ (.own a) => .ok (.own a)
      | .whole => if B.t = ty then settleB b B else .fail
      | _ => .fail
    | none => .fail
    else .fail
  | .rptr d => if d.t = ty then .ok (.dat d) else .fail
  | .eptr a et i p t => if t = ty then .getA a fun
    | .at_ A => if h : A.open_ = true ∧ A.t = et then .chk (inI i A.xs.length) (match getP p A.t (A.xs.getD i.toNat A.t.zero) with
      | some d => if d.t = ty then .ok (.dat d) else .fail
      | none => .fail) else .fail
    | _ => .fail
    else .fail
  | _ => .fail
def linkV (ty : Ty) (b i : Nat) (B : Box) : V → Res V
  | .nils => .setB b ⟨B.t, B.x, (i, .nil) :: lkDrop B.lk i⟩ (.ok .bad)
  | .own a => .getA a fun
    | .at_ A => match A.open_ && decide (Ty.sl A.e A.t = ty) with
      | true => .setB b ⟨B.t, B.x, (i, .own a) :: lkDrop B.lk i⟩ (.ok .bad)
      | false => .fail
    | _ => .fail
  | x => (asDat ty x).bind fun y => match setP [.fld i] B.t B.x ⟨ty, y⟩ with
    | some z => .setB b ⟨B.t, z, lkDrop B.lk i⟩ (.ok .bad)
    | none => .fail
def nilsOf : V → List Nat
  | .agg _ nl => nl
  | _ => []
def storeV (ty : Ty) (a x : V) : Res V := match a with
  | .ptr b p t => if t = ty then .getB b fun
    | some B => match p, lkHit B.lk p with
      | [], _ => (asDat ty x).bind fun y => match setP [] B.t B.x ⟨ty, y⟩ with
        | some z => .setB b ⟨B.t, z, (nilsOf x).map fun i => (i, .nil)⟩ (.ok .bad)
        | none => .fail
      | p, .free => (asDat ty x).bind fun y => match setP p B.t B.x ⟨ty, y⟩ with
        | some z => .setB b ⟨B.t, z, B.lk⟩ (.ok .bad)
        | none => .fail
      | _, .at_ i _ => linkV ty b i B x
      | _, _ => .fail
    | none => .fail
    else .fail
  | .eptr a et i p t => if t = ty then (asDat ty x).bind fun y => .getA a fun
    | .at_ A => if h : A.open_ = true ∧ A.t = et then .chk (inI i A.xs.length) (match setP p A.t (A.xs.getD i.toNat A.t.zero) ⟨ty, y⟩ with
      | some z => .setA a (.at_ { A with xs := A.xs.set i.toNat z }) (.ok .bad)
      | none => .fail) else .fail
    | _ => .fail
    else .fail
  | _ => .fail

def capV : Cap → V
  | .ptr b t => .ptr b [] t
  | .dat d => .dat d
def toCap : V → Option Cap
  | .ptr b [] t => some (.ptr b t)
  | .dat d => some (.dat d)
  | .agg d _ => some (.dat d)
  | _ => none
def toCaps : List V → Option (List Cap)
  | [] => some []
  | v :: l => match toCap v, toCaps l with
    | some c, some cs => some (c :: cs)
    | _, _ => none
def peekD (t : Ty) : V → Res t.den
  | .ptr b [] _ => .getB b fun
    | some B => match lkFree B.lk && t.good with
      | true => if h : B.t = t then .ok (Ty.cast h B.x) else .fail
      | false => .fail
    | none => .fail
  | .rptr d => if h : d.t = t then .ok (Ty.cast h d.x) else .fail
  | _ => .fail
def capsOf (flat : Bool) : (ps : List PK) → List Cap → Res (dens ps)
  | [], [] => .ok ()
  | .val t :: ps, .dat d :: cs => if h : d.t = t then (capsOf flat ps cs).bind fun l => .ok (Ty.cast h d.x, l) else .fail
  | .ro t :: ps, c :: cs => match flat with
    | true => (peekD t (capV c)).bind fun x => (capsOf flat ps cs).bind fun l => .ok (x, l)
    | false => .fail
  | _, _ => .fail
def castF : {a' a r' r : Ty} → a' = a → r' = r → (a'.den → Option r'.den) → a.den → Option r.den
  | _, _, _, _, rfl, rfl, g => g
def fnOf (G : Gam) (a r : Ty) : V → Res (a.den → Option r.den)
  | .fnp a' r' g => if h : a' = a ∧ r' = r then .ok (castF h.1 h.2 g) else .fail
  | .fnc a' r' g => if h : a' = a ∧ r' = r then .ok (castF h.1 h.2 g) else .fail
  | .clo f caps => match G f with
    | some (.pu (.val a' :: ps) r' fn) => if h : a' = a ∧ r' = r then
        (capsOf r.flat ps caps).bind fun l => .ok (castF h.1 h.2 fun x => app ps (fn x) l)
      else .fail
    | _ => .fail
  | _ => .fail
def argsOf (G : Gam) (flat : Bool) : (ps : List PK) → List V → Res (dens ps)
  | [], [] => .ok ()
  | .val t :: ps, v :: vs => (asDat t v).bind fun x => (argsOf G flat ps vs).bind fun l => .ok (x, l)
  | .ro t :: ps, v :: vs => match flat with
    | true => (peekD t v).bind fun x => (argsOf G flat ps vs).bind fun l => .ok (x, l)
    | false => .fail
  | .fn a r :: ps, v :: vs => (fnOf G a r v).bind fun g => (argsOf G flat ps vs).bind fun l => .ok (g, l)
  | _, _ => .fail
def offB (b : Nat) : List V → Bool
  | [] => true
  | .ptr b' _ _ :: l => !Nat.beq b b' && offB b l
  | .clo _ _ :: _ => false
  | .fnp _ _ _ :: _ => false
  | .fnc _ _ _ :: _ => false
  | _ :: l => offB b l
def kindsOf (pi pst : TypeId) : List (TypeId × Nat × List PS × Ty) → Option (List Bool)
  | [] => some []
  | (t, _, _, .int .i64) :: l => match Nat.beq t pi, kindsOf pi pst l with
    | true, some r => some (true :: r)
    | _, _ => none
  | (t, _, _, .str) :: l => match Nat.beq t pst, kindsOf pi pst l with
    | true, some r => some (false :: r)
    | _, _ => none
  | _ => none
def newI (ys : List (Int ⊕ ByteArray)) (i : Nat) (o : Int) : Int := match ys[i]? with
  | some (.inl n) => n
  | _ => o
def newS (ys : List (Int ⊕ ByteArray)) (i : Nat) (o : ByteArray) : ByteArray := match ys[i]? with
  | some (.inr s) => s
  | _ => o
def storeAll : List (TypeId × Nat × List PS × Ty) → Nat → List (Int ⊕ ByteArray) → Res V
  | [], _, _ => .ok .bad
  | (_, b, p, pt) :: l, i, ys => .getB b fun
    | some ⟨t, x, []⟩ => match getP p t x with
      | some ⟨.int .i64, n⟩ => (storeV (.int .i64) (.ptr b p pt) (.dat ⟨.int .i64, newI ys i n⟩)).bind fun _ => storeAll l (i + 1) ys
      | some ⟨.str, s⟩ => (storeV .str (.ptr b p pt) (.dat ⟨.str, newS ys i s⟩)).bind fun _ => storeAll l (i + 1) ys
      | _ => .fail
    | _ => .fail
def callF (G : Gam) (dst : Option Tmp) (f : Nat) (vs : List V) : Res V :=
  match G f with
  | some (.pu ps r fn) => (argsOf G r.flat ps vs).bind fun as => .call (app ps fn as) fun y => .ok (.dat ⟨r, y⟩)
  | some (.fr ps e t fn) => match dst with
    | some d => (argsOf G false ps vs).bind fun as => .call (app ps fn as) fun ys => newArr d e t ys
    | none => .fail
  | some (.cl ps a r fn) => (argsOf G false ps vs).bind fun as => .call (app ps fn as) fun g => .ok (.fnc a r g)
  | some (.wr t ps r fn) => match vs with
    | .ptr b [] t' :: vs' => match decide (t' = t) && t.good && offB b vs' with
      | true => (argsOf G true ps vs').bind fun as => .getB b fun
        | some B => match lkFree B.lk with
          | true => if h : B.t = t then .call (app ps (fn (Ty.cast h B.x)) as) fun y => .setB b ⟨t, y.1, []⟩ (.ok (.dat ⟨r, y.2⟩)) else .fail
          | false => .fail
        | none => .fail
      | false => .fail
    | _ => .fail
  | some (.tk ae se it st pi pst fn) => match vs with
    | [a, b, .prow l] => match kindsOf pi pst l with
      | some ks => (asDat (.sl ae (.any it st)) a).bind fun x => (asDat (.sl se .str) b).bind fun y => .call (fn x y ks) fun z => (storeAll l 0 z.2).bind fun _ => .ok (boolV z.1)
      | none => .fail
    | _ => .fail
  | _ => .fail

def foldInt (f : Int → Int → Int) (k : IntKind) : Int → List V → Res V
  | n, [] => .ok (intV k n)
  | n, .dat ⟨.int k', m⟩ :: l => if k = k' then foldInt f k (f n m) l else .fail
  | _, _ => .fail

def lenV : Option Ty → V → Res V
  | some (.sl _ _), .nils => .ok (intV .i64 0)
  | some (.sl _ _), .dat ⟨.sl _ _, xs⟩ => .ok (intV .i64 (xs.length : Int))
  | some .str, .dat ⟨.str, s⟩ => .ok (intV .i64 (s.size : Int))
  | some (.sl _ _), .own a => .getA a fun
    | .at_ A => .ok (intV .i64 (A.xs.length : Int))
    | _ => .fail
  | _, _ => .fail
def baseV (e : TypeId) (t : Ty) : V → Res (List t.den)
  | .nils => .ok []
  | .own a => .getA a fun
    | .at_ A => match A.open_ with
      | true => if h : Ty.sl A.e A.t = .sl e t then .setA a .dead (.ok (Ty.cast (a := .sl A.e A.t) (b := .sl e t) h A.xs)) else .fail
      | false => .fail
    | _ => .fail
  | _ => .fail
def appMax : Nat := 4294967296

def builtV (T : Tab) (dst : Option Tmp) (b : Builtin) (argTypes : List TypeId) (vs : List V) : Res V :=
  match b, argTypes, vs with
  | .len, [t], [v] => lenV (T t) v
  | .max, _, .dat ⟨.int k, n⟩ :: l => foldInt (fun a b => max a b) k n l
  | .min, _, .dat ⟨.int k, n⟩ :: l => foldInt (fun a b => min a b) k n l
  | .append, [t, t'], [s, x] => match t == t', dst, T t with
    | true, some d, some (.sl e ty) => (baseV e ty s).bind fun xs => (asDat (.sl e ty) x).bind fun ys =>
        let ys : List ty.den := ys
        .chk (decide (xs.length + ys.length < appMax)) (newArr d e ty (xs ++ ys))
    | _, _, _ => .fail
  | _, _, _ => .fail

def callV (G : Gam) (T : Tab) (dst : Option Tmp) (ρ : Operand → V) (c : Call) : Res V :=
  match c.callee with
  | .builtin b => builtV T dst b c.argTypes.toList (c.args.toList.map ρ)
  | .value f => match ρ f with
    | .clo g caps => callF G dst g (c.args.toList.map ρ ++ caps.map capV)
    | .fnp a r g => match c.args.toList with
      | [x] => (asDat a (ρ x)).bind fun y => .call (g y) fun z => .ok (.dat ⟨r, z⟩)
      | _ => .fail
    | _ => .fail
  | _ => .fail

def sliceL {α : Type} (xs : List α) (lo hi : Int) : List α := (xs.take hi.toNat).drop lo.toNat
def idxD (e : TypeId) (t : Ty) (i : Int) (v : V) : Res V := (asDat (.sl e t) v).bind fun xs =>
  let xs : List t.den := xs
  .chk (inI i xs.length) (.ok (.rptr ⟨t, xs.getD i.toNat t.zero⟩))
def idxV (e : TypeId) (t : Ty) (i : Int) : V → Res V
  | .own a => .getA a fun
    | .at_ A => match A.open_ with
      | true => if Ty.sl A.e A.t = .sl e t then .chk (inI i A.xs.length) (.ok (.eptr a t i [] t)) else .fail
      | false => idxD e t i (.own a)
    | _ => .fail
  | v => idxD e t i v
def intOf (dflt : Int) : Option V → Option Int
  | none => some dflt
  | some (.dat ⟨.int _, n⟩) => some n
  | _ => none

def mapGet (k v : Ty) (key : k.den) : List (k.den × v.den) → Option v.den
  | [] => none
  | p :: l => bif k.beq key p.1 then some p.2 else mapGet k v key l
def mapPut (k v : Ty) (key : k.den) (x : v.den) : List (k.den × v.den) → List (k.den × v.den)
  | [] => [(key, x)]
  | p :: l => bif k.beq key p.1 then (key, x) :: l else p :: mapPut k v key x l
def lookV (k v : Ty) (es : List (k.den × v.den)) (key : k.den) (ok : Bool) : V :=
  match ok with
  | false => .dat ⟨v, (mapGet k v key es).getD v.zero⟩
  | true => .dat ⟨.tup (.pair v .bool), ((mapGet k v key es).getD v.zero, (mapGet k v key es).isSome)⟩
def iterNext (b : Nat) : Box → Res V
  | ⟨.iter, x, _⟩ => .br (decide (x.2 < ByteArray.size x.1))
      (.setB b ⟨.iter, (x.1, x.2 + (Utf8.decode x.1 x.2).2), []⟩ (.ok (.dat ⟨.tup (.pair .bool (.pair .i64 (.int .i32))), (true, ((x.2 : Int), ((Utf8.decode x.1 x.2).1 : Int)))⟩)))
      (.ok (.dat ⟨.tup .bool, false⟩))
  | _ => .fail
def ptsOf : Nat → List (Nat × V) → Option (List (TypeId × Nat × List PS × Ty))
  | _, [] => some []
  | i, (j, .ifp t b p pt) :: l => match Nat.beq i j, ptsOf (i + 1) l with
    | true, some r => some ((t, b, p, pt) :: r)
    | _, _ => none
  | _, _ => none
def prowOf (n : Nat) : List (Nat × V) → Option (List (TypeId × Nat × List PS × Ty))
  | (j, .ifp t b p pt) :: l => match decide (l.length + 1 = n) && decide (n ≤ 4096) with
    | true => ptsOf 0 ((j, .ifp t b p pt) :: l)
    | false => none
  | _ => none
def anyI : Option (Int ⊕ ByteArray) → Option Int
  | some (.inl n) => some n
  | _ => none
def anyS : Option (Int ⊕ ByteArray) → Option ByteArray
  | some (.inr s) => some s
  | _ => none
def assertV (asserted : TypeId) (ok : Bool) (it st : TypeId) (y : Option (Int ⊕ ByteArray)) : Res V :=
  match decide (asserted = it), decide (asserted = st) with
  | true, _ => match ok with
    | true => .ok (.dat ⟨.tup (.pair .i64 .bool), ((anyI y).getD 0, (anyI y).isSome)⟩)
    | false => .chk (anyI y).isSome (.ok (intV .i64 ((anyI y).getD 0)))
  | false, true => match ok with
    | true => .ok (.dat ⟨.tup (.pair .str .bool), ((anyS y).getD ⟨#[]⟩, (anyS y).isSome)⟩)
    | false => .chk (anyS y).isSome (.ok (strV ((anyS y).getD ⟨#[]⟩)))
  | _, _ => .fail
def vop (G : Gam) (T : Tab) (dst : Option Tmp) (ρ : Operand → V) : Op → Res V
  | .move x => .ok (ρ x)
  | .assign x => .ok (ρ x)
  | .pick c a b => match ρ c with
    | .dat ⟨.bool, c⟩ => match ρ a, ρ b with
      | .dat x, .dat y => if h : y.t = x.t then .ok (.dat ⟨x.t, bif c then x.x else Ty.cast h y.x⟩) else .fail
      | u, v => .br c (.ok u) (.ok v)
    | _ => .fail
  | .alloc e => match dst, T e with
    | some d, some t => newBox d t t.zero t.slFlds
    | _, _ => .fail
  | .box e x => match dst, T e with
    | some d, some t => (asDat t (ρ x)).bind fun y => newBox d t y (nilsOf (ρ x))
    | _, _ => .fail
  | .build t ps => match T t with
    | some (.st c) => (buildC c c.zero (ps.toList.map fun p => (p.1, ρ p.2))).bind fun x => match (chainSl c).filter fun i => !ps.toList.any fun p => Nat.beq p.1 i with
      | [] => .ok (.dat ⟨.st c, x⟩)
      | nl => .ok (.agg ⟨.st c, x⟩ nl)
    | some (.arr n t) => (buildL t (List.replicate n t.zero) (ps.toList.map fun p => (p.1, ρ p.2))).bind fun x => .ok (.dat ⟨.arr n t, x⟩)
    | _ => .fail
  | .buildSlice t n ps => match prowOf n (ps.toList.map fun p => (p.1, ρ p.2)) with
    | some l => match T t with
      | some (.sl _ (.any _ _)) => .ok (.prow l)
      | _ => .fail
    | none => match dst, T t, decide (n ≤ 4096) with
    | some d, some (.sl e t), true => (buildL t (List.replicate n t.zero) (ps.toList.map fun p => (p.1, ρ p.2))).bind fun x => newArr d e t x
    | _, _, _ => .fail
  | .load t a => match T t with
    | some ty => loadV ty (ρ a)
    | none => .fail
  | .store t a x => match T t with
    | some ty => storeV ty (ρ a) (ρ x)
    | none => .fail
  | .nilCheck x => match ρ x with
    | .ptr b p t => .ok (.ptr b p t)
    | .rptr d => .ok (.rptr d)
    | .clo f c => .ok (.clo f c)
    | .fnp a r g => .ok (.fnp a r g)
    | .eptr a et i p t => .ok (.eptr a et i p t)
    | _ => .fail
  | .binOp op xt x y _ => match ρ x, ρ y with
    | .dat a, .dat b => binD T xt op a b
    | _, _ => .fail
  | .unOp op _ x => match ρ x with
    | .dat a => unD op a
    | _ => .fail
  | .convert src dst x => match T src, T dst, ρ x with
    | some _, some t, .dat a => convD t a
    | _, _, _ => .fail
  | .makeFunc fn first caps => match fn, first.toList, toCaps (caps.toList.map ρ) with
    | .func f, [], some l => .ok (.clo f l)
    | _, _, _ => .fail
  | .slice t x lo hi none => match T t with
    | some (.sl e t) => (asDat (.sl e t) (ρ x)).bind fun xs =>
        let xs : List t.den := xs
        match intOf 0 (lo.map ρ), intOf (xs.length : Int) (hi.map ρ) with
        | some l, some h => .chk (decide (0 ≤ l) && decide (l ≤ h) && decide (h ≤ (xs.length : Int))) (.ok (.dat ⟨.sl e t, sliceL xs l h⟩))
        | _, _ => .fail
    | some .str => match ρ x with
      | .dat ⟨.str, s⟩ => match intOf 0 (lo.map ρ), intOf (s.size : Int) (hi.map ρ) with
        | some l, some h => .chk (decide (0 ≤ l) && decide (l ≤ h) && decide (h ≤ (s.size : Int))) (.ok (strV (ByteArray.extract s l.toNat h.toNat)))
        | _, _ => .fail
      | _ => .fail
    | _ => .fail
  | .fieldAddr s x f => match T s, ρ x with
    | some (.st c), .ptr b p (.st c') => if c' = c then match chainTy c f with
        | some t => .ok (.ptr b (p ++ [.fld f]) t)
        | none => .fail
      else .fail
    | some (.st c), .rptr ⟨.st c', y⟩ => if c' = c then match chainGet c' y f with
        | some d => .ok (.rptr d)
        | none => .fail
      else .fail
    | some (.st c), .eptr a et i p (.st c') => if c' = c then match chainTy c f with
        | some t => .ok (.eptr a et i (p ++ [.fld f]) t)
        | none => .fail
      else .fail
    | _, _ => .fail
  | .field s x f => match T s, ρ x with
    | some (.st c), .dat ⟨.st c', y⟩ => if c' = c then match chainGet c' y f with
        | some d => .ok (.dat d)
        | none => .fail
      else .fail
    | _, _ => .fail
  | .indexAddr t x i => match ρ i with
    | .dat ⟨.int _, i⟩ => match T t with
      | some (.arr n t) => match ρ x with
        | .ptr b p (.arr n' t') => if n' = n ∧ t' = t then .chk (inI i n) (.ok (.ptr b (p ++ [.idx i]) t)) else .fail
        | .rptr ⟨.arr n' t', xs⟩ => if n' = n ∧ t' = t then .chk (inI i n) (.ok (.rptr ⟨t', (xs : List t'.den).getD (i : Int).toNat t'.zero⟩)) else .fail
        | .eptr a et j p (.arr n' t') => if n' = n ∧ t' = t then .chk (inI i n) (.ok (.eptr a et j (p ++ [.idx i]) t)) else .fail
        | _ => .fail
      | some (.sl e t) => idxV e t i (ρ x)
      | _ => .fail
    | _ => .fail
  | .index t x i => match ρ i, T t, ρ x with
    | .dat ⟨.int _, i⟩, some (.arr n t), .dat ⟨.arr n' t', xs⟩ => if n' = n ∧ t' = t then .chk (inI i n) (.ok (.dat ⟨t', (xs : List t'.den).getD (i : Int).toNat t'.zero⟩)) else .fail
    | .dat ⟨.int _, i⟩, some .str, .dat ⟨.str, s⟩ => .chk (inI i (ByteArray.size s)) (.ok (intV .u8 (strAt s i)))
    | _, _, _ => .fail
  | .extract x i => match ρ x with
    | .dat ⟨.tup c, y⟩ => match chainGet c y i with
      | some d => .ok (.dat d)
      | none => .fail
    | _ => .fail
  | .lookup t m x ok => match T t, ρ m, ρ x with
    | some (.mp k v), .dat ⟨.mp k' v', es⟩, .dat d => if h : k' = k ∧ v' = v ∧ d.t = k' then .ok (lookV k' v' es (Ty.cast h.2.2 d.x) ok) else .fail
    | some (.mp k v), .own a, .dat d => .getA a fun
      | .mp M => if h : M.k = k ∧ M.v = v ∧ d.t = M.k then .ok (lookV M.k M.v M.es (Ty.cast h.2.2 d.x) ok) else .fail
      | _ => .fail
    | _, _, _ => .fail
  | .makeMap t none => match dst, T t with
    | some d, some (.mp k v) => .getA d fun
      | .no => .setA d (.mp ⟨k, v, []⟩) (.ok (.own d))
      | _ => .fail
    | _, _ => .fail
  | .mapUpdate t m x y => match T t, ρ m, ρ x, ρ y with
    | some (.mp k v), .own a, .dat d, .dat e => .getA a fun
      | .mp M => if h : M.k = k ∧ M.v = v ∧ d.t = M.k ∧ e.t = M.v then .setA a (.mp ⟨M.k, M.v, mapPut M.k M.v (Ty.cast h.2.2.1 d.x) (Ty.cast h.2.2.2 e.x) M.es⟩) (.ok .bad) else .fail
      | _ => .fail
    | _, _, _, _ => .fail
  | .call c => callV G T dst ρ c
  | .range t x => match dst, T t, ρ x with
    | some d, some .str, .dat ⟨.str, s⟩ => newBox d .iter (s, 0) []
    | _, _, _ => .fail
  | .next x true => match ρ x with
    | .ptr b [] .iter => .getB b fun
      | some B => iterNext b B
      | none => .fail
    | _ => .fail
  | .makeInterface t x => match T t, ρ x with
    | some (.int .i64), .dat ⟨.int .i64, n⟩ => .ok (.ifv t ⟨.int .i64, n⟩)
    | some .str, .dat ⟨.str, s⟩ => .ok (.ifv t ⟨.str, s⟩)
    | some (.pt _), .ptr b p pt => .ok (.ifp t b p pt)
    | _, _ => .fail
  | .typeAssert x xt asserted ok => match T xt, ρ x with
    | some (.any it st), .dat ⟨.any it' st', y⟩ => match decide (it' = it) && decide (st' = st) with
      | true => assertV asserted ok it st y
      | false => .fail
    | _, _ => .fail
  | _ => .fail

def dstAt (ops : Array Oper) (j : Nat) : Option Tmp := (ops[j]?).bind (·.dst)
def putV (tmp : Nat → V) (dst : Option Tmp) (v : V) : Nat → V := match dst with
  | some d => upd tmp d v
  | none => tmp

def oneOp {R : Type} (A : Alg R) (G : Gam) (T : Tab) (o : Oper) (st : St) (k : St → FP → Option R) : Option R :=
  (vop G T o.dst (evalV st.tmp) o.op).run A st.mem ⟨[], []⟩ fun v m fp => k ⟨putV st.tmp o.dst v, m⟩ fp
def skipOp (o : Oper) (st : St) : St := ⟨putV st.tmp o.dst .und, st.mem⟩
def guardOp {R : Type} (A : Alg R) (G : Gam) (T : Tab) (ops : Array Oper) (o : Oper) (st : St) (k : St → FP → Option R) : Option R :=
  match o.guard with
  | none => oneOp A G T o st k
  | some (j, want) => match dstAt ops j with
    | some t => match st.tmp t with
      | .dat ⟨.bool, b⟩ =>
        let yes : St := ⟨upd st.tmp t (boolV true), st.mem⟩
        let no : St := ⟨upd st.tmp t (boolV false), st.mem⟩
        match want with
        | true => A.br b (oneOp A G T o yes k) (k (skipOp o no) ⟨[], []⟩)
        | false => A.br b (k (skipOp o yes) ⟨[], []⟩) (oneOp A G T o no k)
      | .und => k (skipOp o st) ⟨[], []⟩
      | _ => none
    | none => none
def runOps {R : Type} (A : Alg R) (G : Gam) (T : Tab) (ops : Array Oper) : List Oper → St → List FP → (St → List FP → Option R) → Option R
  | [], st, acc, k => k st acc.reverse
  | o :: os, st, acc, k => guardOp A G T ops o st fun st' fp => runOps A G T ops os st' (fp :: acc) k

def aheadGo : List Oper → List Nat → List Nat
  | [], acc => acc
  | o :: os, acc => aheadGo os (acc ++ [o.after.toList.foldl (fun s e => bif Region.binds .any e then s ||| 2 ^ e.on ||| acc.getD e.on 0 else s) 0])
def disj (l m : List Nat) : Bool := l.all fun x => !m.any fun y => Nat.beq x y
def fpOk (a b : FP) : Bool := disj a.w b.r && disj a.w b.w && disj b.w a.r
def apartOk (ops : Array Oper) (x y : Oper) : Bool := x.apart ops y
def indep (ops : Array Oper) (fps : List FP) : Bool :=
  let B := aheadGo ops.toList []
  let rows := ops.toList.zip fps
  rows.zipIdx.all fun (y, j) => (rows.take j).zipIdx.all fun (x, i) => (B.getD j 0).testBit i || (apartOk ops x.1 y.1 && fpOk x.2 y.2)

def backB (ops : Array Oper) : Bool := ops.toList.zipIdx.all fun (o, i) => o.after.toList.all fun e => !Region.binds .any e || decide (e.on < i)
def dstB (n : Nat) (ops : Array Oper) : Bool := ops.toList.all fun o => match o.dst with
  | some d => decide (d < n)
  | none => true
def region {R : Type} (A : Alg R) (G : Gam) (T : Tab) (n : Nat) (ops : Array Oper) (draw : Bool) (st : St) (k : St → Option R) : Option R :=
  match dstB n ops with
  | false => none
  | true => runOps A G T ops ops.toList st [] fun st' fps => match draw with
    | false => k st'
    | true => match indep ops fps && backB ops with
      | true => k st'
      | false => none

inductive CapK where
  | ptr (b : Nat) (ty : Ty)
  | dat (ty : Ty)
abbrev capden : List CapK → Type
  | [] => Unit
  | .ptr _ _ :: ks => capden ks
  | .dat ty :: ks => ty.den × capden ks
inductive CK where
  | rptr (t : Nat) (ty : Ty)
  | fnp (t : Nat) (a r : Ty)
  | clo (t f : Nat) (ks : List CapK)
  | tmp (t : Nat) (ty : Ty)
  | own (t : Nat) (e : TypeId) (ty : Ty)
  | mapo (t : Nat) (k v : Ty)
  | ptr (t b : Nat) (ty : Ty)
  | box (b : Nat) (ty : Ty) (hs : List Nat)
  | lnk (t b i : Nat) (e : TypeId) (ty : Ty)
abbrev CK.den : CK → Type
  | .rptr _ ty => ty.den
  | .fnp _ a r => a.den → Option r.den
  | .clo _ _ ks => capden ks
  | .tmp _ ty => ty.den
  | .own _ _ ty => List ty.den
  | .mapo _ k v => List (k.den × v.den)
  | .ptr _ _ _ => Unit
  | .box _ ty _ => ty.den
  | .lnk _ _ _ _ ty => List ty.den
abbrev cden : List CK → Type
  | [] => Unit
  | c :: cs => c.den × cden cs

def readD (t : Ty) (m : Mem) : V → Option t.den
  | .dat d => if h : d.t = t then some (Ty.cast h d.x) else none
  | .agg d _ => if h : d.t = t then some (Ty.cast h d.x) else none
  | .nils => match t with
    | .sl _ _ => some []
    | _ => none
  | .nili => match t with
    | .any _ _ => some none
    | _ => none
  | .own a => match m.arr a with
    | .at_ A => if h : Ty.sl A.e A.t = t then some (Ty.cast (a := .sl A.e A.t) h A.xs) else none
    | .mp M => if h : Ty.mp M.k M.v = t then some (Ty.cast (a := .mp M.k M.v) h M.es) else none
    | _ => none
  | _ => none
def readCaps : (ks : List CapK) → List Cap → Option (capden ks)
  | [], [] => some ()
  | .ptr b ty :: ks, .ptr b' ty' :: cs => match Nat.beq b b' && decide (ty' = ty) with
    | true => readCaps ks cs
    | false => none
  | .dat ty :: ks, .dat d :: cs => if h : d.t = ty then match readCaps ks cs with
      | some l => some (Ty.cast h d.x, l)
      | none => none
    else none
  | _, _ => none
def putCaps : (ks : List CapK) → capden ks → List Cap
  | [], _ => []
  | .ptr b ty :: ks, l => .ptr b ty :: putCaps ks l
  | .dat ty :: ks, l => .dat ⟨ty, l.1⟩ :: putCaps ks l.2
def holesB (lk : List (Nat × LK)) (hs : List Nat) : Bool :=
  lk.all (fun e => e.2.isNil || hs.any fun i => Nat.beq i e.1) && hs.all fun i => (lkAt lk i).isSome
def readC (st : St) : (c : CK) → Option c.den
  | .rptr t ty => match st.tmp t with
    | .rptr d => if h : d.t = ty then some (Ty.cast h d.x) else none
    | _ => none
  | .fnp t a r => match st.tmp t with
    | .fnp a' r' g => if h : a' = a ∧ r' = r then some (castF h.1 h.2 g) else none
    | _ => none
  | .clo t f ks => match st.tmp t with
    | .clo f' cs => match Nat.beq f f' with
      | true => readCaps ks cs
      | false => none
    | _ => none
  | .tmp t ty => readD ty st.mem (st.tmp t)
  | .own t e ty => match st.tmp t with
    | .nils => some []
    | .own a => match st.mem.arr a with
      | .at_ A => match A.open_ with
        | true => if h : Ty.sl A.e A.t = .sl e ty then some (Ty.cast (a := .sl A.e A.t) (b := .sl e ty) h A.xs) else none
        | false => none
      | _ => none
    | _ => none
  | .mapo t k v => match st.tmp t with
    | .own a => match st.mem.arr a with
      | .mp M => if h : Ty.mp M.k M.v = .mp k v then some (Ty.cast (a := .mp M.k M.v) (b := .mp k v) h M.es) else none
      | _ => none
    | _ => none
  | .ptr t b ty => match st.tmp t with
    | .ptr b' [] ty' => match Nat.beq b b' && decide (ty' = ty) with
      | true => some ()
      | false => none
    | _ => none
  | .box b ty hs => match st.mem.box b with
    | some B => match holesB B.lk hs with
      | true => if h : B.t = ty then some (Ty.cast h B.x) else none
      | false => none
    | none => none
  | .lnk _ b i e ty => match st.mem.box b with
    | some B => match lkAt B.lk i with
      | some .nil => some []
      | some (.own a) => match st.mem.arr a with
        | .at_ A => match A.open_ with
          | true => if h : Ty.sl A.e A.t = .sl e ty then some (Ty.cast (a := .sl A.e A.t) (b := .sl e ty) h A.xs) else none
          | false => none
        | _ => none
      | _ => none
    | none => none
def readCs (st : St) : (cs : List CK) → Option (cden cs)
  | [] => some ()
  | c :: cs => match readC st c, readCs st cs with
    | some x, some l => some (x, l)
    | _, _ => none
def ownsOf (st : St) : List CK → List Nat
  | [] => []
  | .own t _ _ :: cs => match st.tmp t with
    | .own a => a :: ownsOf st cs
    | _ => ownsOf st cs
  | .mapo t _ _ :: cs => match st.tmp t with
    | .own a => a :: ownsOf st cs
    | _ => ownsOf st cs
  | .lnk _ b i _ _ :: cs => match st.mem.box b with
    | some B => match lkAt B.lk i with
      | some (.own a) => a :: ownsOf st cs
      | _ => ownsOf st cs
    | none => ownsOf st cs
  | _ :: cs => ownsOf st cs
def nodupB : List Nat → Bool
  | [] => true
  | x :: l => !(l.any fun y => Nat.beq x y) && nodupB l
def boxB (b : Nat) (t : Ty) : List CK → Bool
  | [] => false
  | .box b' t' _ :: cs => Nat.beq b b' && decide (t' = t) || boxB b t cs
  | _ :: cs => boxB b t cs
def boxIn (b : Nat) : List CK → Bool
  | [] => false
  | .box b' _ _ :: cs => Nat.beq b b' || boxIn b cs
  | _ :: cs => boxIn b cs
def ownIn (t : Nat) : List CK → Bool
  | [] => false
  | .own t' _ _ :: cs => Nat.beq t t' || ownIn t cs
  | .mapo t' _ _ :: cs => Nat.beq t t' || ownIn t cs
  | .lnk t' _ _ _ _ :: cs => Nat.beq t t' || ownIn t cs
  | _ :: cs => ownIn t cs
def holeB (b i : Nat) (u : Ty) : List CK → Bool
  | [] => false
  | .box b' t' hs :: cs => bif Nat.beq b b' then (hs.any fun j => Nat.beq j i) && (match t' with
      | .st c => decide (chainTy c i = some u)
      | _ => false) else holeB b i u cs
  | .lnk _ b' i' _ _ :: cs => !(Nat.beq b b' && Nat.beq i i') && holeB b i u cs
  | _ :: cs => holeB b i u cs
def capsB (cs : List CK) : List CapK → Bool
  | [] => true
  | .ptr b ty :: ks => boxB b ty cs && capsB cs ks
  | .dat _ :: ks => capsB cs ks
def cutOk : List CK → Bool
  | [] => true
  | .tmp _ _ :: cs => cutOk cs
  | .rptr _ _ :: cs => cutOk cs
  | .fnp _ _ _ :: cs => cutOk cs
  | .clo _ _ ks :: cs => capsB cs ks && cutOk cs
  | .own t _ _ :: cs => !ownIn t cs && cutOk cs
  | .mapo t _ _ :: cs => !ownIn t cs && cutOk cs
  | .ptr _ b ty :: cs => boxB b ty cs && cutOk cs
  | .box b _ hs :: cs => !boxIn b cs && nodupB hs && cutOk cs
  | .lnk t b i e ty :: cs => !ownIn t cs && holeB b i (.sl e ty) cs && cutOk cs
def datsOf (st : St) : List CK → List Nat
  | [] => []
  | .tmp t _ :: cs => match st.tmp t with
    | .own a => a :: datsOf st cs
    | _ => datsOf st cs
  | _ :: cs => datsOf st cs
def ownBase : Nat := 100000
def putC (st : St) : (c : CK) → c.den → St
  | .rptr t ty, x => ⟨upd st.tmp t (.rptr ⟨ty, x⟩), st.mem⟩
  | .fnp t a r, x => ⟨upd st.tmp t (.fnp a r x), st.mem⟩
  | .clo t f ks, x => ⟨upd st.tmp t (.clo f (putCaps ks x)), st.mem⟩
  | .tmp t ty, x => ⟨upd st.tmp t (.dat ⟨ty, x⟩), st.mem⟩
  | .own t e ty, x => ⟨upd st.tmp t (.own (t + ownBase)), st.mem.setA (t + ownBase) (.at_ ⟨e, ty, x, true⟩)⟩
  | .mapo t k v, x => ⟨upd st.tmp t (.own (t + ownBase)), st.mem.setA (t + ownBase) (.mp ⟨k, v, x⟩)⟩
  | .ptr t b ty, _ => ⟨upd st.tmp t (.ptr b [] ty), st.mem⟩
  | .box b ty hs, x => ⟨st.tmp, st.mem.setB b ⟨ty, x, hs.map fun i => (i, .hole)⟩⟩
  | .lnk t b i e ty, x => match st.mem.box b with
    | some B => ⟨st.tmp, (st.mem.setB b ⟨B.t, B.x, (i, .own (t + ownBase)) :: lkDrop B.lk i⟩).setA (t + ownBase) (.at_ ⟨e, ty, x, true⟩)⟩
    | none => st
def St.empty : St := ⟨fun _ => .bad, ⟨fun _ => none, fun _ => .no⟩⟩
def putCs : (cs : List CK) → cden cs → St
  | [], _ => St.empty
  | c :: cs, l => putC (putCs cs l.2) c l.1

structure Fn (R : Type) where
  A : Alg R
  G : Gam
  T : Tab
  n : Nat
  cuts : List (Nat × List CK)
  fin : St → Option R
def cutAt : List (Nat × List CK) → Nat → Option (List CK)
  | [], _ => none
  | (i, c) :: l, j => bif Nat.beq i j then some c else cutAt l j

def runT {R : Type} (F : Fn R) (next : List Item → St → Option R) : Nat → Bool → List Item → St → Option R
  | 0, _, _, _ => none
  | _ + 1, _, [], st => F.fin st
  | s + 1, fr, .code c :: k, st => match c with
    | .skip => runT F next s fr k st
    | .label _ => runT F next s fr k st
    | .ret => F.fin st
    | .seq a b => runT F next s fr (.code a :: .code b :: k) st
    | .cond c x y => match evalV st.tmp c with
      | .dat ⟨.bool, b⟩ => F.A.br b (runT F next s fr (.code x :: k) st) (runT F next s fr (.code y :: k) st)
      | _ => none
    | .block id b => runT F next s fr (.code b :: .inBlock id :: k) st
    | .loop b => runT F next s fr (.code b :: .inLoop b :: k) st
    | .scope b => runT F next s fr (.code b :: .inScope b :: k) st
    | .exit id => match exitTo id k with
      | some k' => runT F next s fr k' st
      | none => none
    | .region id ops draw => match (bif fr then none else cutAt F.cuts id) with
      | some cs => match cutOk cs && nodupB (ownsOf st cs) && disj (datsOf st cs) (ownsOf st cs), readCs st cs with
        | true, some l => next (.code (.region id ops draw) :: k) (putCs cs l)
        | _, _ => none
      | none => region F.A F.G F.T F.n ops draw st fun st' => runT F next s false k st'
    | _ => none
  | s + 1, fr, .inBlock _ :: k, st => runT F next s fr k st
  | s + 1, fr, .inScope _ :: k, st => runT F next s fr k st
  | s + 1, fr, .inLoop b :: k, st => runT F next s fr (.code b :: .inLoop b :: k) st
  | _ + 1, _, _ :: _, _ => none
def runK {R : Type} (F : Nat → Fn R) : Nat → List Item → St → Option R
  | 0, _, _ => none
  | k + 1, todo, st => runT (F k) (runK F k) 100000 true todo st

def putP (ps : List PK) : dens ps → (i : Nat) → St → St := match ps with
  | [] => fun _ _ st => st
  | .val t :: ps => fun a i st => putP ps a.2 (i + 1) ⟨upd st.tmp i (.dat ⟨t, a.1⟩), st.mem⟩
  | .ro t :: ps => fun a i st => putP ps a.2 (i + 1) ⟨upd st.tmp i (.rptr ⟨t, a.1⟩), st.mem⟩
  | .rw t :: ps => fun a i st => putP ps a.2 (i + 1) ⟨upd st.tmp i (.ptr (i + 2 * ownBase) [] t), st.mem.setB (i + 2 * ownBase) ⟨t, a.1, []⟩⟩
  | .fn x r :: ps => fun a i st => putP ps a.2 (i + 1) ⟨upd st.tmp i (.fnp x r a.1), st.mem⟩

def readR (T : Tab) (st : St) (t : Ty) : ResultVar → Option t.den
  | .tmp i => readD t st.mem (st.tmp i)
  | .cell i ty => match st.tmp i, T ty with
    | .ptr b [] _, some u => match st.mem.box b with
      | some B => match lkFree B.lk with
        | true => if h : B.t = t ∧ u = t then some (Ty.cast h.1 B.x) else none
        | false => none
      | none => none
    | _, _ => none
def readRs (T : Tab) (st : St) : (t : Ty) → List ResultVar → Option t.den
  | .pair a b, r :: q :: rs => match readR T st a r, readRs T st b (q :: rs) with
    | some x, some y => some (x, y)
    | _, _ => none
  | t, [r] => readR T st t r
  | _, _ => none
def finR (T : Tab) (fn : Func) (t : Ty) (st : St) : Option t.den := match t, fn.results.toList with
  | .unit, [] => some ()
  | .tup c, r :: q :: l => match c.good with
    | true => readRs T st c (r :: q :: l)
    | false => none
  | t, [r] => match t.good with
    | true => readR T st t r
    | false => none
  | _, _ => none

def Fn.of (A : (R : Type) → Alg R) (G : Nat → Gam) (T : Tab) (fn : Func) (cuts : List (Nat × List CK)) (r : Ty) (k : Nat) : Fn r.den :=
  ⟨A _, G k, T, fn.ntmps, cuts, finR T fn r⟩
def runF (A : (R : Type) → Alg R) (G : Nat → Gam) (T : Tab) (fn : Func) (cuts : List (Nat × List CK)) (ps : List PK) (r : Ty) (k : Nat) : fns ps (Option r.den) :=
  cur ps fun a => match fn.body with
    | some c => runT (Fn.of A G T fn cuts r k) (runK (Fn.of A G T fn cuts r) k) 100000 false [.code c] (putP ps a 0 St.empty)
    | none => none

def todoAt (n : Nat) : Nat → List Item → Option (List Item)
  | 0, _ => none
  | _ + 1, [] => none
  | s + 1, .code c :: k => match c with
    | .seq a b => todoAt n s (.code a :: .code b :: k)
    | .cond _ x y => match todoAt n s (.code x :: k) with
      | some l => some l
      | none => todoAt n s (.code y :: k)
    | .block id b => match todoAt n s (.code b :: .inBlock id :: k) with
      | some l => some l
      | none => todoAt n s k
    | .loop b => todoAt n s (.code b :: .inLoop b :: k)
    | .scope b => todoAt n s (.code b :: .inScope b :: k)
    | .region id ops draw => bif Nat.beq id n then some (.code (.region id ops draw) :: k) else todoAt n s k
    | .skip | .label _ => todoAt n s k
    | _ => none
  | s + 1, .inBlock _ :: k => todoAt n s k
  | s + 1, .inScope _ :: k => todoAt n s k
  | _ + 1, _ :: _ => none
def runC (A : (R : Type) → Alg R) (G : Nat → Gam) (T : Tab) (fn : Func) (cuts : List (Nat × List CK)) (r : Ty) (n : Nat) (cs : List CK) (k : Nat) (l : cden cs) : Option r.den :=
  match fn.body with
  | some c => match todoAt n 100000 [.code c] with
    | some todo => runK (Fn.of A G T fn cuts r) k todo (putCs cs l)
    | none => none
  | none => none
end Go.Vm
end
section
namespace Go.Vm
open Go.RowKit

def RelL {α : Type} (R : α → List Value → Prop) : List α → List Value → Prop
  | [], cs => cs = []
  | y :: ys, cs => ∃ c0 c1, cs = c0 ++ c1 ∧ R y c0 ∧ RelL R ys c1

def CellsAt (w : World) (ad : Addr) (cs : List Value) : Prop := ∀ (i : Nat) (u : Value), cs[i]? = some u → w.cell? (ad.add i) = some u

def RelE {α β : Type} (R : α → Value → Prop) (Q : β → Value → Prop) : List (α × β) → List MapEntry → Prop
  | [], [] => True
  | p :: ps, e :: es => R p.1 e.key ∧ Q p.2 e.val ∧ RelE R Q ps es
  | _, _ => False

def anyV (it st : TypeId) : Option (Int ⊕ ByteArray) → Value
  | none => .nilIface
  | some (.inl n) => .iface it (.int .i64 n)
  | some (.inr s) => .iface st (.string s)
theorem anyV_one {it st : TypeId} : ∀ x, (anyV it st x).oneCell' = true
  | none => rfl
  | some (.inl _) => rfl
  | some (.inr _) => rfl
theorem anyV_cells {it st : TypeId} : ∀ x, (anyV it st x).cells = #[anyV it st x]
  | none => rfl
  | some (.inl _) => rfl
  | some (.inr _) => rfl
def RelC (w : World) (S : Nat → Prop) : (t : Ty) → t.den → List Value → Prop
  | .int k, x, cs => cs = [.int k x]
  | .bool, x, cs => cs = [.bool x]
  | .str, x, cs => cs = [.string x]
  | .sl _ t, x, cs => ∃ A c, cs = [.slice A (List.length (α := t.den) x) c] ∧ List.length (α := t.den) x ≤ c ∧
      (0 < List.length (α := t.den) x → ∃ ad inner, A = some ad ∧ S ad.block ∧ inner.length = List.length (α := t.den) x * t.size ∧ CellsAt w ad inner ∧ RelL (RelC w S t) x inner)
  | .mp k v, x, cs => (cs = [.map none] ∧ List.length (α := k.den × v.den) x = 0) ∨ ∃ g es clock, cs = [.map (some g)] ∧ S g ∧ w.heap[g]? = some (.map es clock) ∧ RelE (fun a u => RelC w S k a [u]) (fun b u => RelC w S v b [u]) x es.toList
  | .arr n t, x, cs => List.length (α := t.den) x = n ∧ RelL (RelC w S t) x cs
  | .st c, x, cs => RelC w S c x cs
  | .pair a b, x, cs => ∃ c0 c1, cs = c0 ++ c1 ∧ RelC w S a x.1 c0 ∧ RelC w S b x.2 c1
  | .tup _, _, _ => False
  | .unit, _, _ => False
  | .any it st, x, cs => cs = [anyV it st x]
  | .pt _, _, cs => cs = [.pointer none]
  | .iter, _, _ => False

theorem RelL.imp {α : Type} {R R' : α → List Value → Prop} (h : ∀ y c, R y c → R' y c) : ∀ {ys : List α} {cs : List Value}, RelL R ys cs → RelL R' ys cs
  | [], _, hr => hr
  | _ :: _, _, ⟨c0, c1, e, h0, h1⟩ => ⟨c0, c1, e, h _ _ h0, h1.imp h⟩
theorem RelL.append {α : Type} {R : α → List Value → Prop} : ∀ {xs ys : List α} {cs ds : List Value}, RelL R xs cs → RelL R ys ds → RelL R (xs ++ ys) (cs ++ ds)
  | [], _, _, _, h, k => by cases h; exact k
  | _ :: _, _, _, _, ⟨c0, c1, e, h0, h1⟩, k => ⟨c0, c1 ++ _, by rw [e, List.append_assoc], h0, h1.append k⟩
theorem RelL.len {α : Type} {R : α → List Value → Prop} {n : Nat} (h : ∀ y c, R y c → c.length = n) : ∀ {ys : List α} {cs : List Value}, RelL R ys cs → cs.length = ys.length * n
  | [], _, hr => by cases hr; simp
  | _ :: ys, _, ⟨c0, c1, e, h0, h1⟩ => by rw [e, List.length_append, h _ _ h0, h1.len h, List.length_cons, Nat.add_mul, Nat.one_mul, Nat.add_comm]
theorem RelL.at_ {α : Type} {R : α → List Value → Prop} {n : Nat} (h : ∀ y c, R y c → c.length = n) : ∀ {ys : List α} {cs : List Value}, RelL R ys cs → ∀ {j : Nat} {y : α}, ys[j]? = some y →
    ∃ a c b, cs = a ++ c ++ b ∧ a.length = j * n ∧ R y c ∧ RelL R (ys.take j) a ∧ RelL R (ys.drop (j + 1)) b
  | [], _, _, j, y, hj => by simp at hj
  | z :: ys, cs, ⟨c0, c1, e, h0, h1⟩, 0, y, hj => by
    have : z = y := by simpa using hj
    subst this
    exact ⟨[], c0, c1, by simp [e], by simp, h0, rfl, by simpa using h1⟩
  | z :: ys, cs, ⟨c0, c1, e, h0, h1⟩, j + 1, y, hj => by
    obtain ⟨a, c, b, e2, hl, hr, ha, hb⟩ := h1.at_ h (j := j) (y := y) (by simpa using hj)
    refine ⟨c0 ++ a, c, b, by rw [e, e2]; simp [List.append_assoc], ?_, hr, ⟨c0, a, rfl, h0, ha⟩, by simpa using hb⟩
    rw [List.length_append, h _ _ h0, hl, Nat.add_mul, Nat.one_mul, Nat.add_comm]
theorem RelL.set {α : Type} {R : α → List Value → Prop} {y : α} {c : List Value} (hy : R y c) : ∀ {ys : List α} {j : Nat} {a b : List Value}, j < ys.length → RelL R (ys.take j) a → RelL R (ys.drop (j + 1)) b → RelL R (ys.set j y) (a ++ c ++ b)
  | [], j, _, _, hj, _, _ => by simp at hj
  | z :: ys, 0, a, b, _, ha, hb => by
    have : a = [] := ha
    subst this
    exact ⟨c, b, by simp, hy, by simpa using hb⟩
  | z :: ys, j + 1, a, b, hj, ha, hb => by
    obtain ⟨c0, c1, e, h0, h1⟩ := ha
    subst e
    exact ⟨c0, c1 ++ c ++ b, by simp [List.append_assoc], h0, RelL.set hy (by simpa using hj) h1 (by simpa using hb)⟩
theorem RelL.take {α : Type} {R : α → List Value → Prop} {n : Nat} (h : ∀ y c, R y c → c.length = n) : ∀ {ys : List α} {cs : List Value}, RelL R ys cs → ∀ m, RelL R (ys.take m) (cs.take (m * n))
  | [], _, hr, m => by cases hr; simp [RelL]
  | z :: ys, cs, hr, 0 => by simp [RelL]
  | z :: ys, cs, ⟨c0, c1, e, h0, h1⟩, m + 1 => by
    refine ⟨c0, c1.take (m * n), ?_, h0, h1.take h m⟩
    have hl := h _ _ h0
    rw [e, Nat.add_mul, Nat.one_mul, List.take_append, List.take_of_length_le (by omega)]
    congr 2
    omega
theorem RelL.drop {α : Type} {R : α → List Value → Prop} {n : Nat} (h : ∀ y c, R y c → c.length = n) : ∀ {ys : List α} {cs : List Value}, RelL R ys cs → ∀ m, RelL R (ys.drop m) (cs.drop (m * n))
  | [], _, hr, m => by cases hr; simp [RelL]
  | z :: ys, cs, hr, 0 => by simpa using hr
  | z :: ys, cs, ⟨c0, c1, e, h0, h1⟩, m + 1 => by
    have := h1.drop h m
    have hl := h _ _ h0
    have e3 : m * n + n - c0.length = m * n := by omega
    rw [e, Nat.add_mul, Nat.one_mul, List.drop_append, e3, List.drop_eq_nil_of_le (as := c0) (by omega), List.nil_append]
    simpa using this

theorem RelE.imp {α β : Type} {R R' : α → Value → Prop} {Q Q' : β → Value → Prop} (h : ∀ y c, R y c → R' y c) (k : ∀ y c, Q y c → Q' y c) : ∀ {ps : List (α × β)} {es : List MapEntry}, RelE R Q ps es → RelE R' Q' ps es
  | [], [], _ => trivial
  | _ :: _, _ :: _, ⟨h0, h1, h2⟩ => ⟨h _ _ h0, k _ _ h1, RelE.imp h k h2⟩
  | [], _ :: _, h2 => h2.elim
  | _ :: _, [], h2 => h2.elim
theorem RelC.len {w : World} {S : Nat → Prop} : ∀ {t : Ty} {x : t.den} {cs : List Value}, RelC w S t x cs → cs.length = t.size
  | .int _, _, _, h => by rw [h]; rfl
  | .bool, _, _, h => by rw [h]; rfl
  | .str, _, _, h => by rw [h]; rfl
  | .any _ _, _, _, h => by rw [h]; rfl
  | .pt _, _, _, h => by rw [h]; rfl
  | .sl _ _, _, _, ⟨_, _, e, _⟩ => by rw [e]; rfl
  | .mp _ _, _, _, .inl ⟨e, _⟩ => by rw [e]; rfl
  | .mp _ _, _, _, .inr ⟨_, _, _, e, _⟩ => by rw [e]; rfl
  | .arr n t, x, cs, ⟨hn, h⟩ => by rw [h.len (fun _ _ hh => RelC.len hh), hn]; rfl
  | .st c, _, _, h => RelC.len (t := c) h
  | .pair a b, _, _, ⟨_, _, e, h0, h1⟩ => by rw [e, List.length_append, RelC.len h0, RelC.len h1]; rfl

theorem RelL.one {α : Type} {R : α → List Value → Prop} (h : ∀ y c, R y c → ∀ u ∈ c, u.oneCell' = true) : ∀ {ys : List α} {cs : List Value}, RelL R ys cs → ∀ u ∈ cs, u.oneCell' = true
  | [], _, hr, u, hu => by cases hr; simp at hu
  | _ :: _, _, ⟨c0, c1, e, h0, h1⟩, u, hu => by
    rw [e] at hu
    rcases List.mem_append.1 hu with hu | hu
    · exact h _ _ h0 u hu
    · exact h1.one h u hu
theorem RelC.one {w : World} {S : Nat → Prop} : ∀ {t : Ty} {x : t.den} {cs : List Value}, RelC w S t x cs → ∀ u ∈ cs, u.oneCell' = true
  | .int _, _, _, h, u, hu => by rw [h] at hu; rw [List.mem_singleton.1 hu]; rfl
  | .bool, _, _, h, u, hu => by rw [h] at hu; rw [List.mem_singleton.1 hu]; rfl
  | .str, _, _, h, u, hu => by rw [h] at hu; rw [List.mem_singleton.1 hu]; rfl
  | .any _ _, _, _, h, u, hu => by rw [h] at hu; rw [List.mem_singleton.1 hu]; exact anyV_one _
  | .pt _, _, _, h, u, hu => by rw [h] at hu; rw [List.mem_singleton.1 hu]; rfl
  | .sl _ _, _, _, ⟨_, _, e, _⟩, u, hu => by rw [e] at hu; rw [List.mem_singleton.1 hu]; rfl
  | .mp _ _, _, _, .inl ⟨e, _⟩, u, hu => by rw [e] at hu; rw [List.mem_singleton.1 hu]; rfl
  | .mp _ _, _, _, .inr ⟨_, _, _, e, _⟩, u, hu => by rw [e] at hu; rw [List.mem_singleton.1 hu]; rfl
  | .arr n t, x, cs, ⟨_, h⟩, u, hu => h.one (fun _ _ hh => RelC.one hh) u hu
  | .st c, _, _, h, u, hu => RelC.one (t := c) h u hu
  | .pair a b, _, _, ⟨c0, c1, e, h0, h1⟩, u, hu => by
    rw [e] at hu
    rcases List.mem_append.1 hu with hu | hu
    · exact RelC.one h0 u hu
    · exact RelC.one h1 u hu

def SameOn (S : Nat → Prop) (w w' : World) : Prop := ∀ b, S b → w'.heap[b]? = w.heap[b]?
theorem CellsAt.move {w w' : World} {ad : Addr} {cs : List Value} (h : CellsAt w ad cs) (hb : w'.heap[ad.block]? = w.heap[ad.block]?) : CellsAt w' ad cs := fun i u hu => by
  rw [World.cell?_of_block (w := w) (a := ad.add i) (by rw [Addr.add]; split <;> exact hb)]
  exact h i u hu
theorem RelC.move {w w' : World} {S S' : Nat → Prop} (hs : SameOn S w w') (hS : ∀ b, S b → S' b) : ∀ {t : Ty} {x : t.den} {cs : List Value}, RelC w S t x cs → RelC w' S' t x cs
  | .int _, _, _, h => h
  | .bool, _, _, h => h
  | .str, _, _, h => h
  | .any _ _, _, _, h => h
  | .pt _, _, _, h => h
  | .sl e t, x, _, ⟨A, c, e1, hl, h⟩ => ⟨A, c, e1, hl, fun hn => by
      obtain ⟨ad, inner, ha, hsb, hi, hc, hr⟩ := h hn
      exact ⟨ad, inner, ha, hS _ hsb, hi, hc.move (hs _ hsb), hr.imp (fun _ _ hh => RelC.move hs hS hh)⟩⟩
  | .mp k v, x, _, .inl h => .inl h
  | .mp k v, x, _, .inr ⟨g, es, cl, e, hg, hh, hr⟩ => .inr ⟨g, es, cl, e, hS _ hg, (hs _ hg).trans hh, hr.imp (fun _ _ hh => RelC.move hs hS hh) (fun _ _ hh => RelC.move hs hS hh)⟩
  | .arr n t, x, cs, ⟨hn, h⟩ => ⟨hn, h.imp (fun _ _ hh => RelC.move hs hS hh)⟩
  | .st c, _, _, h => RelC.move (t := c) hs hS h
  | .pair a b, _, _, ⟨c0, c1, e, h0, h1⟩ => ⟨c0, c1, e, RelC.move hs hS h0, RelC.move hs hS h1⟩

theorem RelC.flat {w w' : World} {S S' : Nat → Prop} : ∀ {t : Ty} {x : t.den} {cs : List Value}, t.flat = true → RelC w S t x cs → RelC w' S' t x cs
  | .int _, _, _, _, h => h
  | .bool, _, _, _, h => h
  | .str, _, _, _, h => h
  | .any _ _, _, _, hf, h => h
  | .pt _, _, _, hf, h => h
  | .sl e t, x, _, hf, _ => by simp [Ty.flat] at hf
  | .mp _ _, x, _, hf, _ => by simp [Ty.flat] at hf
  | .arr n t, x, cs, hf, ⟨hn, h⟩ => ⟨hn, h.imp (fun _ _ hh => RelC.flat (by simpa [Ty.flat] using hf) hh)⟩
  | .st c, _, _, hf, h => RelC.flat (t := c) (by simpa [Ty.flat] using hf) h
  | .pair a b, _, _, hf, ⟨c0, c1, e, h0, h1⟩ => by
    simp only [Ty.flat, Bool.and_eq_true] at hf
    exact ⟨c0, c1, e, RelC.flat hf.1 h0, RelC.flat hf.2 h1⟩

def RelV1 (w : World) (S : Nat → Prop) (t : Ty) (x : t.den) (v : Value) : Prop := match t, x with
  | .st c, x => ∃ cs, v = .agg cs ∧ RelC w S (.st c) x cs.toList
  | .arr n t, x => ∃ cs, v = .agg cs ∧ RelC w S (.arr n t) x cs.toList
  | .pair _ _, _ => False
  | t, x => RelC w S t x [v]
def RelT (w : World) (S : Nat → Prop) : (c : Ty) → c.den → List Value → Prop
  | .pair a b, x, vs => ∃ v l, vs = v :: l ∧ RelV1 w S a x.1 v ∧ RelT w S b x.2 l
  | c, x, vs => ∃ v, vs = [v] ∧ RelV1 w S c x v
def RelD (w : World) (S : Nat → Prop) (t : Ty) (x : t.den) (v : Value) : Prop := match t, x with
  | .tup c, x => ∃ vs, v = .tuple vs ∧ RelT w S c x vs.toList
  | .unit, _ => v = .tuple #[]
  | t, x => RelV1 w S t x v

theorem RelV1.cells {w : World} {S : Nat → Prop} {t : Ty} {x : t.den} {v : Value} (h : RelV1 w S t x v) : RelC w S t x v.cells.toList := by
  cases t with
  | st c => obtain ⟨cs, rfl, hh⟩ := h; exact hh
  | arr n t => obtain ⟨cs, rfl, hh⟩ := h; exact hh
  | pair a b => exact h.elim
  | tup c => exact h.elim
  | unit => exact h.elim
  | int k =>
    have : v = .int k x := by simpa [RelV1, RelC] using h
    subst this; rfl
  | bool =>
    have : v = .bool x := by simpa [RelV1, RelC] using h
    subst this; rfl
  | str =>
    have : v = .string x := by simpa [RelV1, RelC] using h
    subst this; rfl
  | pt e =>
    have : v = .pointer none := by simpa [RelV1, RelC] using h
    subst this; rfl
  | any it st =>
    have : v = anyV it st x := by simpa [RelV1, RelC] using h
    subst this
    rw [anyV_cells]
    rfl
  | iter => exact (show False from h).elim
  | sl e t =>
    obtain ⟨A, c, e1, hh⟩ := h
    have : v = .slice A (List.length (α := t.den) x) c := by simpa using e1
    subst this
    exact ⟨A, c, rfl, hh⟩
  | mp k t =>
    rcases h with ⟨e, hl⟩ | ⟨g, es, cl, e, hh⟩
    · have : v = .map none := by simpa using e
      subst this
      exact .inl ⟨rfl, hl⟩
    · have : v = .map (some g) := by simpa using e
      subst this
      exact .inr ⟨g, es, cl, rfl, hh⟩
theorem RelV1.move {w w' : World} {S S' : Nat → Prop} (hs : SameOn S w w') (hS : ∀ b, S b → S' b) {t : Ty} {x : t.den} {v : Value} (h : RelV1 w S t x v) : RelV1 w' S' t x v := by
  cases t with
  | st c => obtain ⟨cs, rfl, hh⟩ := h; exact ⟨cs, rfl, hh.move hs hS⟩
  | arr n t => obtain ⟨cs, rfl, hh⟩ := h; exact ⟨cs, rfl, hh.move hs hS⟩
  | pair a b => exact h.elim
  | _ => exact RelC.move (w := w) (S := S) (x := x) hs hS (show RelC w S _ x [v] from h)
theorem RelT.move {w w' : World} {S S' : Nat → Prop} (hs : SameOn S w w') (hS : ∀ b, S b → S' b) : ∀ {c : Ty} {x : c.den} {vs : List Value}, RelT w S c x vs → RelT w' S' c x vs
  | .pair _ _, _, _, ⟨v, l, e, h0, h1⟩ => ⟨v, l, e, h0.move hs hS, RelT.move hs hS h1⟩
  | .int _, _, _, ⟨v, e, h⟩ => ⟨v, e, h.move hs hS⟩
  | .bool, _, _, ⟨v, e, h⟩ => ⟨v, e, h.move hs hS⟩
  | .str, _, _, ⟨v, e, h⟩ => ⟨v, e, h.move hs hS⟩
  | .any _ _, _, _, ⟨v, e, h⟩ => ⟨v, e, h.move hs hS⟩
  | .pt _, _, _, ⟨v, e, h⟩ => ⟨v, e, h.move hs hS⟩
  | .iter, _, _, ⟨v, e, h⟩ => ⟨v, e, h.move hs hS⟩
  | .sl _ _, _, _, ⟨v, e, h⟩ => ⟨v, e, h.move hs hS⟩
  | .mp _ _, _, _, ⟨v, e, h⟩ => ⟨v, e, h.move hs hS⟩
  | .arr _ _, _, _, ⟨v, e, h⟩ => ⟨v, e, h.move hs hS⟩
  | .st _, _, _, ⟨v, e, h⟩ => ⟨v, e, h.move hs hS⟩
  | .tup _, _, _, ⟨v, e, h⟩ => ⟨v, e, h.move hs hS⟩
  | .unit, _, _, ⟨v, e, h⟩ => ⟨v, e, h.move hs hS⟩
theorem RelD.move {w w' : World} {S S' : Nat → Prop} (hs : SameOn S w w') (hS : ∀ b, S b → S' b) {t : Ty} {x : t.den} {v : Value} (h : RelD w S t x v) : RelD w' S' t x v := by
  cases t with
  | tup c => obtain ⟨vs, e, hh⟩ := h; exact ⟨vs, e, hh.move hs hS⟩
  | unit => exact h
  | _ => exact RelV1.move (w := w) (S := S) (x := x) hs hS (show RelV1 w S _ x v from h)
theorem RelV1.flat {w w' : World} {S S' : Nat → Prop} {t : Ty} {x : t.den} {v : Value} (hf : t.flat = true) (h : RelV1 w S t x v) : RelV1 w' S' t x v := by
  cases t with
  | st c => obtain ⟨cs, rfl, hh⟩ := h; exact ⟨cs, rfl, hh.flat hf⟩
  | arr n t => obtain ⟨cs, rfl, hh⟩ := h; exact ⟨cs, rfl, hh.flat hf⟩
  | pair a b => exact h.elim
  | _ => exact RelC.flat (w := w) (w' := w') (S := S) (S' := S') (x := x) hf (show RelC w S _ x [v] from h)
theorem RelT.flat {w w' : World} {S S' : Nat → Prop} : ∀ {c : Ty} {x : c.den} {vs : List Value}, c.flat = true → RelT w S c x vs → RelT w' S' c x vs
  | .pair a b, _, _, hf, ⟨v, l, e, h0, h1⟩ => by
    simp only [Ty.flat, Bool.and_eq_true] at hf
    exact ⟨v, l, e, h0.flat hf.1, RelT.flat hf.2 h1⟩
  | .int _, _, _, hf, ⟨v, e, h⟩ => ⟨v, e, h.flat hf⟩
  | .bool, _, _, hf, ⟨v, e, h⟩ => ⟨v, e, h.flat hf⟩
  | .str, _, _, hf, ⟨v, e, h⟩ => ⟨v, e, h.flat hf⟩
  | .any _ _, _, _, hf, ⟨v, e, h⟩ => ⟨v, e, h.flat hf⟩
  | .pt _, _, _, hf, ⟨v, e, h⟩ => ⟨v, e, h.flat hf⟩
  | .iter, _, _, hf, ⟨v, e, h⟩ => ⟨v, e, h.flat hf⟩
  | .sl _ _, _, _, hf, ⟨v, e, h⟩ => ⟨v, e, h.flat hf⟩
  | .mp _ _, _, _, hf, ⟨v, e, h⟩ => ⟨v, e, h.flat hf⟩
  | .arr _ _, _, _, hf, ⟨v, e, h⟩ => ⟨v, e, h.flat hf⟩
  | .st _, _, _, hf, ⟨v, e, h⟩ => ⟨v, e, h.flat hf⟩
  | .tup _, _, _, hf, ⟨v, e, h⟩ => ⟨v, e, h.flat hf⟩
  | .unit, _, _, hf, ⟨v, e, h⟩ => ⟨v, e, h.flat hf⟩
theorem RelD.flat {w w' : World} {S S' : Nat → Prop} {t : Ty} {x : t.den} {v : Value} (hf : t.flat = true) (h : RelD w S t x v) : RelD w' S' t x v := by
  cases t with
  | tup c => obtain ⟨vs, e, hh⟩ := h; exact ⟨vs, e, hh.flat (by simpa [Ty.flat] using hf)⟩
  | unit => exact h
  | _ => exact RelV1.flat (w := w) (w' := w') (S := S) (S' := S') (x := x) hf (show RelV1 w S _ x v from h)

def Ty.zc : Ty → List Value
  | .int k => [.int k 0]
  | .bool => [.bool false]
  | .str => [.string ⟨#[]⟩]
  | .sl _ _ => [.slice none 0 0]
  | .mp _ _ => [.map none]
  | .arr n t => (List.replicate n t.zc).flatten
  | .st c => c.zc
  | .pair a b => a.zc ++ b.zc
  | .tup _ => []
  | .unit => []
  | .any _ _ => [.nilIface]
  | .pt _ => [.pointer none]
  | .iter => []
theorem relC_zero (w : World) (S : Nat → Prop) : ∀ (t : Ty), t.good = true → RelC w S t t.zero t.zc
  | .int _, _ => rfl
  | .bool, _ => rfl
  | .str, _ => rfl
  | .any _ _, _ => rfl
  | .pt _, _ => rfl
  | .iter, hg => by simp [Ty.good] at hg
  | .sl _ _, _ => ⟨none, 0, rfl, Nat.le_refl _, fun h => absurd h (Nat.lt_irrefl 0)⟩
  | .mp _ _, _ => .inl ⟨rfl, rfl⟩
  | .arr n t, hg => by
    refine ⟨by simp [Ty.zero], ?_⟩
    have ih := relC_zero w S t (by simpa [Ty.good] using hg)
    clear hg
    induction n with
    | zero => simp [Ty.zero, Ty.zc, RelL]
    | succ n ihn => exact ⟨t.zc, (List.replicate n t.zc).flatten, by simp [Ty.zc, List.replicate_succ], ih, by simpa [Ty.zero, Ty.zc] using ihn⟩
  | .st c, hg => relC_zero w S c (by simpa [Ty.good] using hg)
  | .pair a b, hg => by
    simp only [Ty.good, Bool.and_eq_true] at hg
    exact ⟨a.zc, b.zc, rfl, relC_zero w S a hg.1, relC_zero w S b hg.2⟩
  | .tup _, hg => by simp [Ty.good] at hg
  | .unit, hg => by simp [Ty.good] at hg

def Ty.dep : Ty → Nat
  | .sl _ t => t.dep + 1
  | .arr _ t => t.dep + 1
  | .st c => c.dep + 1
  | .pair a b => max a.dep b.dep
  | .tup c => c.dep + 1
  | _ => 0
def Ty.isPair : Ty → Bool
  | .pair _ _ => true
  | _ => false
def Flds (T : Tab) : List Field → Nat → Ty → Prop
  | f :: fs, off, .pair a b => T f.type = some a ∧ 0 < a.size ∧ f.offset = off ∧ f.name ≠ "_" ∧ Flds T fs (off + a.size) b
  | [f], off, c => T f.type = some c ∧ 0 < c.size ∧ f.offset = off ∧ f.name ≠ "_"
  | _, _, _ => False
def Und (P : Program) (T : Tab) (tid : TypeId) : Ty → Prop
  | .int k => P.underlying tid = some (.int k)
  | .bool => P.underlying tid = some .bool
  | .str => P.underlying tid = some .string
  | .sl e t => P.underlying tid = some (.slice e) ∧ T e = some t ∧ 0 < t.size
  | .mp k v => ∃ kt vt, P.underlying tid = some (.map kt vt) ∧ T kt = some k ∧ T vt = some v ∧ ∃ i z, P.info? vt = some i ∧ i.zero = some z ∧ v.zc = [z]
  | .arr n t => ∃ e, P.underlying tid = some (.array n e) ∧ T e = some t ∧ 0 < t.size ∧ P.eqGuardType P.depth tid = false
  | .pt e => P.underlying tid = some (.pointer e)
  | .any it st => (∃ ms, P.underlying tid = some (.interface ms)) ∧ it ≠ st ∧ P.underlying it = some (.int .i64) ∧ P.underlying st = some .string ∧
      (∃ i z, P.info? it = some i ∧ i.zero = some z ∧ (Ty.int .i64).zc = [z]) ∧ ∃ i z, P.info? st = some i ∧ i.zero = some z ∧ Ty.str.zc = [z]
  | .st c => ∃ fs, P.underlying tid = some (.struct fs) ∧ Flds T fs.toList 0 c ∧ P.stoodInHeld tid = false ∧ P.eqGuardType P.depth tid = false
  | _ => False
structure TyOk (P : Program) (T : Tab) (tid : TypeId) (ty : Ty) : Prop where
  good : ty.good = true
  pos : 0 < ty.size
  info : ∃ i z, P.info? tid = some i ∧ i.size = ty.size ∧ i.zero = some z ∧ z.cells.toList = ty.zc ∧ i.bytes ≤ 16384
  und : Und P T tid ty
  dep : ty.dep < 1000
  small : ty.size ≤ 4096
def TabOk (P : Program) (T : Tab) : Prop := ∀ tid ty, T tid = some ty → TyOk P T tid ty

def zB : Value → Value → Bool
  | .int k n, .int k' n' => decide (k = k') && n == n'
  | .bool a, .bool b => a == b
  | .string a, .string b => decide (a = b)
  | .slice none 0 0, .slice none 0 0 => true
  | .map none, .map none => true
  | .nilIface, .nilIface => true
  | .pointer none, .pointer none => true
  | _, _ => false
def zsB : List Value → List Value → Bool
  | [], [] => true
  | a :: as, b :: bs => zB a b && zsB as bs
  | _, _ => false
theorem zB_eq {a b : Value} (h : zB a b = true) : a = b := by
  unfold zB at h
  split at h <;> simp_all
theorem zsB_eq : ∀ {as bs : List Value}, zsB as bs = true → as = bs
  | [], [], _ => rfl
  | a :: as, b :: bs, h => by
    simp only [zsB, Bool.and_eq_true] at h
    rw [zB_eq h.1, zsB_eq h.2]
  | [], _ :: _, h => by simp [zsB] at h
  | _ :: _, [], h => by simp [zsB] at h
def isTy (T : Tab) (i : Nat) (t : Ty) : Bool := match T i with
  | some u => decide (u = t)
  | none => false
theorem isTy_eq {T : Tab} {i : Nat} {t : Ty} (h : isTy T i t = true) : T i = some t := by
  unfold isTy at h
  split at h
  · rename_i u hu; rw [hu, of_decide_eq_true h]
  · simp at h
def fldsB (T : Tab) : List Field → Nat → Ty → Bool
  | f :: fs, off, .pair a b => isTy T f.type a && decide (0 < a.size) && decide (f.offset = off) && !(f.name == "_") && fldsB T fs (off + a.size) b
  | [f], off, c => isTy T f.type c && decide (0 < c.size) && decide (f.offset = off) && !(f.name == "_")
  | _, _, _ => false
theorem fldsB_ok {T : Tab} : ∀ {fs : List Field} {off : Nat} {c : Ty}, fldsB T fs off c = true → Flds T fs off c
  | [], _, c, h => by cases c <;> simp [fldsB] at h
  | f :: fs, off, .pair a b, h => by
    simp only [fldsB, Bool.and_eq_true, decide_eq_true_eq, Bool.not_eq_true', beq_eq_false_iff_ne] at h
    obtain ⟨⟨⟨⟨h1, h2⟩, h3⟩, h4⟩, h5⟩ := h
    exact ⟨isTy_eq h1, h2, h3, h4, fldsB_ok h5⟩
  | [f], off, .int k, h => by
    simp only [fldsB, Bool.and_eq_true, decide_eq_true_eq, Bool.not_eq_true', beq_eq_false_iff_ne] at h
    exact ⟨isTy_eq h.1.1.1, h.1.1.2, h.1.2, h.2⟩
  | [f], off, .bool, h => by
    simp only [fldsB, Bool.and_eq_true, decide_eq_true_eq, Bool.not_eq_true', beq_eq_false_iff_ne] at h
    exact ⟨isTy_eq h.1.1.1, h.1.1.2, h.1.2, h.2⟩
  | [f], off, .str, h => by
    simp only [fldsB, Bool.and_eq_true, decide_eq_true_eq, Bool.not_eq_true', beq_eq_false_iff_ne] at h
    exact ⟨isTy_eq h.1.1.1, h.1.1.2, h.1.2, h.2⟩
  | [f], off, .any _ _, h => by
    simp only [fldsB, Bool.and_eq_true, decide_eq_true_eq, Bool.not_eq_true', beq_eq_false_iff_ne] at h
    exact ⟨isTy_eq h.1.1.1, h.1.1.2, h.1.2, h.2⟩
  | [f], off, .pt _, h => by
    simp only [fldsB, Bool.and_eq_true, decide_eq_true_eq, Bool.not_eq_true', beq_eq_false_iff_ne] at h
    exact ⟨isTy_eq h.1.1.1, h.1.1.2, h.1.2, h.2⟩
  | [f], off, .iter, h => by
    simp only [fldsB, Bool.and_eq_true, decide_eq_true_eq, Bool.not_eq_true', beq_eq_false_iff_ne] at h
    exact ⟨isTy_eq h.1.1.1, h.1.1.2, h.1.2, h.2⟩
  | [f], off, .sl _ _, h => by
    simp only [fldsB, Bool.and_eq_true, decide_eq_true_eq, Bool.not_eq_true', beq_eq_false_iff_ne] at h
    exact ⟨isTy_eq h.1.1.1, h.1.1.2, h.1.2, h.2⟩
  | [f], off, .mp _ _, h => by
    simp only [fldsB, Bool.and_eq_true, decide_eq_true_eq, Bool.not_eq_true', beq_eq_false_iff_ne] at h
    exact ⟨isTy_eq h.1.1.1, h.1.1.2, h.1.2, h.2⟩
  | [f], off, .arr _ _, h => by
    simp only [fldsB, Bool.and_eq_true, decide_eq_true_eq, Bool.not_eq_true', beq_eq_false_iff_ne] at h
    exact ⟨isTy_eq h.1.1.1, h.1.1.2, h.1.2, h.2⟩
  | [f], off, .st _, h => by
    simp only [fldsB, Bool.and_eq_true, decide_eq_true_eq, Bool.not_eq_true', beq_eq_false_iff_ne] at h
    exact ⟨isTy_eq h.1.1.1, h.1.1.2, h.1.2, h.2⟩
  | [f], off, .tup _, h => by
    simp only [fldsB, Bool.and_eq_true, decide_eq_true_eq, Bool.not_eq_true', beq_eq_false_iff_ne] at h
    exact ⟨isTy_eq h.1.1.1, h.1.1.2, h.1.2, h.2⟩
  | [f], off, .unit, h => by
    simp only [fldsB, Bool.and_eq_true, decide_eq_true_eq, Bool.not_eq_true', beq_eq_false_iff_ne] at h
    exact ⟨isTy_eq h.1.1.1, h.1.1.2, h.1.2, h.2⟩
  | _ :: _ :: _, _, .int _, h => by simp [fldsB] at h
  | _ :: _ :: _, _, .bool, h => by simp [fldsB] at h
  | _ :: _ :: _, _, .str, h => by simp [fldsB] at h
  | _ :: _ :: _, _, .any _ _, h => by simp [fldsB] at h
  | _ :: _ :: _, _, .pt _, h => by simp [fldsB] at h
  | _ :: _ :: _, _, .iter, h => by simp [fldsB] at h
  | _ :: _ :: _, _, .sl _ _, h => by simp [fldsB] at h
  | _ :: _ :: _, _, .mp _ _, h => by simp [fldsB] at h
  | _ :: _ :: _, _, .arr _ _, h => by simp [fldsB] at h
  | _ :: _ :: _, _, .st _, h => by simp [fldsB] at h
  | _ :: _ :: _, _, .tup _, h => by simp [fldsB] at h
  | _ :: _ :: _, _, .unit, h => by simp [fldsB] at h
def zoB (P : Program) (e : TypeId) (v : Ty) : Bool := match P.info? e with
  | some i => match i.zero, v.zc with
    | some z, [u] => zB z u
    | _, _ => false
  | none => false
theorem zoB_ok {P : Program} {e : TypeId} {v : Ty} (h : zoB P e v = true) : ∃ i z, P.info? e = some i ∧ i.zero = some z ∧ v.zc = [z] := by
  unfold zoB at h
  split at h
  · rename_i i hi
    split at h
    · rename_i z u hz hu
      exact ⟨i, z, hi, hz, by rw [hu, zB_eq h]⟩
    · cases h
  · cases h
def undB (P : Program) (T : Tab) (tid : TypeId) (ty : Ty) : Bool := match P.underlying tid, ty with
  | some (.int k), .int k' => decide (k = k')
  | some .bool, .bool => true
  | some .string, .str => true
  | some (.slice e), .sl e' t => decide (e = e') && isTy T e t && decide (0 < t.size)
  | some (.pointer e), .pt e' => decide (e = e')
  | some (.interface _), .any it st => !Nat.beq it st && (match P.underlying it, P.underlying st with
    | some (.int .i64), some .string => zoB P it (.int .i64) && zoB P st .str
    | _, _ => false)
  | some (.map k e), .mp kt vt => isTy T k kt && isTy T e vt && zoB P e vt
  | some (.array n e), .arr n' t => decide (n = n') && isTy T e t && decide (0 < t.size) && !P.eqGuardType P.depth tid
  | some (.struct fs), .st c => fldsB T fs.toList 0 c && !P.stoodInHeld tid && !P.eqGuardType P.depth tid
  | _, _ => false
theorem undB_ok {P : Program} {T : Tab} {tid : TypeId} {ty : Ty} (h : undB P T tid ty = true) : Und P T tid ty := by
  unfold undB at h
  split at h
  · rename_i hk; rw [of_decide_eq_true h] at hk; exact hk
  · assumption
  · assumption
  · rename_i e e' t hk
    simp only [Bool.and_eq_true, decide_eq_true_eq] at h
    obtain ⟨⟨rfl, h2⟩, h3⟩ := h
    exact ⟨hk, isTy_eq h2, h3⟩
  · rename_i e e' hk
    rw [of_decide_eq_true h] at hk; exact hk
  · rename_i ms it st hk
    rw [Bool.and_eq_true, Bool.not_eq_true'] at h
    obtain ⟨h1, h2⟩ := h
    split at h2
    · rename_i k1 k2
      rw [Bool.and_eq_true] at h2
      refine ⟨⟨ms, hk⟩, fun e => ?_, k1, k2, zoB_ok h2.1, zoB_ok h2.2⟩
      rw [e, Nat.beq_refl] at h1
      cases h1
    · cases h2
  · rename_i k e kt vt hk
    simp only [Bool.and_eq_true] at h
    exact ⟨k, e, hk, isTy_eq h.1.1, isTy_eq h.1.2, zoB_ok h.2⟩
  · rename_i n e n' t hk
    simp only [Bool.and_eq_true, decide_eq_true_eq, Bool.not_eq_true'] at h
    obtain ⟨⟨⟨rfl, h2⟩, h3⟩, h4⟩ := h
    exact ⟨e, hk, isTy_eq h2, h3, h4⟩
  · rename_i fs c hk
    simp only [Bool.and_eq_true, Bool.not_eq_true'] at h
    exact ⟨fs, hk, fldsB_ok h.1.1, h.1.2, h.2⟩
  · simp at h
def rowB (P : Program) (T : Tab) (tid : TypeId) (ty : Ty) : Bool :=
  ty.good && decide (0 < ty.size) && decide (ty.size ≤ 4096) && decide (ty.dep < 1000) && undB P T tid ty && match P.info? tid with
    | some i => decide (i.size = ty.size) && decide (i.bytes ≤ 16384) && match i.zero with
      | some z => zsB z.cells.toList ty.zc
      | none => false
    | none => false
def tabOf : List (Nat × Ty) → Tab
  | [], _ => none
  | (i, t) :: l, j => bif Nat.beq i j then some t else tabOf l j
def tabB (P : Program) (l : List (Nat × Ty)) : Bool := l.all fun r => rowB P (tabOf l) r.1 r.2
theorem tabOf_mem : ∀ {l : List (Nat × Ty)} {i : Nat} {t : Ty}, tabOf l i = some t → (i, t) ∈ l
  | [], _, _, h => by simp [tabOf] at h
  | (j, u) :: l, i, t, h => by
    unfold tabOf at h
    cases hb : Nat.beq j i with
    | true =>
      rw [hb] at h
      have := Nat.eq_of_beq_eq_true hb
      simp at h
      subst this; subst h
      exact List.mem_cons_self
    | false =>
      rw [hb] at h
      exact List.mem_cons_of_mem _ (tabOf_mem (by simpa using h))
theorem tabOk_of {P : Program} {l : List (Nat × Ty)} (h : tabB P l = true) : TabOk P (tabOf l) := fun tid ty ht => by
  have hr := (List.all_eq_true.1 h) _ (tabOf_mem ht)
  unfold rowB at hr
  simp only [Bool.and_eq_true, decide_eq_true_eq] at hr
  obtain ⟨⟨⟨⟨⟨h1, h2⟩, hs⟩, hd⟩, h3⟩, h4⟩ := hr
  refine ⟨h1, h2, ?_, undB_ok h3, hd, hs⟩
  split at h4
  · rename_i i hi
    simp only [Bool.and_eq_true, decide_eq_true_eq] at h4
    obtain ⟨⟨h5, h6⟩, h7⟩ := h4
    split at h7
    · rename_i z hz; exact ⟨i, z, hi, h5, hz, zsB_eq h7, h6⟩
    · simp at h7
  · simp at h4
end Go.Vm
end
section
namespace Go.Vm
open Go.RowKit
set_option linter.unusedVariables false

def Res.ev {α : Type} : Res α → Mem → FP → Option (α × Mem × FP)
  | .fail, _, _ => none
  | .ok a, m, fp => some (a, m, fp)
  | .br b x y, m, fp => bif b then x.ev m fp else y.ev m fp
  | .call o f, m, fp => o.bind fun u => (f u).ev m fp
  | .getB b f, m, fp => (f (m.box b)).ev m ⟨idB b :: fp.r, fp.w⟩
  | .setB b x r, m, fp => r.ev (m.setB b x) ⟨fp.r, idB b :: fp.w⟩
  | .getA a f, m, fp => (f (m.arr a)).ev m ⟨idA a :: fp.r, fp.w⟩
  | .setA a x r, m, fp => r.ev (m.setA a x) ⟨fp.r, idA a :: fp.w⟩
theorem Res.run_std {α R : Type} (k : α → Mem → FP → Option R) : ∀ (r : Res α) (m : Mem) (fp : FP), r.run (Alg.std R) m fp k = (r.ev m fp).bind fun p => k p.1 p.2.1 p.2.2
  | .fail, _, _ => rfl
  | .ok _, _, _ => rfl
  | .br b x y, m, fp => by
    cases b
    · exact Res.run_std k y m fp
    · exact Res.run_std k x m fp
  | .call o f, m, fp => by
    cases o with
    | none => rfl
    | some u => exact Res.run_std k (f u) m fp
  | .getB b f, m, fp => Res.run_std k (f (m.box b)) m _
  | .setB b x r, m, fp => Res.run_std k r _ _
  | .getA a f, m, fp => Res.run_std k (f (m.arr a)) m _
  | .setA a x r, m, fp => Res.run_std k r _ _
theorem Res.ev_bind {α β : Type} (f : α → Res β) : ∀ (r : Res α) (m : Mem) (fp : FP), (r.bind f).ev m fp = (r.ev m fp).bind fun p => (f p.1).ev p.2.1 p.2.2
  | .fail, _, _ => rfl
  | .ok _, _, _ => rfl
  | .br b x y, m, fp => by
    cases b
    · exact Res.ev_bind f y m fp
    · exact Res.ev_bind f x m fp
  | .call o g, m, fp => by
    cases o with
    | none => rfl
    | some u => exact Res.ev_bind f (g u) m fp
  | .getB b g, m, fp => Res.ev_bind f (g (m.box b)) m _
  | .setB b x r, m, fp => Res.ev_bind f r _ _
  | .getA a g, m, fp => Res.ev_bind f (g (m.arr a)) m _
  | .setA a x r, m, fp => Res.ev_bind f r _ _
theorem Res.bind_some {α β : Type} {f : α → Res β} {r : Res α} {m m' : Mem} {fp fp' : FP} {b : β} (h : (r.bind f).ev m fp = some (b, m', fp')) :
    ∃ a m1 fp1, r.ev m fp = some (a, m1, fp1) ∧ (f a).ev m1 fp1 = some (b, m', fp') := by
  rw [Res.ev_bind] at h
  cases he : r.ev m fp with
  | none => rw [he] at h; cases h
  | some p => rw [he] at h; exact ⟨p.1, p.2.1, p.2.2, rfl, h⟩
theorem Res.chk_some {α : Type} {c : Bool} {r : Res α} {m m' : Mem} {fp fp' : FP} {b : α} (h : (Res.chk c r).ev m fp = some (b, m', fp')) :
    c = true ∧ r.ev m fp = some (b, m', fp') := by
  cases c with
  | false => cases h
  | true => exact ⟨rfl, h⟩

structure Env where
  w0 : World
  S0 : Nat → Prop
  W0 : Nat → Prop
structure Cx where
  S : Nat → Prop
  bx : Nat → Nat
  ar : Nat → Value
  m : Mem
  w : World

def RelM (E : Env) (w : World) (S : Nat → Prop) (M : MO) (v : Value) : Prop :=
  M.k.keyT = true ∧ M.v.valT = true ∧ ∃ g es cl, v = .map (some g) ∧ E.w0.heap.size ≤ g ∧ ¬ S g ∧ w.heap[g]? = some (.map es cl) ∧ RelE (fun a u => RelC w S M.k a [u]) (fun b u => RelC w S M.v b [u]) M.es es.toList
theorem keyT_flat {k : Ty} (h : k.keyT = true) : k.flat = true := by cases k <;> first | rfl | (simp [Ty.keyT] at h)
theorem valT_flat {k : Ty} (h : k.valT = true) : k.flat = true := by cases k <;> first | rfl | (simp [Ty.valT] at h)
theorem RelM.move {E : Env} {w w' : World} {S S' : Nat → Prop} {M : MO} {v : Value} (hg : ∀ g, v = .map (some g) → w'.heap[g]? = w.heap[g]? ∧ ¬ S' g) (h : RelM E w S M v) : RelM E w' S' M v := by
  obtain ⟨h1, h2, g, es, cl, rfl, h3, h4, h5, h6⟩ := h
  obtain ⟨k1, k2⟩ := hg g rfl
  exact ⟨h1, h2, g, es, cl, rfl, h3, k2, k1.trans h5, h6.imp (fun _ _ hh => RelC.flat (keyT_flat h1) hh) (fun _ _ hh => RelC.flat (valT_flat h2) hh)⟩
structure RelMs (E : Env) (c : Cx) : Prop where
  mps : ∀ a M, c.m.arr a = .mp M → RelM E c.w c.S M (c.ar a)
  mm : ∀ a a' M M', c.m.arr a = .mp M → c.m.arr a' = .mp M' → c.ar a = c.ar a' → a = a'
theorem RelMs.step {E : Env} {c c' : Cx} (h : RelMs E c) (hm : ∀ a M, c'.m.arr a = .mp M → c.m.arr a = .mp M ∧ c'.ar a = c.ar a)
    (hw : ∀ g es cl, c.w.heap[g]? = some (.map es cl) → ¬ c.S g → c'.w.heap[g]? = c.w.heap[g]? ∧ ¬ c'.S g) : RelMs E c' := by
  refine ⟨fun a M ha => ?_, fun a a' M M' ha ha' e => ?_⟩
  · obtain ⟨h1, h2⟩ := hm a M ha
    have := h.mps a M h1
    rw [h2]
    refine this.move fun g hg => ?_
    obtain ⟨_, _, g', es, cl, e, _, hS, hh, _⟩ := this
    rw [hg] at e
    injection e with e
    injection e with e
    subst e
    exact hw g es cl hh hS
  · obtain ⟨h1, h2⟩ := hm a M ha
    obtain ⟨h3, h4⟩ := hm a' M' ha'
    exact h.mm a a' M M' h1 h3 (by rw [← h2, ← h4]; exact e)
def RelA (E : Env) (w : World) (S : Nat → Prop) (A : Arr) (v : Value) : Prop :=
  if A.open_ = true then ∃ inner, w.ownsRow E.w0.heap.size A.e A.t.size v A.xs.length inner ∧ RelL (RelC w S A.t) A.xs inner ∧ ∀ g, v.ownBlock = some g → ¬ S g
  else RelC w S (.sl A.e A.t) A.xs [v]

def chainOff : Ty → Nat → Nat
  | .pair a b, i + 1 => a.size + chainOff b i
  | _, _ => 0
def fldOff : Ty → Nat → Nat
  | .st c, i => chainOff c i
  | _, _ => 0
def SlFld (t : Ty) (i : Nat) : Prop := ∃ c e u, t = .st c ∧ chainTy c i = some (.sl e u)
def nilCell : Value := .slice none 0 0
def LkRel (c : Cx) (cs : List Value) (off : Nat) : LK → Prop
  | .nil => cs[off]? = some nilCell
  | .own a => c.m.arr a ≠ .no ∧ (∀ A, c.m.arr a = .at_ A → cs[off]? = some (c.ar a)) ∧ ∀ M, c.m.arr a = .mp M → cs[off]? = some (c.ar a)
  | .hole => True
def NilsIn (t : Ty) (nl : List Nat) (cs : List Value) : Prop := nl.Nodup ∧ ∀ i ∈ nl, SlFld t i ∧ cs[fldOff t i]? = some nilCell
theorem NilsIn.nil {t : Ty} {cs : List Value} : NilsIn t [] cs := ⟨List.nodup_nil, fun i hi => by cases hi⟩
theorem chainOff_le : ∀ {c : Ty} {i j : Nat} {u v : Ty}, i < j → chainTy c i = some u → chainTy c j = some v → chainOff c i + u.size ≤ chainOff c j
  | .pair a b, 0, j + 1, u, v, _, hi, hj => by
    injection hi with hi
    subst hi
    show 0 + a.size ≤ a.size + chainOff b j
    omega
  | .pair a b, i + 1, j + 1, u, v, h, hi, hj => by
    have := chainOff_le (c := b) (i := i) (j := j) (Nat.lt_of_succ_lt_succ h) hi hj
    show a.size + chainOff b i + u.size ≤ a.size + chainOff b j
    omega
  | .pair a b, _, 0, _, _, h, _, _ => absurd h (Nat.not_lt_zero _)
  | .int _, _, j, _, _, h, _, hj => by cases j with
    | zero => exact absurd h (Nat.not_lt_zero _)
    | succ j => cases hj
  | .bool, _, j, _, _, h, _, hj => by cases j with
    | zero => exact absurd h (Nat.not_lt_zero _)
    | succ j => cases hj
  | .str, _, j, _, _, h, _, hj => by cases j with
    | zero => exact absurd h (Nat.not_lt_zero _)
    | succ j => cases hj
  | .any _ _, _, j, _, _, h, _, hj => by cases j with
    | zero => exact absurd h (Nat.not_lt_zero _)
    | succ j => cases hj
  | .pt _, _, j, _, _, h, _, hj => by cases j with
    | zero => exact absurd h (Nat.not_lt_zero _)
    | succ j => cases hj
  | .iter, _, j, _, _, h, _, hj => by cases j with
    | zero => exact absurd h (Nat.not_lt_zero _)
    | succ j => cases hj
  | .sl _ _, _, j, _, _, h, _, hj => by cases j with
    | zero => exact absurd h (Nat.not_lt_zero _)
    | succ j => cases hj
  | .mp _ _, _, j, _, _, h, _, hj => by cases j with
    | zero => exact absurd h (Nat.not_lt_zero _)
    | succ j => cases hj
  | .arr _ _, _, j, _, _, h, _, hj => by cases j with
    | zero => exact absurd h (Nat.not_lt_zero _)
    | succ j => cases hj
  | .st _, _, j, _, _, h, _, hj => by cases j with
    | zero => exact absurd h (Nat.not_lt_zero _)
    | succ j => cases hj
  | .tup _, _, j, _, _, h, _, hj => by cases j with
    | zero => exact absurd h (Nat.not_lt_zero _)
    | succ j => cases hj
  | .unit, _, j, _, _, h, _, hj => by cases j with
    | zero => exact absurd h (Nat.not_lt_zero _)
    | succ j => cases hj
theorem chain_off {c : Ty} {i j : Nat} {e : TypeId} {u v : Ty} (hi : chainTy c i = some (.sl e u)) (hj : chainTy c j = some v) (hne : j ≠ i) : ¬ (chainOff c j ≤ chainOff c i ∧ chainOff c i < chainOff c j + v.size) := by
  rintro ⟨h1, h2⟩
  rcases Nat.lt_or_gt_of_ne hne with h | h
  · have := chainOff_le h hj hi
    omega
  · have := chainOff_le h hi hj
    have : (Ty.sl e u).size = 1 := rfl
    omega
theorem zc_len (w : World) {t : Ty} (h : t.good = true) : t.zc.length = t.size := (relC_zero w (fun _ => False) t h).len
theorem zc_at (w : World) : ∀ {c : Ty} {i : Nat} {e : TypeId} {u : Ty}, c.good = true → chainTy c i = some (.sl e u) → c.zc[chainOff c i]? = some nilCell
  | .pair a b, 0, e, u, _, h => by
    injection h with h
    subst h
    rfl
  | .pair a b, i + 1, e, u, hg, h => by
    simp only [Ty.good, Bool.and_eq_true] at hg
    show (a.zc ++ b.zc)[a.size + chainOff b i]? = some nilCell
    rw [List.getElem?_append_right (by rw [zc_len w hg.1]; omega), zc_len w hg.1, Nat.add_sub_cancel_left]
    exact zc_at w hg.2 h
  | .sl _ _, 0, _, _, _, _ => rfl
  | .int _, 0, _, _, _, h => by cases h
  | .bool, 0, _, _, _, h => by cases h
  | .str, 0, _, _, _, h => by cases h
  | .mp _ _, 0, _, _, _, h => by cases h
  | .arr _ _, 0, _, _, _, h => by cases h
  | .st _, 0, _, _, _, h => by cases h
  | .tup _, 0, _, _, _, h => by cases h
  | .unit, 0, _, _, _, h => by cases h
  | .int _, _ + 1, _, _, _, h => by cases h
  | .bool, _ + 1, _, _, _, h => by cases h
  | .str, _ + 1, _, _, _, h => by cases h
  | .any _ _, _ + 1, _, _, _, h => by cases h
  | .pt _, _ + 1, _, _, _, h => by cases h
  | .iter, _ + 1, _, _, _, h => by cases h
  | .any _ _, 0, _, _, _, h => by cases h
  | .pt _, 0, _, _, _, h => by cases h
  | .iter, 0, _, _, _, h => by cases h
  | .sl _ _, _ + 1, _, _, _, h => by cases h
  | .mp _ _, _ + 1, _, _, _, h => by cases h
  | .arr _ _, _ + 1, _, _, _, h => by cases h
  | .st _, _ + 1, _, _, _, h => by cases h
  | .tup _, _ + 1, _, _, _, h => by cases h
  | .unit, _ + 1, _, _, _, h => by cases h
theorem chainSl_mem : ∀ {c : Ty} {i : Nat}, i ∈ chainSl c → ∃ e u, chainTy c i = some (.sl e u)
  | .pair a b, i, h => by
    simp only [chainSl, List.mem_append, List.mem_map] at h
    rcases h with h | ⟨j, hj, rfl⟩
    · cases a with
      | sl e u =>
        simp only [List.mem_singleton] at h
        subst h
        exact ⟨e, u, rfl⟩
      | _ => simp at h
    · exact chainSl_mem (c := b) hj
  | .sl e u, i, h => by
    simp only [chainSl, List.mem_singleton] at h
    subst h
    exact ⟨e, u, rfl⟩
  | .int _, i, h => by simp [chainSl] at h
  | .bool, i, h => by simp [chainSl] at h
  | .str, i, h => by simp [chainSl] at h
  | .any _ _, i, h => by simp [chainSl] at h
  | .pt _, i, h => by simp [chainSl] at h
  | .iter, i, h => by simp [chainSl] at h
  | .mp _ _, i, h => by simp [chainSl] at h
  | .arr _ _, i, h => by simp [chainSl] at h
  | .st _, i, h => by simp [chainSl] at h
  | .tup _, i, h => by simp [chainSl] at h
  | .unit, i, h => by simp [chainSl] at h
theorem nodup_map_succ : ∀ {l : List Nat}, l.Nodup → (l.map (· + 1)).Nodup
  | [], _ => List.nodup_nil
  | x :: l, h => by
    rw [List.nodup_cons] at h
    rw [List.map_cons, List.nodup_cons]
    refine ⟨fun hm => ?_, nodup_map_succ h.2⟩
    obtain ⟨y, hy, e⟩ := List.mem_map.1 hm
    have : y = x := by omega
    exact h.1 (this ▸ hy)
theorem chainSl_nodup : ∀ (c : Ty), (chainSl c).Nodup
  | .pair a b => by
    have ih := nodup_map_succ (chainSl_nodup b)
    simp only [chainSl]
    cases a with
    | sl e u =>
      rw [List.singleton_append, List.nodup_cons]
      exact ⟨fun hm => by obtain ⟨y, _, e⟩ := List.mem_map.1 hm; omega, ih⟩
    | _ => simpa using ih
  | .sl e u => by simp [chainSl]
  | .int _ => List.nodup_nil
  | .bool => List.nodup_nil
  | .str => List.nodup_nil
  | .any _ _ => List.nodup_nil
  | .pt _ => List.nodup_nil
  | .iter => List.nodup_nil
  | .mp _ _ => List.nodup_nil
  | .arr _ _ => List.nodup_nil
  | .st _ => List.nodup_nil
  | .tup _ => List.nodup_nil
  | .unit => List.nodup_nil
theorem NilsIn.zero (w : World) {t : Ty} (hg : t.good = true) : NilsIn t t.slFlds t.zc := by
  cases t with
  | st c =>
    refine ⟨chainSl_nodup c, fun i hi => ?_⟩
    obtain ⟨e, u, h⟩ := chainSl_mem hi
    exact ⟨⟨c, e, u, rfl, h⟩, zc_at (c := c) w hg h⟩
  | _ => exact NilsIn.nil
def RelB (c : Cx) (B : Box) (cs : List Value) : Prop :=
  ∃ cs', RelC c.w c.S B.t B.x cs' ∧ cs.length = cs'.length ∧ (∀ j, (∀ e ∈ B.lk, fldOff B.t e.1 ≠ j) → cs[j]? = cs'[j]?) ∧ (B.lk.map (·.1)).Nodup ∧
    ∀ e ∈ B.lk, SlFld B.t e.1 ∧ cs'[fldOff B.t e.1]? = some nilCell ∧ LkRel c cs (fldOff B.t e.1) e.2

def ItRel : (t : Ty) → t.den → Option Obj → Prop
  | .iter, x, o => o = some (.stringIter x.1 x.2)
  | _, _, _ => False
def BoxRel (c : Cx) (B : Box) (o : Option Obj) : Prop := (ItRel B.t B.x o ∧ B.lk = []) ∨ ∃ cs tid, o = some (.cells cs tid (0, 0)) ∧ RelB c B cs.toList
theorem ItRel.iter {t : Ty} {x : t.den} {o : Option Obj} (h : ItRel t x o) : t = .iter := by
  cases t <;> first | rfl | exact h.elim

structure Rel (E : Env) (c : Cx) : Prop where
  os : c.w.os = E.w0.os
  tape : c.w.tape = E.w0.tape
  output : c.w.output = E.w0.output
  size : E.w0.heap.size ≤ c.w.heap.size
  keep : ∀ b, b < E.w0.heap.size → ¬ E.W0 b → c.w.heap[b]? = E.w0.heap[b]?
  old : ∀ b, E.S0 b → c.S b
  lt : ∀ b, c.S b → b < c.w.heap.size
  new : ∀ b, c.S b → E.S0 b ∨ E.w0.heap.size ≤ b
  box : ∀ b B, c.m.box b = some B → BoxRel c B c.w.heap[c.bx b]?
  priv : ∀ b, c.m.box b ≠ none → (E.w0.heap.size ≤ c.bx b ∨ E.W0 (c.bx b)) ∧ ¬ c.S (c.bx b)
  arr : ∀ a A, c.m.arr a = .at_ A → RelA E c.w c.S A (c.ar a)
  bb : ∀ b b', c.m.box b ≠ none → c.m.box b' ≠ none → c.bx b = c.bx b' → b = b'
  aa : ∀ a a' A A' g, c.m.arr a = .at_ A → c.m.arr a' = .at_ A' → A.open_ = true → A'.open_ = true → (c.ar a).ownBlock = some g → (c.ar a').ownBlock = some g → a = a'
  ba : ∀ b a A, c.m.box b ≠ none → c.m.arr a = .at_ A → A.open_ = true → (c.ar a).ownBlock ≠ some (c.bx b)
  ms : RelMs E c

theorem RelB.free {c : Cx} {B : Box} {cs : List Value} (h : RelB c B cs) (hf : lkFree B.lk = true) : RelC c.w c.S B.t B.x cs := by
  obtain ⟨cs', hc, hl, hj, _, hk⟩ := h
  have : cs = cs' := by
    refine List.ext_getElem? fun j => ?_
    by_cases hm : ∀ e ∈ B.lk, fldOff B.t e.1 ≠ j
    · exact hj j hm
    · simp only [Classical.not_forall, Classical.not_not] at hm
      obtain ⟨e, he, rfl⟩ := hm
      obtain ⟨_, h2, h3⟩ := hk e he
      have hn := (List.all_eq_true.1 hf) e he
      cases hl : e.2 with
      | nil => rw [hl] at h3; rw [h2]; exact h3
      | own a => rw [hl] at hn; cases hn
      | hole => rw [hl] at hn; cases hn
  rw [this]
  exact hc
theorem RelB.of {c : Cx} {t : Ty} {x : t.den} {cs : List Value} (h : RelC c.w c.S t x cs) : RelB c ⟨t, x, []⟩ cs :=
  ⟨cs, h, rfl, fun _ _ => rfl, List.nodup_nil, fun e he => by cases he⟩
theorem RelB.ofNils {c : Cx} {t : Ty} {x : t.den} {nl : List Nat} {cs : List Value} (h : RelC c.w c.S t x cs) (hn : NilsIn t nl cs) : RelB c ⟨t, x, nl.map fun i => (i, .nil)⟩ cs := by
  refine ⟨cs, h, rfl, fun _ _ => rfl, ?_, fun e he => ?_⟩
  · simpa [Function.comp_def] using hn.1
  · obtain ⟨i, hi, rfl⟩ := List.mem_map.1 he
    obtain ⟨h1, h2⟩ := hn.2 i hi
    exact ⟨h1, h2, h2⟩
def ArrOn (c c' : Cx) : Prop := ∀ a, c.m.arr a ≠ .no → c'.m.arr a ≠ .no ∧ (∀ A', c'.m.arr a = .at_ A' → (∃ A, c.m.arr a = .at_ A) ∧ c'.ar a = c.ar a) ∧ ∀ M', c'.m.arr a = .mp M' → (∃ M, c.m.arr a = .mp M) ∧ c'.ar a = c.ar a
theorem ArrOn.same {c c' : Cx} (h1 : c'.m.arr = c.m.arr) (h2 : c'.ar = c.ar) : ArrOn c c' := fun a ha => by
  rw [h1, h2]
  exact ⟨ha, fun A hA => ⟨⟨A, hA⟩, rfl⟩, fun A hA => ⟨⟨A, hA⟩, rfl⟩⟩
theorem LkRel.on {c c' : Cx} (ha : ArrOn c c') {cs : List Value} {off : Nat} : ∀ {l : LK}, LkRel c cs off l → LkRel c' cs off l
  | .nil, h => h
  | .own a, ⟨h1, h2, h3⟩ => by
    obtain ⟨k1, k2, k3⟩ := ha a h1
    refine ⟨k1, fun A' hA' => ?_, fun A' hA' => ?_⟩
    · obtain ⟨⟨A, hA⟩, e⟩ := k2 A' hA'
      rw [e]; exact h2 A hA
    · obtain ⟨⟨A, hA⟩, e⟩ := k3 A' hA'
      rw [e]; exact h3 A hA
  | .hole, h => h
theorem RelB.on {c c' : Cx} (hS : ∀ b, c.S b → c'.S b) (hw : SameOn c.S c.w c'.w) (ha : ArrOn c c') {B : Box} {cs : List Value} (h : RelB c B cs) : RelB c' B cs := by
  obtain ⟨cs', hc, hl, hj, hn, hk⟩ := h
  exact ⟨cs', hc.move hw hS, hl, hj, hn, fun e he => ⟨(hk e he).1, (hk e he).2.1, (hk e he).2.2.on ha⟩⟩
theorem RelB.len {c : Cx} {B : Box} {cs : List Value} (h : RelB c B cs) : cs.length = B.t.size := by
  obtain ⟨cs', hc, hl, _⟩ := h
  rw [hl, hc.len]

theorem BoxRel.some {c : Cx} {B : Box} {o : Option Obj} (h : BoxRel c B o) : ∃ x, o = Option.some x := by
  rcases h with ⟨h, _⟩ | ⟨cs, tid, h, _⟩
  · obtain ⟨t, x, lk⟩ := B
    have := h.iter
    simp only at this
    subst this
    exact ⟨_, h⟩
  · exact ⟨_, h⟩
theorem BoxRel.notMap {c : Cx} {B : Box} {o : Option Obj} (h : BoxRel c B o) {es : Array MapEntry} {cl : Nat} : o ≠ Option.some (.map es cl) := by
  rcases h with ⟨h, _⟩ | ⟨cs, tid, h, _⟩
  · obtain ⟨t, x, lk⟩ := B
    have := h.iter
    simp only at this
    subst this
    have h' : o = Option.some (.stringIter x.1 x.2) := h
    rw [h']; simp
  · rw [h]; simp
theorem BoxRel.cells {c : Cx} {B : Box} {o : Option Obj} (h : BoxRel c B o) (hg : B.t ≠ .iter) : ∃ cs tid, o = Option.some (.cells cs tid (0, 0)) ∧ RelB c B cs.toList := by
  rcases h with ⟨h, _⟩ | h
  · exact absurd h.iter hg
  · exact h
theorem BoxRel.mv {c c' : Cx} (hS : ∀ b, c.S b → c'.S b) (hw : SameOn c.S c.w c'.w) (ha : ArrOn c c') {B : Box} {o o' : Option Obj} (ho : o' = o) (h : BoxRel c B o) : BoxRel c' B o' := by
  subst ho
  rcases h with h | ⟨cs, tid, h, hB⟩
  · exact .inl h
  · exact .inr ⟨cs, tid, h, RelB.on (c := c) (c' := c') hS hw ha hB⟩
theorem good_ni {t : Ty} (h : t.good = true) : t ≠ .iter := by
  rintro rfl; cases h
theorem Rel.boxLt {E : Env} {c : Cx} (h : Rel E c) {b : Nat} {B : Box} (hb : c.m.box b = some B) : c.bx b < c.w.heap.size := by
  obtain ⟨x, hh⟩ := (h.box b B hb).some
  exact (Array.getElem?_eq_some_iff.1 hh).1

def pathOff : List PS → Ty → Nat
  | [], _ => 0
  | .fld i :: p, .st c => chainOff c i + match chainTy c i with
    | some t => pathOff p t
    | none => 0
  | .idx i :: p, .arr _ t => i.toNat * t.size + pathOff p t
  | _, _ => 0
def PathIn : List PS → Ty → Prop
  | [], _ => True
  | .fld i :: p, .st c => ∃ t, chainTy c i = some t ∧ PathIn p t
  | .idx i :: p, .arr n t => 0 ≤ i ∧ i < (n : Int) ∧ PathIn p t
  | _, _ => False

def Ext' (S : Nat → Prop) (w w' : World) : Nat → Prop := fun b => S b ∨ (w.heap.size ≤ b ∧ b < w'.heap.size)
def Ret (w : World) (S : Nat → Prop) (r : Ty) (y : r.den) (e : Ending) (w' : World) : Prop :=
  ∃ v, e = .returned v ∧ RelD w' (Ext' S w w') r y v ∧ Below w.heap.size w w'
def Enters (P : Program) (f : FuncId) : Prop := ∀ args w, (callFunc f args).run P w = .ok (.enter f args) w
def RelFn (P : Program) (w : World) (S S1 : Nat → Prop) (a r : Ty) (g : a.den → Option r.den) (v : Value) : Prop :=
  ∃ f cv, v = .func (.func f) #[] cv ∧ Enters P f ∧ ∀ (w' : World) (S' : Nat → Prop), SameOn S1 w w' → (∀ b, S b → S' b) → (∀ b, S' b → b < w'.heap.size) →
    ∀ x vx y, RelD w' S' a x vx → g x = some y → Calls P f (#[vx] ++ cv) w' (Ret w' S' r y)
def RelP (w : World) (S : Nat → Prop) (t : Ty) (x : t.den) (v : Value) : Prop :=
  ∃ ad cs, v = .pointer (some ad) ∧ S ad.block ∧ RelC w S t x cs ∧ CellsAt w ad cs
def RelCap (c : Cx) : Cap → Value → Prop
  | .ptr b t, v => (∃ B, c.m.box b = some B ∧ B.t = t) ∧ v = .pointer (some ⟨c.bx b, 0, none⟩)
  | .dat d, v => RelD c.w c.S d.t d.x v
def RelCaps (c : Cx) : List Cap → List Value → Prop
  | [], vs => vs = []
  | k :: ks, vs => ∃ v l, vs = v :: l ∧ RelCap c k v ∧ RelCaps c ks l

def RelPt (c : Cx) (b : Nat) (p : List PS) (t : Ty) (v : Value) : Prop := ∃ B, c.m.box b = some B ∧ pathTy p B.t = some t ∧ PathIn p B.t ∧ v = .pointer (some ⟨c.bx b, pathOff p B.t, none⟩)
def RelPs (c : Cx) : List (TypeId × Nat × List PS × Ty) → List Value → Prop
  | [], cs => cs = []
  | x :: l, cs => ∃ u cs', cs = .iface x.1 u :: cs' ∧ RelPt c x.2.1 x.2.2.1 x.2.2.2 u ∧ RelPs c l cs'
def RelV (P : Program) (E : Env) (c : Cx) : V → Value → Prop
  | .bad, _ => True
  | .und, v => v = undef
  | .dat d, v => RelD c.w c.S d.t d.x v
  | .agg d nl, v => RelD c.w c.S d.t d.x v ∧ NilsIn d.t nl v.cells.toList
  | .nils, v => v = .slice none 0 0
  | .nili, v => v = .nilIface
  | .ifv t d, v => ∃ u, v = .iface t u ∧ RelD c.w c.S d.t d.x u
  | .ifp t b p pt, v => ∃ u, v = .iface t u ∧ RelPt c b p pt u
  | .prow l, v => ∃ g cs, v = .slice (some ⟨g, 0, none⟩) l.length l.length ∧ c.S g ∧ RelPs c l cs ∧ CellsAt c.w ⟨g, 0, none⟩ cs
  | .own a, v => c.m.arr a ≠ .no ∧ (∀ A, c.m.arr a = .at_ A → v = c.ar a) ∧ ∀ M, c.m.arr a = .mp M → v = c.ar a
  | .ptr b p t, v => ∃ B, c.m.box b = some B ∧ pathTy p B.t = some t ∧ PathIn p B.t ∧ v = .pointer (some ⟨c.bx b, pathOff p B.t, none⟩)
  | .rptr d, v => RelP c.w c.S d.t d.x v
  | .eptr a et i p t, v => c.m.arr a ≠ .no ∧ pathTy p et = some t ∧ PathIn p et ∧ ∃ g, v = .pointer (some ⟨g, i.toNat * et.size + pathOff p et, none⟩) ∧ ∀ A, c.m.arr a = .at_ A → (c.ar a).ownBlock = some g
  | .clo f caps, v => ∃ cv, v = .func (.func f) #[] cv ∧ RelCaps c caps cv.toList
  | .fnp a r g, v => ∃ S1, (∀ b, S1 b → b < E.w0.heap.size ∧ ¬ E.W0 b) ∧ RelFn P E.w0 E.S0 S1 a r g v
  | .fnc a r g, v => RelFn P c.w c.S c.S a r g v

theorem RelFn.move {P : Program} {w w' : World} {S S' S1 S1' : Nat → Prop} (hs : SameOn S1 w w') (hS : ∀ b, S b → S' b) (hS1 : ∀ b, S1 b → S1' b) {a r : Ty} {g : a.den → Option r.den} {v : Value}
    (h : RelFn P w S S1 a r g v) : RelFn P w' S' S1' a r g v := by
  obtain ⟨f, cv, e, hen, hh⟩ := h
  exact ⟨f, cv, e, hen, fun w2 S2 h1 h2 h3 => hh w2 S2 (fun b hb => (h1 b (hS1 b hb)).trans (hs b hb)) (fun b hb => h2 b (hS b hb)) h3⟩
structure Ext (c c' : Cx) : Prop where
  S : ∀ b, c.S b → c'.S b
  w : SameOn c.S c.w c'.w
  box : ∀ b B, c.m.box b = some B → ∃ B', c'.m.box b = some B' ∧ B'.t = B.t ∧ c'.bx b = c.bx b
  arr : ∀ a, c.m.arr a ≠ .no → c'.m.arr a ≠ .no ∧ ∀ A', c'.m.arr a = .at_ A' → (∃ A, c.m.arr a = .at_ A) ∧ c'.ar a = c.ar a
  mps : ∀ a M', c'.m.arr a = .mp M' → c.m.arr a ≠ .no → (∃ M, c.m.arr a = .mp M) ∧ c'.ar a = c.ar a
theorem Ext.refl (c : Cx) : Ext c c := ⟨fun _ h => h, fun _ _ => rfl, fun _ B h => ⟨B, h, rfl, rfl⟩, fun _ h => ⟨h, fun A h => ⟨⟨A, h⟩, rfl⟩⟩, fun _ M h _ => ⟨⟨M, h⟩, rfl⟩⟩
theorem Ext.trans {a b c : Cx} (h : Ext a b) (k : Ext b c) : Ext a c :=
  ⟨fun i hi => k.S i (h.S i hi), fun i hi => (k.w i (h.S i hi)).trans (h.w i hi),
   fun i B hB => by
    obtain ⟨B1, e1, t1, x1⟩ := h.box i B hB
    obtain ⟨B2, e2, t2, x2⟩ := k.box i B1 e1
    exact ⟨B2, e2, t2.trans t1, x2.trans x1⟩,
   fun i hi => by
    obtain ⟨h1, h2⟩ := h.arr i hi
    obtain ⟨k1, k2⟩ := k.arr i h1
    refine ⟨k1, fun A hA => ?_⟩
    obtain ⟨⟨A1, e1⟩, x1⟩ := k2 A hA
    obtain ⟨A2, x2⟩ := h2 A1 e1
    exact ⟨A2, x1.trans x2⟩,
   fun i M hM hi => by
    obtain ⟨⟨M1, e1⟩, x1⟩ := k.mps i M hM (h.arr i hi).1
    obtain ⟨M2, x2⟩ := h.mps i M1 e1 hi
    exact ⟨M2, x1.trans x2⟩⟩
theorem RelP.move {w w' : World} {S S' : Nat → Prop} (hs : SameOn S w w') (hS : ∀ b, S b → S' b) {t : Ty} {x : t.den} {v : Value} (h : RelP w S t x v) : RelP w' S' t x v := by
  obtain ⟨ad, cs, e, hb, hr, hc⟩ := h
  exact ⟨ad, cs, e, hS _ hb, hr.move hs hS, hc.move (hs _ hb)⟩
theorem RelCap.ext {c c' : Cx} (h : Ext c c') : ∀ {k : Cap} {v : Value}, RelCap c k v → RelCap c' k v
  | .ptr b t, v, ⟨⟨B, hb, ht⟩, h2⟩ => by
    obtain ⟨B', e, t', x⟩ := h.box b B hb
    exact ⟨⟨B', e, t'.trans ht⟩, by rw [x]; exact h2⟩
  | .dat d, v, hv => RelD.move h.w h.S (show RelD c.w c.S d.t d.x v from hv)
theorem RelCaps.ext {c c' : Cx} (h : Ext c c') : ∀ {ks : List Cap} {vs : List Value}, RelCaps c ks vs → RelCaps c' ks vs
  | [], _, e => e
  | _ :: _, _, ⟨v, l, e, h0, h1⟩ => ⟨v, l, e, h0.ext h, h1.ext h⟩
theorem RelPt.ext {c c' : Cx} (h : Ext c c') {b : Nat} {p : List PS} {t : Ty} {v : Value} : RelPt c b p t v → RelPt c' b p t v
  | ⟨B, hB, hpt, hp, hv⟩ => by
    obtain ⟨B', e, ht, hx⟩ := h.box b B hB
    exact ⟨B', e, by rw [ht]; exact hpt, by rw [ht]; exact hp, by rw [ht, hx]; exact hv⟩
theorem RelPs.ext {c c' : Cx} (h : Ext c c') : ∀ {l : List (TypeId × Nat × List PS × Ty)} {cs : List Value}, RelPs c l cs → RelPs c' l cs
  | [], _, e => e
  | _ :: _, _, ⟨u, cs', e, h0, h1⟩ => ⟨u, cs', e, h0.ext h, h1.ext h⟩
theorem RelV.ext {P : Program} {E : Env} {c c' : Cx} (h : Ext c c') {x : V} {v : Value} (hv : RelV P E c x v) : RelV P E c' x v := by
  cases x with
  | bad => trivial
  | und => exact hv
  | dat d => exact RelD.move h.w h.S (show RelD c.w c.S d.t d.x v from hv)
  | agg d nl => exact ⟨RelD.move h.w h.S hv.1, hv.2⟩
  | nils => exact hv
  | nili => exact hv
  | ifv t d =>
    obtain ⟨u, e, hu⟩ := hv
    exact ⟨u, e, RelD.move h.w h.S hu⟩
  | ifp t b p pt =>
    obtain ⟨u, e, hu⟩ := hv
    exact ⟨u, e, hu.ext h⟩
  | prow l =>
    obtain ⟨g, cs, e, hg, hp, hc⟩ := hv
    exact ⟨g, cs, e, h.S _ hg, hp.ext h, hc.move (h.w _ hg)⟩
  | own a =>
    obtain ⟨h1, h2, h3⟩ := hv
    obtain ⟨k1, k2⟩ := h.arr a h1
    refine ⟨k1, fun A hA => ?_, fun M hM => ?_⟩
    · obtain ⟨⟨A1, e1⟩, x1⟩ := k2 A hA
      rw [x1]; exact h2 A1 e1
    · obtain ⟨⟨M1, e1⟩, x1⟩ := h.mps a M hM h1
      rw [x1]; exact h3 M1 e1
  | ptr b p t =>
    obtain ⟨B, hB, hpt, hp, hv⟩ := hv
    obtain ⟨B', e, ht, hx⟩ := h.box b B hB
    exact ⟨B', e, by rw [ht]; exact hpt, by rw [ht]; exact hp, by rw [ht, hx]; exact hv⟩
  | rptr d => exact RelP.move h.w h.S (show RelP c.w c.S d.t d.x v from hv)
  | eptr a et i p t =>
    obtain ⟨h1, h2, h3, g, e, h4⟩ := hv
    obtain ⟨k1, k2⟩ := h.arr a h1
    refine ⟨k1, h2, h3, g, e, fun A hA => ?_⟩
    obtain ⟨⟨A1, e1⟩, x1⟩ := k2 A hA
    rw [x1]; exact h4 A1 e1
  | clo f caps =>
    obtain ⟨cv, e, hh⟩ := hv
    exact ⟨cv, e, hh.ext h⟩
  | fnp a r g => exact hv
  | fnc a r g => exact RelFn.move h.w h.S h.S hv

theorem RelA.move {E : Env} {w w' : World} {S S' : Nat → Prop} (hs : SameOn S w w') (hS : ∀ b, S b → S' b) {A : Arr} {v : Value}
    (hg : A.open_ = true → ∀ g, v.ownBlock = some g → w'.heap[g]? = w.heap[g]? ∧ ¬ S' g) (h : RelA E w S A v) : RelA E w' S' A v := by
  unfold RelA at *
  split at h
  · rename_i ho
    rw [if_pos ho]
    obtain ⟨inner, h1, h2, h3⟩ := h
    refine ⟨inner, ⟨h1.1, ?_⟩, h2.imp (fun _ _ hh => hh.move hs hS), fun g hgg => (hg ho g hgg).2⟩
    rcases h1.2 with h1 | ⟨g, cap, cur, rfl, hb, hh, r⟩
    · exact .inl h1
    · exact .inr ⟨g, cap, cur, rfl, hb, (hg ho g rfl).1.trans hh, r⟩
  · rename_i ho
    rw [if_neg ho]
    exact h.move hs hS

theorem freeze_ok {E : Env} {c : Cx} (hr : Rel E c) {a : Nat} {A : Arr} (ha : c.m.arr a = .at_ A) (ho : A.open_ = true) :
    ∃ S', S' = (fun b => c.S b ∨ (c.ar a).ownBlock = some b) ∧ Rel E { c with S := S', m := c.m.setA a (.at_ { A with open_ := false }) } ∧ Ext c { c with S := S', m := c.m.setA a (.at_ { A with open_ := false }) } ∧
      RelC c.w S' (.sl A.e A.t) A.xs [c.ar a] := by
  have hA := hr.arr a A ha
  unfold RelA at hA
  rw [if_pos ho] at hA
  obtain ⟨inner, h1, h2, h3⟩ := hA
  let S' : Nat → Prop := fun b => c.S b ∨ (c.ar a).ownBlock = some b
  have hS : ∀ b, c.S b → S' b := fun b hb => .inl hb
  have hsame : SameOn c.S c.w c.w := fun _ _ => rfl
  have hRC : RelC c.w S' (.sl A.e A.t) A.xs [c.ar a] := by
    rcases h1.2 with ⟨hv, hn⟩ | ⟨g, cap, cur, hv, hb, hh, hle, _⟩
    · refine ⟨none, 0, by rw [hv, hn], by omega, fun hp => ?_⟩
      omega
    · refine ⟨some ⟨g, 0, none⟩, cap, by rw [hv], hle, fun _ => ⟨⟨g, 0, none⟩, inner, rfl, .inr (by rw [hv]; rfl), h1.1, ?_, h2.imp (fun _ _ hh => hh.move hsame hS)⟩⟩
      exact fun i u hu => h1.cells (g := g) (by rw [hv]; rfl) i u hu
  have hown : ∀ g, (c.ar a).ownBlock = some g → E.w0.heap.size ≤ g ∧ g < c.w.heap.size := fun g hg => h1.lt g hg
  refine ⟨S', rfl, ⟨hr.os, hr.tape, hr.output, hr.size, hr.keep, fun b hb => hS b (hr.old b hb), ?_, ?_, ?_, ?_, ?_, hr.bb, ?_, ?_, ?_⟩, ⟨hS, hsame, fun b B hB => ⟨B, hB, rfl, rfl⟩, ?_, ?_⟩, hRC⟩
  · rintro b (hb | hb)
    · exact hr.lt b hb
    · exact (hown b hb).2
  · rintro b (hb | hb)
    · exact hr.new b hb
    · exact .inr (hown b hb).1
  · intro b B hB
    refine BoxRel.mv (c := c) (c' := { c with S := S', m := c.m.setA a (.at_ { A with open_ := false }) }) hS hsame (fun x hx => ?_) rfl (hr.box b B hB)
    simp only [Mem.setA, upd]
    cases hex : Nat.beq x a with
    | true =>
      have := Nat.eq_of_beq_eq_true hex
      subst this
      exact ⟨by simp, fun A' _ => ⟨⟨A, ha⟩, trivial⟩, fun M hM => by cases hM⟩
    | false => exact ⟨hx, fun A' hA' => ⟨⟨A', hA'⟩, trivial⟩, fun A' hA' => ⟨⟨A', hA'⟩, trivial⟩⟩
  · intro b hb
    refine ⟨(hr.priv b hb).1, ?_⟩
    rintro (hs | hs)
    · exact (hr.priv b hb).2 hs
    · exact hr.ba b a A hb ha ho hs
  · intro a' A' ha'
    simp only [Mem.setA, upd] at ha'
    cases he : Nat.beq a' a with
    | true =>
      have := Nat.eq_of_beq_eq_true he
      subst this
      rw [he] at ha'
      injection ha' with ha'
      subst ha'
      show RelA E c.w S' _ _
      unfold RelA
      rw [if_neg (by simp)]
      exact hRC
    | false =>
      rw [he] at ha'
      refine (hr.arr a' A' ha').move hsame hS (fun ho' g hg => ⟨rfl, ?_⟩)
      rintro (hs | hs)
      · have := hr.arr a' A' ha'
        unfold RelA at this
        rw [if_pos ho'] at this
        obtain ⟨_, _, _, h5⟩ := this
        exact h5 g hg hs
      · have := hr.aa a' a A' A g ha' ha ho' ho hg hs
        subst this
        simp at he
  · intro x y X Y g hx hy hxo hyo hgx hgy
    simp only [Mem.setA, upd] at hx hy
    cases hex : Nat.beq x a with
    | true => rw [hex] at hx; injection hx with hx; subst hx; simp at hxo
    | false =>
      cases hey : Nat.beq y a with
      | true => rw [hey] at hy; injection hy with hy; subst hy; simp at hyo
      | false => rw [hex] at hx; rw [hey] at hy; exact hr.aa x y X Y g hx hy hxo hyo hgx hgy
  · intro b y Y hb hy hyo
    simp only [Mem.setA, upd] at hy
    cases hey : Nat.beq y a with
    | true => rw [hey] at hy; injection hy with hy; subst hy; simp at hyo
    | false => rw [hey] at hy; exact hr.ba b y Y hb hy hyo
  · refine hr.ms.step (fun x M hx => ?_) (fun g es cl hg hS' => ⟨rfl, ?_⟩)
    · simp only [Mem.setA, upd] at hx
      cases hex : Nat.beq x a with
      | true => rw [hex] at hx; cases hx
      | false => rw [hex] at hx; exact ⟨hx, rfl⟩
    · rintro (hs | hs)
      · exact hS' hs
      · rcases h1.2 with ⟨hv, _⟩ | ⟨g', cap, cur, hv, hb, hh, _⟩
        · rw [hv] at hs; cases hs
        · rw [hv] at hs
          have : g' = g := by simpa [Value.ownBlock] using hs
          subst this
          rw [hh] at hg; cases hg
  · intro x hx
    simp only [Mem.setA, upd]
    cases hex : Nat.beq x a with
    | true =>
      have := Nat.eq_of_beq_eq_true hex
      subst this
      exact ⟨by simp, fun A' _ => ⟨⟨A, ha⟩, trivial⟩⟩
    | false => exact ⟨hx, fun A' hA' => ⟨⟨A', hA'⟩, trivial⟩⟩
  · intro x M hx _
    simp only [Mem.setA, upd] at hx
    cases hex : Nat.beq x a with
    | true => rw [hex] at hx; cases hx
    | false => rw [hex] at hx; exact ⟨⟨M, hx⟩, rfl⟩

theorem nilsOf_ok {P : Program} {E : Env} {c : Cx} {t : Ty} {x : V} {u : Value} (hv : RelV P E c x u) {y : t.den} {m' : Mem} {fp fp' : FP}
    (h : (asDat t x).ev c.m fp = some (y, m', fp')) : NilsIn t (nilsOf x) u.cells.toList := by
  cases x with
  | agg d nl =>
    simp only [asDat] at h
    split at h
    · rename_i he
      subst he
      exact hv.2
    · cases h
  | _ => exact NilsIn.nil
theorem asDat_ok {P : Program} {E : Env} {c : Cx} (hr : Rel E c) {t : Ty} {x : V} {u : Value} (hv : RelV P E c x u) {y : t.den} {m' : Mem} {fp fp' : FP}
    (h : (asDat t x).ev c.m fp = some (y, m', fp')) : ∃ S', Rel E { c with S := S', m := m' } ∧ Ext c { c with S := S', m := m' } ∧ RelD c.w S' t y u := by
  cases x with
  | dat d =>
    simp only [asDat] at h
    split at h
    · rename_i he
      obtain ⟨dt, dx⟩ := d
      simp only at he
      subst he
      injection h with h
      injection h with h1 h2
      injection h2 with h2 h3
      subst h1 h2
      exact ⟨c.S, hr, Ext.refl c, hv⟩
    · cases h
  | agg d nl =>
    simp only [asDat] at h
    split at h
    · rename_i he
      obtain ⟨dt, dx⟩ := d
      simp only at he
      subst he
      injection h with h
      injection h with h1 h2
      injection h2 with h2 h3
      subst h1 h2
      exact ⟨c.S, hr, Ext.refl c, hv.1⟩
    · cases h
  | nils =>
    cases t with
    | sl e t =>
      simp only [asDat, Res.ev] at h
      injection h with h
      injection h with h1 h2
      injection h2 with h2 h3
      subst h1 h2
      have : u = .slice none 0 0 := hv
      subst this
      exact ⟨c.S, hr, Ext.refl c, ⟨none, 0, rfl, Nat.le_refl _, fun hp => absurd hp (Nat.lt_irrefl 0)⟩⟩
    | _ => simp [asDat, Res.ev] at h
  | nili =>
    cases t with
    | any it st =>
      simp only [asDat, Res.ev] at h
      injection h with h
      injection h with h1 h2
      injection h2 with h2 h3
      subst h1 h2
      exact ⟨c.S, hr, Ext.refl c, by show [u] = [Value.nilIface]; rw [show u = .nilIface from hv]⟩
    | _ => simp [asDat, Res.ev] at h
  | ifv i d =>
    obtain ⟨v, rfl, hd⟩ := hv
    cases t with
    | any it st =>
      simp only [asDat] at h
      split at h
      · rename_i n
        split at h
        · rename_i hi
          have hi := of_decide_eq_true hi
          subst hi
          injection h with h
          injection h with h1 h2
          injection h2 with h2 h3
          subst h1 h2
          have hv' : v = .int .i64 n := by simpa [RelD, RelV1, RelC] using hd
          exact ⟨c.S, hr, Ext.refl c, by show [Value.iface i v] = [Value.iface i (.int .i64 n)]; rw [hv']⟩
        · cases h
      · rename_i s
        split at h
        · rename_i hi
          have hi := of_decide_eq_true hi
          subst hi
          injection h with h
          injection h with h1 h2
          injection h2 with h2 h3
          subst h1 h2
          have hv' : v = .string s := by simpa [RelD, RelV1, RelC] using hd
          exact ⟨c.S, hr, Ext.refl c, by show [Value.iface i v] = [Value.iface i (.string s)]; rw [hv']⟩
        · cases h
      · cases h
    | _ => simp [asDat, Res.ev] at h
  | own a =>
    simp only [asDat, Res.ev] at h
    cases ha : c.m.arr a with
    | no => rw [ha] at h; simp [Res.ev] at h
    | dead => rw [ha] at h; simp [Res.ev] at h
    | mp M => rw [ha] at h; simp [Res.ev] at h
    | at_ A =>
      rw [ha] at h
      simp only at h
      split at h
      · rename_i he
        subst he
        have hu : u = c.ar a := hv.2.1 A ha
        cases ho : A.open_ with
        | true =>
          rw [ho] at h
          simp only [Res.ev] at h
          injection h with h
          injection h with h1 h2
          injection h2 with h2 h3
          subst h1 h2 hu
          obtain ⟨S', _, r1, r2, r3⟩ := freeze_ok hr ha ho
          exact ⟨S', r1, r2, r3⟩
        | false =>
          rw [ho] at h
          simp only [Res.ev] at h
          injection h with h
          injection h with h1 h2
          injection h2 with h2 h3
          subst h1 h2 hu
          have := hr.arr a A ha
          unfold RelA at this
          rw [if_neg (by simp [ho])] at this
          exact ⟨c.S, hr, Ext.refl c, this⟩
      · simp [Res.ev] at h
  | _ => simp [asDat, Res.ev] at h
end Go.Vm
end
section
namespace Go.Vm
open Go.RowKit
set_option linter.unusedVariables false

theorem chainGet_rel {w : World} {S : Nat → Prop} : ∀ {c : Ty} {x : c.den} {cs : List Value} {i : Nat} {d : D}, RelC w S c x cs → chainGet c x i = some d →
    chainTy c i = some d.t ∧ ∃ a m b, cs = a ++ m ++ b ∧ a.length = chainOff c i ∧ RelC w S d.t d.x m
  | .pair a b, x, cs, 0, d, ⟨c0, c1, e, h0, h1⟩, h => by
    injection h with h; subst h
    exact ⟨rfl, [], c0, c1, by simp [e], rfl, h0⟩
  | .pair a b, x, cs, i + 1, d, ⟨c0, c1, e, h0, h1⟩, h => by
    obtain ⟨ht, p, m, q, e2, hl, hm⟩ := chainGet_rel (i := i) h1 h
    exact ⟨ht, c0 ++ p, m, q, by rw [e, e2]; simp [List.append_assoc], by rw [List.length_append, h0.len, hl]; rfl, hm⟩
  | .int _, x, cs, 0, d, hr, h => by injection h with h; subst h; exact ⟨rfl, [], cs, [], by simp, rfl, hr⟩
  | .bool, x, cs, 0, d, hr, h => by injection h with h; subst h; exact ⟨rfl, [], cs, [], by simp, rfl, hr⟩
  | .str, x, cs, 0, d, hr, h => by injection h with h; subst h; exact ⟨rfl, [], cs, [], by simp, rfl, hr⟩
  | .any _ _, x, cs, 0, d, hr, h => by injection h with h; subst h; exact ⟨rfl, [], cs, [], by simp, rfl, hr⟩
  | .pt _, x, cs, 0, d, hr, h => by injection h with h; subst h; exact ⟨rfl, [], cs, [], by simp, rfl, hr⟩
  | .any _ _, x, cs, i + 1, d, hr, h => by cases h
  | .pt _, x, cs, i + 1, d, hr, h => by cases h
  | .sl _ _, x, cs, 0, d, hr, h => by injection h with h; subst h; exact ⟨rfl, [], cs, [], by simp, rfl, hr⟩
  | .mp _ _, x, cs, 0, d, hr, h => by injection h with h; subst h; exact ⟨rfl, [], cs, [], by simp, rfl, hr⟩
  | .mp _ _, x, cs, i + 1, d, hr, h => by cases h
  | .arr _ _, x, cs, 0, d, hr, h => by injection h with h; subst h; exact ⟨rfl, [], cs, [], by simp, rfl, hr⟩
  | .st _, x, cs, 0, d, hr, h => by injection h with h; subst h; exact ⟨rfl, [], cs, [], by simp, rfl, hr⟩
  | .int _, x, cs, i + 1, d, hr, h => by cases h
  | .bool, x, cs, i + 1, d, hr, h => by cases h
  | .str, x, cs, i + 1, d, hr, h => by cases h
  | .sl _ _, x, cs, i + 1, d, hr, h => by cases h
  | .arr _ _, x, cs, i + 1, d, hr, h => by cases h
  | .st _, x, cs, i + 1, d, hr, h => by cases h

theorem chainSet_rel {w : World} {S : Nat → Prop} : ∀ {c : Ty} {x : c.den} {cs : List Value} {i : Nat} {d : D} {y : c.den}, RelC w S c x cs → chainSet c x i d = some y →
    ∃ a m b, cs = a ++ m ++ b ∧ a.length = chainOff c i ∧ m.length = d.t.size ∧ ∀ m', RelC w S d.t d.x m' → RelC w S c y (a ++ m' ++ b)
  | .pair a b, x, cs, 0, d, y, ⟨c0, c1, e, h0, h1⟩, h => by
    simp only [chainSet] at h
    split at h
    · rename_i he
      obtain ⟨dt, dx⟩ := d
      simp only at he
      subst he
      injection h with h; subst h
      exact ⟨[], c0, c1, by simp [e], rfl, h0.len, fun m' hm => ⟨m', c1, by simp, hm, h1⟩⟩
    · cases h
  | .pair a b, x, cs, i + 1, d, y, ⟨c0, c1, e, h0, h1⟩, h => by
    simp only [chainSet] at h
    split at h
    · rename_i z hz
      injection h with h; subst h
      obtain ⟨p, m, q, e2, hl, hm, hs⟩ := chainSet_rel (i := i) h1 hz
      exact ⟨c0 ++ p, m, q, by rw [e, e2]; simp [List.append_assoc], by rw [List.length_append, h0.len, hl]; rfl, hm,
        fun m' hm' => ⟨c0, p ++ m' ++ q, by simp [List.append_assoc], h0, hs m' hm'⟩⟩
    · cases h
  | .int _, x, cs, 0, d, y, hr, h => by
    simp only [chainSet] at h; split at h
    · rename_i he; obtain ⟨dt, dx⟩ := d; simp only at he; subst he; injection h with h; subst h
      exact ⟨[], cs, [], by simp, rfl, hr.len, fun m' hm => by simpa [Ty.cast] using hm⟩
    · cases h
  | .bool, x, cs, 0, d, y, hr, h => by
    simp only [chainSet] at h; split at h
    · rename_i he; obtain ⟨dt, dx⟩ := d; simp only at he; subst he; injection h with h; subst h
      exact ⟨[], cs, [], by simp, rfl, hr.len, fun m' hm => by simpa [Ty.cast] using hm⟩
    · cases h
  | .any _ _, x, cs, i + 1, d, y, hr, h => by cases h
  | .pt _, x, cs, i + 1, d, y, hr, h => by cases h
  | .any _ _, x, cs, 0, d, y, hr, h => by
    simp only [chainSet] at h; split at h
    · rename_i he; obtain ⟨dt, dx⟩ := d; simp only at he; subst he; injection h with h; subst h
      exact ⟨[], cs, [], by simp, rfl, hr.len, fun m' hm => by simpa [Ty.cast] using hm⟩
    · cases h
  | .pt _, x, cs, 0, d, y, hr, h => by
    simp only [chainSet] at h; split at h
    · rename_i he; obtain ⟨dt, dx⟩ := d; simp only at he; subst he; injection h with h; subst h
      exact ⟨[], cs, [], by simp, rfl, hr.len, fun m' hm => by simpa [Ty.cast] using hm⟩
    · cases h
  | .str, x, cs, 0, d, y, hr, h => by
    simp only [chainSet] at h; split at h
    · rename_i he; obtain ⟨dt, dx⟩ := d; simp only at he; subst he; injection h with h; subst h
      exact ⟨[], cs, [], by simp, rfl, hr.len, fun m' hm => by simpa [Ty.cast] using hm⟩
    · cases h
  | .sl _ _, x, cs, 0, d, y, hr, h => by
    simp only [chainSet] at h; split at h
    · rename_i he; obtain ⟨dt, dx⟩ := d; simp only at he; subst he; injection h with h; subst h
      exact ⟨[], cs, [], by simp, rfl, hr.len, fun m' hm => by simpa [Ty.cast] using hm⟩
    · cases h
  | .mp _ _, x, cs, 0, d, y, hr, h => by
    simp only [chainSet] at h; split at h
    · rename_i he; obtain ⟨dt, dx⟩ := d; simp only at he; subst he; injection h with h; subst h
      exact ⟨[], cs, [], by simp, rfl, hr.len, fun m' hm => by simpa [Ty.cast] using hm⟩
    · cases h
  | .mp _ _, x, cs, i + 1, d, y, hr, h => by cases h
  | .arr _ _, x, cs, 0, d, y, hr, h => by
    simp only [chainSet] at h; split at h
    · rename_i he; obtain ⟨dt, dx⟩ := d; simp only at he; subst he; injection h with h; subst h
      exact ⟨[], cs, [], by simp, rfl, hr.len, fun m' hm => by simpa [Ty.cast] using hm⟩
    · cases h
  | .st _, x, cs, 0, d, y, hr, h => by
    simp only [chainSet] at h; split at h
    · rename_i he; obtain ⟨dt, dx⟩ := d; simp only at he; subst he; injection h with h; subst h
      exact ⟨[], cs, [], by simp, rfl, hr.len, fun m' hm => by simpa [Ty.cast] using hm⟩
    · cases h
  | .int _, x, cs, i + 1, d, y, hr, h => by cases h
  | .bool, x, cs, i + 1, d, y, hr, h => by cases h
  | .str, x, cs, i + 1, d, y, hr, h => by cases h
  | .sl _ _, x, cs, i + 1, d, y, hr, h => by cases h
  | .arr _ _, x, cs, i + 1, d, y, hr, h => by cases h
  | .st _, x, cs, i + 1, d, y, hr, h => by cases h

theorem getD_some {α : Type} {xs : List α} {j : Nat} (h : j < xs.length) (z : α) : xs[j]? = some (xs.getD j z) := by
  rw [List.getD_eq_getElem?_getD, List.getElem?_eq_getElem h]; rfl

theorem getP_rel {w : World} {S : Nat → Prop} : ∀ {p : List PS} {t : Ty} {x : t.den} {cs : List Value} {d : D}, RelC w S t x cs → PathIn p t → getP p t x = some d →
    ∃ a m b, cs = a ++ m ++ b ∧ a.length = pathOff p t ∧ RelC w S d.t d.x m
  | [], t, x, cs, d, hr, _, h => by
    injection h with h; subst h
    exact ⟨[], cs, [], by simp, rfl, hr⟩
  | .fld i :: p, .st c, x, cs, d, hr, hp, h => by
    obtain ⟨t, ht, hp⟩ := hp
    simp only [getP] at h
    split at h
    · rename_i e he
      obtain ⟨h1, a, m, b, e2, hl, hm⟩ := chainGet_rel (c := c) hr he
      rw [ht] at h1
      injection h1 with h1
      subst h1
      obtain ⟨a', m', b', e3, hl', hm'⟩ := getP_rel hm hp h
      refine ⟨a ++ a', m', b' ++ b, by rw [e2, e3]; simp [List.append_assoc], ?_, hm'⟩
      rw [List.length_append, hl, hl', pathOff, ht]
    · cases h
  | .idx i :: p, .arr n t, x, cs, d, ⟨hn, hr⟩, ⟨h0, h1, hp⟩, h => by
    have hlt : i.toNat < List.length (α := t.den) x := by rw [hn]; omega
    obtain ⟨a, m, b, e2, hl, hm, _, _⟩ := hr.at_ (fun _ _ hh => RelC.len hh) (getD_some hlt t.zero)
    obtain ⟨a', m', b', e3, hl', hm'⟩ := getP_rel hm hp h
    exact ⟨a ++ a', m', b' ++ b, by rw [e2, e3]; simp [List.append_assoc], by rw [List.length_append, hl, hl', pathOff], hm'⟩
  | .fld _ :: _, .int _, _, _, _, _, hp, _ => hp.elim
  | .fld _ :: _, .bool, _, _, _, _, hp, _ => hp.elim
  | .fld _ :: _, .str, _, _, _, _, hp, _ => hp.elim
  | .fld _ :: _, .sl _ _, _, _, _, _, hp, _ => hp.elim
  | .fld _ :: _, .arr _ _, _, _, _, _, hp, _ => hp.elim
  | .fld _ :: _, .pair _ _, _, _, _, _, hp, _ => hp.elim
  | .idx _ :: _, .int _, _, _, _, _, hp, _ => hp.elim
  | .idx _ :: _, .bool, _, _, _, _, hp, _ => hp.elim
  | .idx _ :: _, .str, _, _, _, _, hp, _ => hp.elim
  | .idx _ :: _, .sl _ _, _, _, _, _, hp, _ => hp.elim
  | .idx _ :: _, .mp _ _, _, _, _, _, hp, _ => hp.elim
  | .fld _ :: _, .mp _ _, _, _, _, _, hp, _ => hp.elim
  | .idx _ :: _, .st _, _, _, _, _, hp, _ => hp.elim
  | .idx _ :: _, .pair _ _, _, _, _, _, hp, _ => hp.elim

theorem setP_rel {w : World} {S : Nat → Prop} : ∀ {p : List PS} {t : Ty} {x : t.den} {cs : List Value} {d : D} {y : t.den}, RelC w S t x cs → PathIn p t → setP p t x d = some y →
    ∃ a m b, cs = a ++ m ++ b ∧ a.length = pathOff p t ∧ m.length = d.t.size ∧ ∀ m', RelC w S d.t d.x m' → RelC w S t y (a ++ m' ++ b)
  | [], t, x, cs, d, y, hr, _, h => by
    simp only [setP] at h
    split at h
    · rename_i he
      obtain ⟨dt, dx⟩ := d
      simp only at he
      subst he
      injection h with h; subst h
      exact ⟨[], cs, [], by simp, rfl, hr.len, fun m' hm => by simpa [Ty.cast] using hm⟩
    · cases h
  | .fld i :: p, .st c, x, cs, d, y, hr, hp, h => by
    obtain ⟨t, ht, hp⟩ := hp
    simp only [setP] at h
    split at h
    · rename_i e he
      split at h
      · rename_i z hz
        obtain ⟨h1, a, m, b, e2, hl, hm⟩ := chainGet_rel (c := c) hr he
        rw [ht] at h1
        injection h1 with h1
        subst h1
        obtain ⟨a', m', b', e3, hl', hs', hm'⟩ := setP_rel hm hp hz
        obtain ⟨a2, m2, b2, e4, hl2, hs2, hm2⟩ := chainSet_rel (c := c) hr h
        have hlen : a.length = a2.length := hl.trans hl2.symm
        rw [e2] at e4
        have hm3 : m.length = m2.length := by rw [hs2]; exact hm.len
        obtain ⟨ea, eb⟩ := List.append_inj (by simpa [List.append_assoc] using e4) hlen
        obtain ⟨em, eb2⟩ := List.append_inj eb hm3
        subst ea em eb2
        refine ⟨a ++ a', m', b' ++ b, by rw [e2, e3]; simp [List.append_assoc], ?_, hs', fun k hk => ?_⟩
        · rw [List.length_append, hl, hl', pathOff, ht]
        · have := hm2 _ (hm' k hk)
          show RelC w S c y _
          simpa [List.append_assoc] using this
      · cases h
    · cases h
  | .idx i :: p, .arr n t, x, cs, d, y, ⟨hn, hr⟩, ⟨h0, h1, hp⟩, h => by
    have hlt : i.toNat < List.length (α := t.den) x := by rw [hn]; omega
    simp only [setP] at h
    split at h
    · rename_i z hz
      injection h with h; subst h
      obtain ⟨a, m, b, e2, hl, hm, ha, hb⟩ := hr.at_ (fun _ _ hh => RelC.len hh) (getD_some hlt t.zero)
      obtain ⟨a', m', b', e3, hl', hs', hm'⟩ := setP_rel hm hp hz
      refine ⟨a ++ a', m', b' ++ b, by rw [e2, e3]; simp [List.append_assoc], by rw [List.length_append, hl, hl', pathOff], hs', fun k hk => ⟨?_, ?_⟩⟩
      · rw [List.length_set]; exact hn
      · have := RelL.set (hm' k hk) hlt ha hb
        simpa [List.append_assoc] using this
    · cases h
  | .fld _ :: _, .int _, _, _, _, _, _, hp, _ => hp.elim
  | .fld _ :: _, .bool, _, _, _, _, _, hp, _ => hp.elim
  | .fld _ :: _, .str, _, _, _, _, _, hp, _ => hp.elim
  | .fld _ :: _, .sl _ _, _, _, _, _, _, hp, _ => hp.elim
  | .fld _ :: _, .arr _ _, _, _, _, _, _, hp, _ => hp.elim
  | .fld _ :: _, .pair _ _, _, _, _, _, _, hp, _ => hp.elim
  | .idx _ :: _, .int _, _, _, _, _, _, hp, _ => hp.elim
  | .idx _ :: _, .bool, _, _, _, _, _, hp, _ => hp.elim
  | .idx _ :: _, .str, _, _, _, _, _, hp, _ => hp.elim
  | .idx _ :: _, .sl _ _, _, _, _, _, _, hp, _ => hp.elim
  | .idx _ :: _, .mp _ _, _, _, _, _, _, hp, _ => hp.elim
  | .fld _ :: _, .mp _ _, _, _, _, _, _, hp, _ => hp.elim
  | .idx _ :: _, .st _, _, _, _, _, _, hp, _ => hp.elim
  | .idx _ :: _, .pair _ _, _, _, _, _, _, hp, _ => hp.elim

section
variable {P : Program} {T : Tab} {tid : TypeId} {ty : Ty}
theorem TyOk.sizeOf (h : TyOk P T tid ty) (w : World) : (sizeOf tid).run P w = .ok ty.size w := by
  obtain ⟨i, z, hi, hs, _⟩ := h.info
  simp [Go.sizeOf, typeInfo, hi, hs]
theorem TyOk.isz (h : TyOk P T tid ty) : (P.info? tid).map (·.size) = some ty.size := by
  obtain ⟨i, z, hi, hs, _⟩ := h.info
  simp [hi, hs]
theorem TyOk.zero (h : TyOk P T tid ty) (w : World) : ∃ z, (zeroValue tid).run P w = .ok z w ∧ z.cells.toList = ty.zc := by
  obtain ⟨i, z, hi, hs, hz, hc, _⟩ := h.info
  exact ⟨z, by simp [zeroValue, typeInfo, hi, hz], hc⟩
def Ty.isAgg : Ty → Bool
  | .st _ | .arr _ _ => true
  | _ => false
theorem TyOk.isAgg (h : TyOk P T tid ty) (w : World) : (isAgg tid).run P w = .ok ty.isAgg w := by
  have hu := h.und
  unfold Go.isAgg
  rw [Sem.run_bind]
  cases ty with
  | int k => rw [run_underlying hu w]; rfl
  | bool => rw [run_underlying hu w]; rfl
  | str => rw [run_underlying hu w]; rfl
  | sl e t => rw [run_underlying hu.1 w]; rfl
  | mp k v => obtain ⟨kt, vt, hu, _⟩ := hu; rw [run_underlying hu w]; rfl
  | arr n t => obtain ⟨e, hu, _⟩ := hu; rw [run_underlying hu w]; rfl
  | st c => obtain ⟨fs, hu, _⟩ := hu; rw [run_underlying hu w]; rfl
  | pt e => rw [run_underlying hu w]; rfl
  | any it st => obtain ⟨⟨ms, hu⟩, _⟩ := hu; rw [run_underlying hu w]; rfl
  | iter => exact hu.elim
  | pair a b => exact hu.elim
  | tup c => exact hu.elim
  | unit => exact hu.elim
theorem add_zero' (ad : Addr) : ad.add 0 = ad := by simp [Addr.add]
theorem relV1_of_cells {w : World} {S : Nat → Prop} {x : ty.den} {cs : List Value} (hg : ty.good = true) (ha : ty.isAgg = true) (hr : RelC w S ty x cs) : RelV1 w S ty x (.agg cs.toArray) := by
  cases ty with
  | st c => exact ⟨cs.toArray, rfl, by simpa using hr⟩
  | arr n t => exact ⟨cs.toArray, rfl, by simpa using hr⟩
  | _ => simp [Ty.isAgg] at ha
theorem load_ok (h : TyOk P T tid ty) {w : World} {S : Nat → Prop} {x : ty.den} {cs : List Value} {ad : Addr} (hr : RelC w S ty x cs) (hc : CellsAt w ad cs) (hnp : ty.isPair = false) :
    ∃ v, (loadVar tid ad).run P w = .ok v w ∧ RelV1 w S ty x v := by
  cases ha : ty.isAgg with
  | true =>
    have hl : (loadCells ad cs.length).run P w = .ok cs.toArray w := run_loadCells_list (P := P) w ad cs hc
    refine ⟨.agg cs.toArray, ?_, relV1_of_cells h.good ha hr⟩
    simp [loadVar, Sem.run_bind, h.isAgg w, ha, h.sizeOf w, ← hr.len, hl]
  | false =>
    have one : ∀ v, cs = [v] → (loadVar tid ad).run P w = .ok v w := fun v hv => by
      have := hc 0 v (by rw [hv]; rfl)
      rw [add_zero'] at this
      simp [loadVar, Sem.run_bind, h.isAgg w, ha, this]
    cases ty with
    | int k => exact ⟨.int k x, one _ hr, rfl⟩
    | bool => exact ⟨.bool x, one _ hr, rfl⟩
    | str => exact ⟨.string x, one _ hr, rfl⟩
    | any it st => exact ⟨anyV it st x, one _ hr, rfl⟩
    | pt e => exact ⟨.pointer none, one _ hr, rfl⟩
    | iter => exact (show False from hr).elim
    | sl e t => obtain ⟨A, c, e1, hh⟩ := hr; exact ⟨_, one _ e1, A, c, rfl, hh⟩
    | mp k v =>
      rcases hr with ⟨e, hl⟩ | ⟨g, es, cl, e, hh⟩
      · exact ⟨_, one _ e, .inl ⟨rfl, hl⟩⟩
      · exact ⟨_, one _ e, .inr ⟨g, es, cl, rfl, hh⟩⟩
    | arr n t => simp [Ty.isAgg] at ha
    | st c => simp [Ty.isAgg] at ha
    | pair a b => simp [Ty.isPair] at hnp
    | tup c => exact hr.elim
    | unit => exact hr.elim
end
theorem RelD.v1 {w : World} {S : Nat → Prop} {t : Ty} {x : t.den} {v : Value} (hg : t.good = true) (h : RelD w S t x v) : RelV1 w S t x v := by
  cases t with
  | tup c => simp [Ty.good] at hg
  | unit => simp [Ty.good] at hg
  | _ => exact h
theorem RelD.of_v1 {w : World} {S : Nat → Prop} {t : Ty} {x : t.den} {v : Value} (h : RelV1 w S t x v) : RelD w S t x v := by
  cases t with
  | tup c => exact h.elim
  | unit => exact h.elim
  | _ => exact h

theorem below_ok {E : Env} {c : Cx} (hr : Rel E c) {w' : World} (hb : Below c.w.heap.size c.w w') {S' : Nat → Prop} (h1 : ∀ b, c.S b → S' b) (h2 : ∀ b, S' b → Ext' c.S c.w w' b) :
    Rel E { c with S := S', w := w' } ∧ Ext c { c with S := S', w := w' } := by
  have hsame : SameOn c.S c.w w' := fun b hb' => hb.block b (hr.lt b hb')
  have hno : ∀ b, b < c.w.heap.size → ¬ c.S b → ¬ S' b := fun b hlt hn hs => by
    rcases h2 b hs with h | h
    · exact hn h
    · omega
  refine ⟨⟨hb.os.trans hr.os, hb.tape.trans hr.tape, hb.output.trans hr.output, Nat.le_trans hr.size hb.size, ?_, fun b hb' => h1 b (hr.old b hb'), ?_, ?_, ?_, ?_, ?_, hr.bb, hr.aa, hr.ba,
      hr.ms.step (fun a M hM => ⟨hM, rfl⟩) (fun g es cl hg hS => by
        have hlt := (Array.getElem?_eq_some_iff.1 hg).1
        exact ⟨hb.block g hlt, hno g hlt hS⟩)⟩,
    ⟨h1, hsame, fun b B hB => ⟨B, hB, rfl, rfl⟩, fun a ha => ⟨ha, fun A hA => ⟨⟨A, hA⟩, rfl⟩⟩, fun a M hM _ => ⟨⟨M, hM⟩, rfl⟩⟩⟩
  · intro b hlt hn
    exact (hb.block b (Nat.lt_of_lt_of_le hlt hr.size)).trans (hr.keep b hlt hn)
  · intro b hs
    rcases h2 b hs with h | h
    · exact Nat.lt_of_lt_of_le (hr.lt b h) hb.size
    · exact h.2
  · intro b hs
    rcases h2 b hs with h | h
    · exact hr.new b h
    · exact .inr (Nat.le_trans hr.size h.1)
  · intro b B hB
    exact BoxRel.mv (c := c) (c' := { c with S := S', w := w' }) h1 hsame (ArrOn.same rfl rfl) (hb.block _ (hr.boxLt hB)) (hr.box b B hB)
  · intro b hbx
    refine ⟨(hr.priv b hbx).1, ?_⟩
    cases hB : c.m.box b with
    | none => exact absurd hB hbx
    | some B => exact hno _ (hr.boxLt hB) (hr.priv b hbx).2
  · intro a A hA
    refine (hr.arr a A hA).move hsame h1 (fun ho g hg => ?_)
    have := hr.arr a A hA
    unfold RelA at this
    rw [if_pos ho] at this
    obtain ⟨inner, h3, _, h5⟩ := this
    exact ⟨hb.block g (h3.lt g hg).2, hno g (h3.lt g hg).2 (h5 g hg)⟩

theorem addBox_ok {E : Env} {c : Cx} (hr : Rel E c) {d : Nat} (hd : c.m.box d = none) {t : Ty} {x : t.den} {lk : List (Nat × LK)} {g : Nat}
    (hg : g < c.w.heap.size) (hx : BoxRel c ⟨t, x, lk⟩ c.w.heap[g]?) (h0 : E.w0.heap.size ≤ g ∨ E.W0 g) (hS : ¬ c.S g)
    (hbn : ∀ b, c.m.box b ≠ none → c.bx b ≠ g) (han : ∀ a A, c.m.arr a = .at_ A → A.open_ = true → (c.ar a).ownBlock ≠ some g) :
    Rel E { c with bx := upd c.bx d g, m := c.m.setB d ⟨t, x, lk⟩ } ∧ Ext c { c with bx := upd c.bx d g, m := c.m.setB d ⟨t, x, lk⟩ } := by
  have hold : ∀ b, c.m.box b ≠ none → Nat.beq b d = false := fun b hb => by
    cases he : Nat.beq b d with
    | false => rfl
    | true => exact absurd (by rw [Nat.eq_of_beq_eq_true he]; exact hd) hb
  refine ⟨⟨hr.os, hr.tape, hr.output, hr.size, hr.keep, hr.old, hr.lt, hr.new, ?_, ?_, hr.arr, ?_, hr.aa, ?_, hr.ms.step (fun a M hM => ⟨hM, rfl⟩) (fun _ _ _ _ h => ⟨rfl, h⟩)⟩, ⟨fun _ h => h, fun _ _ => rfl, ?_, fun a ha => ⟨ha, fun A hA => ⟨⟨A, hA⟩, rfl⟩⟩, fun a M hM _ => ⟨⟨M, hM⟩, rfl⟩⟩⟩
  · intro b B hB
    simp only [Mem.setB, upd] at hB ⊢
    cases he : Nat.beq b d with
    | true =>
      rw [he] at hB
      injection hB with hB
      subst hB
      exact hx
    | false =>
      rw [he] at hB
      exact hr.box b B hB
  · intro b hb
    simp only [Mem.setB, upd] at hb ⊢
    cases he : Nat.beq b d with
    | true => exact ⟨h0, hS⟩
    | false => rw [he] at hb; exact hr.priv b hb
  · intro b b' hb hb' e
    simp only [Mem.setB, upd] at hb hb' e
    cases he : Nat.beq b d with
    | true =>
      cases he' : Nat.beq b' d with
      | true => rw [Nat.eq_of_beq_eq_true he, Nat.eq_of_beq_eq_true he']
      | false =>
        rw [he, he'] at e
        rw [he'] at hb'
        exact absurd e.symm (hbn b' hb')
    | false =>
      cases he' : Nat.beq b' d with
      | true =>
        rw [he, he'] at e
        rw [he] at hb
        exact absurd e (hbn b hb)
      | false =>
        rw [he, he'] at e
        rw [he] at hb
        rw [he'] at hb'
        exact hr.bb b b' hb hb' e
  · intro b a A hb ha ho
    simp only [Mem.setB, upd] at hb ⊢
    cases he : Nat.beq b d with
    | true => exact han a A ha ho
    | false => rw [he] at hb; exact hr.ba b a A hb ha ho
  · intro b B hB
    have hbd := hold b (by rw [hB]; simp)
    exact ⟨B, by simp [Mem.setB, upd, hbd, hB], rfl, by simp [upd, hbd]⟩

def Loose (E : Env) (c : Cx) (e : TypeId) (t : Ty) (xs : List t.den) (v : Value) : Prop :=
  (∃ inner, c.w.ownsRow E.w0.heap.size e t.size v xs.length inner ∧ RelL (RelC c.w c.S t) xs inner) ∧ ∀ g, v.ownBlock = some g → ¬ c.S g ∧ (∀ b, c.m.box b ≠ none → c.bx b ≠ g) ∧
    ∀ a A, c.m.arr a = .at_ A → A.open_ = true → (c.ar a).ownBlock ≠ some g
theorem addArr_ok {E : Env} {c : Cx} (hr : Rel E c) {d : Nat} (hd : c.m.arr d = .no) {e : TypeId} {t : Ty} {xs : List t.den} {v : Value} (hl : Loose E c e t xs v) :
    Rel E { c with ar := upd c.ar d v, m := c.m.setA d (.at_ ⟨e, t, xs, true⟩) } ∧ Ext c { c with ar := upd c.ar d v, m := c.m.setA d (.at_ ⟨e, t, xs, true⟩) } := by
  obtain ⟨⟨inner, h1, h2⟩, h3⟩ := hl
  have hold : ∀ a, c.m.arr a ≠ .no → Nat.beq a d = false := fun a ha => by
    cases he : Nat.beq a d with
    | false => rfl
    | true => exact absurd (by rw [Nat.eq_of_beq_eq_true he]; exact hd) ha
  refine ⟨⟨hr.os, hr.tape, hr.output, hr.size, hr.keep, hr.old, hr.lt, hr.new, (fun b B hB => ?_), hr.priv, ?_, hr.bb, ?_, ?_, hr.ms.step (fun x M hM => ?_) (fun _ _ _ _ h => ⟨rfl, h⟩)⟩, ⟨fun _ h => h, fun _ _ => rfl, fun b B hB => ⟨B, hB, rfl, rfl⟩, ?_, fun x M hM _ => ?_⟩⟩
  · refine BoxRel.mv (c := c) (c' := { c with ar := upd c.ar d v, m := c.m.setA d (.at_ ⟨e, t, xs, true⟩) }) (fun _ h => h) (fun _ _ => rfl) (fun a ha => ?_) rfl (hr.box b B hB)
    simp only [Mem.setA, upd]
    rw [hold a ha]
    exact ⟨ha, fun A hA => ⟨⟨A, hA⟩, rfl⟩, fun A hA => ⟨⟨A, hA⟩, rfl⟩⟩
  · intro a A hA
    simp only [Mem.setA, upd] at hA ⊢
    cases he : Nat.beq a d with
    | true =>
      rw [he] at hA
      injection hA with hA
      subst hA
      show RelA E c.w c.S _ _
      unfold RelA
      rw [if_pos rfl]
      exact ⟨inner, h1, h2, fun g hg => (h3 g hg).1⟩
    | false => rw [he] at hA; exact hr.arr a A hA
  · intro a a' A A' g hA hA' ho ho' hg hg'
    simp only [Mem.setA, upd] at hA hA' hg hg'
    cases he : Nat.beq a d with
    | true =>
      cases he' : Nat.beq a' d with
      | true => rw [Nat.eq_of_beq_eq_true he, Nat.eq_of_beq_eq_true he']
      | false =>
        rw [he] at hg
        rw [he'] at hg' hA'
        exact absurd hg' ((h3 g hg).2.2 a' A' hA' ho')
    | false =>
      cases he' : Nat.beq a' d with
      | true =>
        rw [he] at hg hA
        rw [he'] at hg'
        exact absurd hg ((h3 g hg').2.2 a A hA ho)
      | false =>
        rw [he] at hg hA
        rw [he'] at hg' hA'
        exact hr.aa a a' A A' g hA hA' ho ho' hg hg'
  · intro b a A hb hA ho
    simp only [Mem.setA, upd] at hA ⊢
    cases he : Nat.beq a d with
    | true => exact fun hg => (h3 _ hg).2.1 b hb rfl
    | false => rw [he] at hA; exact hr.ba b a A hb hA ho
  · simp only [Mem.setA, upd] at hM ⊢
    cases he : Nat.beq x d with
    | true => rw [he] at hM; cases hM
    | false => rw [he] at hM; exact ⟨hM, rfl⟩
  · intro a ha
    have had := hold a ha
    simp only [Mem.setA, upd, had]
    exact ⟨ha, fun A hA => ⟨⟨A, hA⟩, rfl⟩⟩
  · simp only [Mem.setA, upd] at hM ⊢
    cases he : Nat.beq x d with
    | true => rw [he] at hM; cases hM
    | false => rw [he] at hM; exact ⟨⟨M, hM⟩, rfl⟩
theorem dead_ok {E : Env} {c : Cx} (hr : Rel E c) {a : Nat} {A : Arr} (ha : c.m.arr a = .at_ A) (ho : A.open_ = true) :
    Rel E { c with m := c.m.setA a .dead } ∧ Ext c { c with m := c.m.setA a .dead } ∧ Loose E { c with m := c.m.setA a .dead } A.e A.t A.xs (c.ar a) := by
  have hA := hr.arr a A ha
  unfold RelA at hA
  rw [if_pos ho] at hA
  obtain ⟨inner, h1, h2, h3⟩ := hA
  have hat : ∀ x X, (c.m.setA a .dead).arr x = .at_ X → Nat.beq x a = false ∧ c.m.arr x = .at_ X := fun x X hx => by
    simp only [Mem.setA, upd] at hx
    cases he : Nat.beq x a with
    | true => rw [he] at hx; simp at hx
    | false => rw [he] at hx; exact ⟨rfl, hx⟩
  have hmp : ∀ x M, (c.m.setA a .dead).arr x = .mp M → c.m.arr x = .mp M := fun x M hx => by
    simp only [Mem.setA, upd] at hx
    cases he : Nat.beq x a with
    | true => rw [he] at hx; cases hx
    | false => rw [he] at hx; exact hx
  have hon : ArrOn c { c with m := c.m.setA a .dead } := fun x hx => by
    simp only [Mem.setA, upd]
    cases he : Nat.beq x a with
    | true => simp
    | false => exact ⟨hx, fun X hX => ⟨⟨X, hX⟩, trivial⟩, fun X hX => ⟨⟨X, hX⟩, trivial⟩⟩
  refine ⟨⟨hr.os, hr.tape, hr.output, hr.size, hr.keep, hr.old, hr.lt, hr.new, (fun b B hB => BoxRel.mv (c := c) (c' := { c with m := c.m.setA a .dead }) (fun _ h => h) (fun _ _ => rfl) hon rfl (hr.box b B hB)), hr.priv, fun x X hx => hr.arr x X (hat x X hx).2, hr.bb,
    fun x y X Y g hx hy => hr.aa x y X Y g (hat x X hx).2 (hat y Y hy).2, fun b x X hb hx => hr.ba b x X hb (hat x X hx).2,
    hr.ms.step (fun x M hM => ⟨hmp x M hM, rfl⟩) (fun _ _ _ _ h => ⟨rfl, h⟩)⟩,
    ⟨fun _ h => h, fun _ _ => rfl, fun b B hB => ⟨B, hB, rfl, rfl⟩, ?_, fun x M hM _ => ⟨⟨M, hmp x M hM⟩, rfl⟩⟩, ⟨inner, h1, h2⟩, fun g hg => ⟨h3 g hg, fun b hb e => hr.ba b a A hb ha ho (by rw [hg, e]), fun x X hx hxo hgx => ?_⟩⟩
  · intro x hx
    simp only [Mem.setA, upd]
    cases he : Nat.beq x a with
    | true => simp
    | false => exact ⟨hx, fun X hX => ⟨⟨X, hX⟩, trivial⟩⟩
  · obtain ⟨hne, hx⟩ := hat x X hx
    have := hr.aa x a X A g hx ha hxo ho hgx hg
    subst this
    simp at hne

theorem setElems_ok {E : Env} {c : Cx} (hr : Rel E c) {a : Nat} {A : Arr} (ha : c.m.arr a = .at_ A) (ho : A.open_ = true) {g : Nat} (hg : (c.ar a).ownBlock = some g) {xs : List A.t.den} {w' : World}
    (hos : c.w.os = w'.os) (htape : c.w.tape = w'.tape) (hout : c.w.output = w'.output) (hsz : w'.heap.size = c.w.heap.size)
    (hoth : ∀ b, b ≠ g → w'.heap[b]? = c.w.heap[b]?) (hge : E.w0.heap.size ≤ g) (hnm : ∀ es cl, c.w.heap[g]? ≠ some (.map es cl)) (hx : RelA E w' c.S { A with xs := xs } (c.ar a)) :
    Rel E { c with m := c.m.setA a (.at_ { A with xs := xs }), w := w' } ∧ Ext c { c with m := c.m.setA a (.at_ { A with xs := xs }), w := w' } := by
  have hnS : ¬ c.S g := by
    have := hr.arr a A ha
    unfold RelA at this
    rw [if_pos ho] at this
    obtain ⟨_, _, _, h5⟩ := this
    exact h5 g hg
  have hsame : SameOn c.S c.w w' := fun b hb => hoth b (fun e => hnS (e ▸ hb))
  have hat : ∀ y Y, (c.m.setA a (.at_ { A with xs := xs })).arr y = .at_ Y → (y = a ∧ Y = { A with xs := xs }) ∨ (y ≠ a ∧ c.m.arr y = .at_ Y) := fun y Y hy => by
    simp only [Mem.setA, upd] at hy
    cases he : Nat.beq y a with
    | true => rw [he] at hy; injection hy with hy; exact .inl ⟨Nat.eq_of_beq_eq_true he, hy.symm⟩
    | false => rw [he] at hy; exact .inr ⟨fun e => by subst e; simp at he, hy⟩
  have hold : ∀ y Y, (c.m.setA a (.at_ { A with xs := xs })).arr y = .at_ Y → ∃ Z, c.m.arr y = .at_ Z ∧ Z.open_ = Y.open_ := fun y Y hy => by
    rcases hat y Y hy with ⟨rfl, rfl⟩ | ⟨_, h⟩
    · exact ⟨A, ha, rfl⟩
    · exact ⟨Y, h, rfl⟩
  have hmp : ∀ x M, (c.m.setA a (.at_ { A with xs := xs })).arr x = .mp M → c.m.arr x = .mp M := fun x M hx => by
    simp only [Mem.setA, upd] at hx
    cases he : Nat.beq x a with
    | true => rw [he] at hx; cases hx
    | false => rw [he] at hx; exact hx
  have hon : ArrOn c { c with m := c.m.setA a (.at_ { A with xs := xs }), w := w' } := fun x hx => by
    simp only [Mem.setA, upd]
    cases he : Nat.beq x a with
    | true => exact ⟨by simp, fun X hX => ⟨⟨A, by rw [Nat.eq_of_beq_eq_true he]; exact ha⟩, trivial⟩, fun X hX => by simp at hX⟩
    | false => exact ⟨hx, fun X hX => ⟨⟨X, hX⟩, trivial⟩, fun X hX => ⟨⟨X, hX⟩, trivial⟩⟩
  refine ⟨⟨hos.symm.trans hr.os, htape.symm.trans hr.tape, hout.symm.trans hr.output, by rw [hsz]; exact hr.size, ?_, hr.old, fun b hb => by rw [hsz]; exact hr.lt b hb, hr.new, ?_, hr.priv, ?_,
    hr.bb, ?_, ?_, hr.ms.step (fun x M hM => ⟨hmp x M hM, rfl⟩) (fun b es cl hb hS => ⟨hoth b (fun e => hnm es cl (e ▸ hb)), hS⟩)⟩, ⟨fun _ h => h, hsame, fun b B hB => ⟨B, hB, rfl, rfl⟩, ?_, fun x M hM _ => ⟨⟨M, hmp x M hM⟩, rfl⟩⟩⟩
  · intro b hlt hn
    rw [hoth b (by omega)]
    exact hr.keep b hlt hn
  · intro b B hB
    exact BoxRel.mv (c := c) (c' := { c with m := c.m.setA a (.at_ { A with xs := xs }), w := w' }) (fun _ h => h) hsame hon (hoth _ (fun e => hr.ba b a A (by rw [show c.m.box b = some B from hB]; simp) ha ho (by rw [hg, e]))) (hr.box b B hB)
  · intro y Y hY
    rcases hat y Y hY with ⟨rfl, rfl⟩ | ⟨hne, hY⟩
    · exact hx
    · refine (hr.arr y Y hY).move hsame (fun _ h => h) (fun hyo b hb => ⟨hoth b (fun e => hne (hr.aa y a Y A g hY ha hyo ho (by rw [hb, e]) hg)), ?_⟩)
      have := hr.arr y Y hY
      unfold RelA at this
      rw [if_pos hyo] at this
      obtain ⟨_, _, _, h5⟩ := this
      exact h5 b hb
  · intro x y X Y b hX hY hxo hyo hxb hyb
    obtain ⟨X', hX', ex⟩ := hold x X hX
    obtain ⟨Y', hY', ey⟩ := hold y Y hY
    exact hr.aa x y X' Y' b hX' hY' (ex.trans hxo) (ey.trans hyo) hxb hyb
  · intro b x X hb hX hxo
    obtain ⟨X', hX', ex⟩ := hold x X hX
    exact hr.ba b x X' hb hX' (ex.trans hxo)
  · intro x hx
    simp only [Mem.setA, upd]
    cases he : Nat.beq x a with
    | true => exact ⟨by simp, fun X hX => ⟨⟨A, by rw [Nat.eq_of_beq_eq_true he]; exact ha⟩, trivial⟩⟩
    | false => exact ⟨hx, fun X hX => ⟨⟨X, hX⟩, trivial⟩⟩

theorem setBox_ok {E : Env} {c : Cx} (hr : Rel E c) {b : Nat} {B : Box} (hB : c.m.box b = some B) {x : B.t.den} {lk : List (Nat × LK)} {w' : World}
    (hos : c.w.os = w'.os) (htape : c.w.tape = w'.tape) (hout : c.w.output = w'.output) (hsz : w'.heap.size = c.w.heap.size)
    (hoth : ∀ g, g ≠ c.bx b → w'.heap[g]? = c.w.heap[g]?) (hx : BoxRel c ⟨B.t, x, lk⟩ w'.heap[c.bx b]?) :
    Rel E { c with m := c.m.setB b ⟨B.t, x, lk⟩, w := w' } ∧ Ext c { c with m := c.m.setB b ⟨B.t, x, lk⟩, w := w' } := by
  have hbn : c.m.box b ≠ none := by rw [hB]; simp
  have hnS : ¬ c.S (c.bx b) := (hr.priv b hbn).2
  have hsame : SameOn c.S c.w w' := fun g hg => hoth g (fun e => hnS (e ▸ hg))
  have hat : ∀ y Y, (c.m.setB b ⟨B.t, x, lk⟩).box y = some Y → (Nat.beq y b = true ∧ y = b ∧ Y = ⟨B.t, x, lk⟩) ∨ (y ≠ b ∧ c.m.box y = some Y) := fun y Y hy => by
    simp only [Mem.setB, upd] at hy
    cases he : Nat.beq y b with
    | true => rw [he] at hy; injection hy with hy; exact .inl ⟨rfl, Nat.eq_of_beq_eq_true he, hy.symm⟩
    | false => rw [he] at hy; exact .inr ⟨fun e => by subst e; simp at he, hy⟩
  have hne : ∀ y, (c.m.setB b ⟨B.t, x, lk⟩).box y ≠ none → c.m.box y ≠ none := fun y hy => by
    cases hY : (c.m.setB b ⟨B.t, x, lk⟩).box y with
    | none => exact absurd hY hy
    | some Y =>
      rcases hat y Y hY with ⟨_, rfl, _⟩ | ⟨_, h⟩
      · exact hbn
      · rw [h]; simp
  refine ⟨⟨hos.symm.trans hr.os, htape.symm.trans hr.tape, hout.symm.trans hr.output, by rw [hsz]; exact hr.size, ?_, hr.old, fun g hg => by rw [hsz]; exact hr.lt g hg, hr.new, ?_, fun y hy => hr.priv y (hne y hy), ?_,
    fun y y' hy hy' => hr.bb y y' (hne y hy) (hne y' hy'), hr.aa, fun y a A hy => hr.ba y a A (hne y hy),
    hr.ms.step (fun a M hM => ⟨hM, rfl⟩) (fun g es cl hg hS => ⟨hoth g (fun e => by
      exact (hr.box b B hB).notMap (by rw [← e]; exact hg)), hS⟩)⟩, ⟨fun _ h => h, hsame, ?_, fun a ha => ⟨ha, fun A hA => ⟨⟨A, hA⟩, rfl⟩⟩, fun a M hM _ => ⟨⟨M, hM⟩, rfl⟩⟩⟩
  · intro g hlt hn
    rw [hoth g (fun e => ?_)]
    · exact hr.keep g hlt hn
    · rcases (hr.priv b hbn).1 with h | h
      · omega
      · exact hn (e ▸ h)
  · intro y Y hY
    rcases hat y Y hY with ⟨_, rfl, rfl⟩ | ⟨hy, h⟩
    · exact BoxRel.mv (c := c) (c' := { c with w := w' }) (fun _ h => h) hsame (ArrOn.same rfl rfl) rfl hx
    · refine BoxRel.mv (c := c) (c' := { c with w := w' }) (fun _ h => h) hsame (ArrOn.same rfl rfl) (hoth _ (fun e => hy ?_)) (hr.box y Y h)
      exact hr.bb y b (by rw [h]; simp) hbn e
  · intro a A hA
    refine (hr.arr a A hA).move hsame (fun _ h => h) (fun ho g hg => ⟨hoth g (fun e => hr.ba b a A hbn hA ho (by rw [hg, e])), ?_⟩)
    have := hr.arr a A hA
    unfold RelA at this
    rw [if_pos ho] at this
    obtain ⟨_, _, _, h5⟩ := this
    exact h5 g hg
  · intro y Y hY
    cases he : Nat.beq y b with
    | true =>
      have := Nat.eq_of_beq_eq_true he
      subst this
      rw [hB] at hY
      injection hY with hY
      subst hY
      exact ⟨⟨B.t, x, lk⟩, by simp [Mem.setB, upd], rfl, rfl⟩
    | false => exact ⟨Y, by simp [Mem.setB, upd, he, hY], rfl, rfl⟩
end Go.Vm
end
section
namespace Go.Vm
open Go.RowKit
set_option linter.unusedVariables false
set_option linter.unusedSimpArgs false

theorem Flds.at_ {T : Tab} : ∀ {fs : List Field} {off : Nat} {c : Ty} {i : Nat} {t : Ty}, Flds T fs off c → chainTy c i = some t →
    ∃ f, fs[i]? = some f ∧ T f.type = some t ∧ f.offset = off + chainOff c i ∧ 0 < t.size
  | [], _, c, i, t, h, _ => by cases c <;> exact h.elim
  | f :: fs, off, .pair a b, 0, t, ⟨h1, h2, h3, h4, h5⟩, h => by
    injection h with h; subst h
    exact ⟨f, rfl, h1, by rw [h3]; rfl, h2⟩
  | f :: fs, off, .pair a b, i + 1, t, ⟨h1, h2, h3, h4, h5⟩, h => by
    obtain ⟨g, e, r1, r2, r3⟩ := Flds.at_ (i := i) h5 h
    exact ⟨g, by simpa using e, r1, by rw [r2, chainOff, Nat.add_assoc], r3⟩
  | [f], off, .int _, 0, t, ⟨h1, h2, h3, h4⟩, h => by injection h with h; subst h; exact ⟨f, rfl, h1, h3, h2⟩
  | [f], off, .bool, 0, t, ⟨h1, h2, h3, h4⟩, h => by injection h with h; subst h; exact ⟨f, rfl, h1, h3, h2⟩
  | [f], off, .str, 0, t, ⟨h1, h2, h3, h4⟩, h => by injection h with h; subst h; exact ⟨f, rfl, h1, h3, h2⟩
  | [f], off, .any _ _, 0, t, ⟨h1, h2, h3, h4⟩, h => by injection h with h; subst h; exact ⟨f, rfl, h1, h3, h2⟩
  | [f], off, .pt _, 0, t, ⟨h1, h2, h3, h4⟩, h => by injection h with h; subst h; exact ⟨f, rfl, h1, h3, h2⟩
  | [f], off, .iter, 0, t, ⟨h1, h2, h3, h4⟩, h => by injection h with h; subst h; exact ⟨f, rfl, h1, h3, h2⟩
  | [f], off, .sl _ _, 0, t, ⟨h1, h2, h3, h4⟩, h => by injection h with h; subst h; exact ⟨f, rfl, h1, h3, h2⟩
  | [f], off, .arr _ _, 0, t, ⟨h1, h2, h3, h4⟩, h => by injection h with h; subst h; exact ⟨f, rfl, h1, h3, h2⟩
  | [f], off, .mp _ _, 0, t, ⟨h1, h2, h3, h4⟩, h => by injection h with h; subst h; exact ⟨f, rfl, h1, h3, h2⟩
  | [f], off, .st _, 0, t, ⟨h1, h2, h3, h4⟩, h => by injection h with h; subst h; exact ⟨f, rfl, h1, h3, h2⟩
  | [f], off, .tup _, 0, t, ⟨h1, h2, h3, h4⟩, h => by injection h with h; subst h; exact ⟨f, rfl, h1, h3, h2⟩
  | [f], off, .unit, 0, t, ⟨h1, h2, h3, h4⟩, h => by injection h with h; subst h; exact ⟨f, rfl, h1, h3, h2⟩
  | _ :: _ :: _, _, .int _, _, _, h, _ => h.elim
  | _ :: _ :: _, _, .bool, _, _, h, _ => h.elim
  | _ :: _ :: _, _, .str, _, _, h, _ => h.elim
  | _ :: _ :: _, _, .any _ _, _, _, h, _ => h.elim
  | _ :: _ :: _, _, .pt _, _, _, h, _ => h.elim
  | _ :: _ :: _, _, .iter, _, _, h, _ => h.elim
  | _ :: _ :: _, _, .sl _ _, _, _, h, _ => h.elim
  | _ :: _ :: _, _, .arr _ _, _, _, h, _ => h.elim
  | _ :: _ :: _, _, .mp _ _, _, _, h, _ => h.elim
  | _ :: _ :: _, _, .st _, _, _, h, _ => h.elim
  | _ :: _ :: _, _, .tup _, _, _, h, _ => h.elim
  | _ :: _ :: _, _, .unit, _, _, h, _ => h.elim
  | [_], _, .int _, _ + 1, _, _, h => by cases h
  | [_], _, .bool, _ + 1, _, _, h => by cases h
  | [_], _, .str, _ + 1, _, _, h => by cases h
  | [_], _, .any _ _, _ + 1, _, _, h => by cases h
  | [_], _, .pt _, _ + 1, _, _, h => by cases h
  | [_], _, .iter, _ + 1, _, _, h => by cases h
  | [_], _, .sl _ _, _ + 1, _, _, h => by cases h
  | [_], _, .arr _ _, _ + 1, _, _, h => by cases h
  | [_], _, .mp _ _, _ + 1, _, _, h => by cases h
  | [_], _, .st _, _ + 1, _, _, h => by cases h
  | [_], _, .tup _, _ + 1, _, _, h => by cases h
  | [_], _, .unit, _ + 1, _, _, h => by cases h
theorem Flds.last {T : Tab} {fs : List Field} {off : Nat} {c : Ty} (hp : c.isPair = false) (h : Flds T fs off c) : ∃ f, fs = [f] ∧ T f.type = some c ∧ f.offset = off ∧ f.name ≠ "_" := by
  cases fs with
  | nil => cases c <;> exact h.elim
  | cons f fs =>
    cases fs with
    | nil => cases c <;> first | (simp [Ty.isPair] at hp; done) | exact ⟨f, rfl, h.1, h.2.2.1, h.2.2.2⟩
    | cons g fs => cases c <;> first | (simp [Ty.isPair] at hp; done) | exact h.elim
theorem Flds.mem {T : Tab} : ∀ {fs : List Field} {off : Nat} {c : Ty}, Flds T fs off c → ∀ f ∈ fs, ∃ t, T f.type = some t
  | [], _, _, _, f, hf => by cases hf
  | g :: fs, off, .pair a b, ⟨h1, h2, h3, h4, h5⟩, f, hf => by
    rcases List.mem_cons.1 hf with rfl | hf
    · exact ⟨a, h1⟩
    · exact Flds.mem h5 f hf
  | [g], off, .int _, h, f, hf => ⟨_, (List.mem_singleton.1 hf) ▸ h.1⟩
  | [g], off, .bool, h, f, hf => ⟨_, (List.mem_singleton.1 hf) ▸ h.1⟩
  | [g], off, .str, h, f, hf => ⟨_, (List.mem_singleton.1 hf) ▸ h.1⟩
  | [g], off, .any _ _, h, f, hf => ⟨_, (List.mem_singleton.1 hf) ▸ h.1⟩
  | [g], off, .pt _, h, f, hf => ⟨_, (List.mem_singleton.1 hf) ▸ h.1⟩
  | [g], off, .iter, h, f, hf => ⟨_, (List.mem_singleton.1 hf) ▸ h.1⟩
  | [g], off, .sl _ _, h, f, hf => ⟨_, (List.mem_singleton.1 hf) ▸ h.1⟩
  | [g], off, .arr _ _, h, f, hf => ⟨_, (List.mem_singleton.1 hf) ▸ h.1⟩
  | [g], off, .mp _ _, h, f, hf => ⟨_, (List.mem_singleton.1 hf) ▸ h.1⟩
  | [g], off, .st _, h, f, hf => ⟨_, (List.mem_singleton.1 hf) ▸ h.1⟩
  | [g], off, .tup _, h, f, hf => ⟨_, (List.mem_singleton.1 hf) ▸ h.1⟩
  | [g], off, .unit, h, f, hf => ⟨_, (List.mem_singleton.1 hf) ▸ h.1⟩
  | _ :: _ :: _, _, .int _, h, _, _ => h.elim
  | _ :: _ :: _, _, .bool, h, _, _ => h.elim
  | _ :: _ :: _, _, .str, h, _, _ => h.elim
  | _ :: _ :: _, _, .any _ _, h, _, _ => h.elim
  | _ :: _ :: _, _, .pt _, h, _, _ => h.elim
  | _ :: _ :: _, _, .iter, h, _, _ => h.elim
  | _ :: _ :: _, _, .sl _ _, h, _, _ => h.elim
  | _ :: _ :: _, _, .arr _ _, h, _, _ => h.elim
  | _ :: _ :: _, _, .mp _ _, h, _, _ => h.elim
  | _ :: _ :: _, _, .st _, h, _, _ => h.elim
  | _ :: _ :: _, _, .tup _, h, _, _ => h.elim
  | _ :: _ :: _, _, .unit, h, _, _ => h.elim

section
variable {P : Program} {T : Tab}
theorem TyOk.np {tid : TypeId} {ty : Ty} (h : TyOk P T tid ty) : ty.isPair = false := by
  have hu := h.und
  cases ty <;> first | rfl | exact hu.elim
theorem part_ok {tid : TypeId} {ty : Ty} (h : TyOk P T tid ty) {w : World} {S : Nat → Prop} {x : ty.den} {cs : Array Value} {a m b : List Value} {off : Nat}
    (hc : cs.toList = a ++ m ++ b) (ha : a.length = off) (hr : RelC w S ty x m) (w' : World) : ∃ v, (part tid cs off).run P w' = .ok v w' ∧ RelV1 w S ty x v := by
  cases hag : ty.isAgg with
  | true =>
    refine ⟨.agg m.toArray, ?_, relV1_of_cells h.good hag hr⟩
    have hm : cs.extract off (off + ty.size) = m.toArray := by
      apply Array.ext'
      rw [Array.toList_extract, hc, List.extract_eq_take_drop, ← hr.len, ← ha]
      simp [List.append_assoc]
    simp [part, Sem.run_bind, h.isAgg w', hag, h.sizeOf w', hm]
  | false =>
    have one : ∀ v, m = [v] → (part tid cs off).run P w' = .ok v w' := fun v hv => by
      have hg : cs[off]? = some v := by
        rw [← Array.getElem?_toList, hc, hv, ← ha]
        simp
      simp [part, Sem.run_bind, h.isAgg w', hag, hg]
    have hnp := h.np
    cases ty with
    | int k => exact ⟨.int k x, one _ hr, rfl⟩
    | bool => exact ⟨.bool x, one _ hr, rfl⟩
    | str => exact ⟨.string x, one _ hr, rfl⟩
    | any it st => exact ⟨anyV it st x, one _ hr, rfl⟩
    | pt e => exact ⟨.pointer none, one _ hr, rfl⟩
    | iter => exact (show False from hr).elim
    | sl e t => obtain ⟨A, c, e1, hh⟩ := hr; exact ⟨_, one _ e1, A, c, rfl, hh⟩
    | mp k t =>
      rcases hr with ⟨e, hl⟩ | ⟨g, es, cl, e, hh⟩
      · exact ⟨_, one _ e, .inl ⟨rfl, hl⟩⟩
      · exact ⟨_, one _ e, .inr ⟨g, es, cl, rfl, hh⟩⟩
    | arr n t => simp [Ty.isAgg] at hag
    | st c => simp [Ty.isAgg] at hag
    | pair a b => simp [Ty.isPair] at hnp
    | tup c => exact hr.elim
    | unit => exact hr.elim

theorem str_eq (a b : ByteArray) : (a.toList == b.toList) = decide (a = b) := by
  rw [← beq_toListBytes, Bool.eq_iff_iff]
  obtain ⟨x⟩ := a
  obtain ⟨y⟩ := b
  show (x == y) = true ↔ _
  simp
def eqElems (d : Nat) (e : TypeId) (n : Nat) (xs ys : Array Value) : List Nat → Sem Bool
  | [] => pure true
  | i :: is => do
    let a ← part e xs (i * n)
    let b ← part e ys (i * n)
    let r ← Op.equalIn d e a b
    if (!r) = true then pure false else eqElems d e n xs ys is
theorem run_equalIn_array (w : World) (d n m : Nat) (t e : TypeId) (xs ys : Array Value) (ht : P.underlying t = some (.array n e)) (hs : (sizeOf e).run P w = .ok m w) :
    (Op.equalIn (d + 1) t (.agg xs) (.agg ys)).run P w = (eqElems d e m xs ys (List.range n)).run P w := by
  simp only [Op.equalIn, Sem.run_bind, run_underlying ht, Result.andThen_ok, run_program, hs, Std.Legacy.Range.forIn_eq_forIn_range']
  simp only [Std.Legacy.Range.size, Nat.sub_zero, Nat.add_sub_cancel, Nat.div_one, ← List.range_eq_range']
  generalize List.range n = l
  clear hs
  induction l generalizing w with
  | nil => simp [eqElems]
  | cons i is ih =>
    simp only [List.forIn_cons, eqElems, Sem.run_bind, Sem.run_ite]
    generalize (part e xs (i * m)).run P w = r1
    cases r1 with
    | ok a w1 =>
      simp only [Result.andThen_ok]
      generalize (part e ys (i * m)).run P w1 = r2
      cases r2 with
      | ok b w2 =>
        simp only [Result.andThen_ok]
        generalize (Op.equalIn d e a b).run P w2 = r3
        cases r3 with
        | ok r w3 =>
          cases r
          · simp only [Result.andThen_ok, Bool.not_false, if_true, Sem.run_pure]
          · simp only [Result.andThen_ok, Bool.not_true, Bool.false_eq_true, if_false, Sem.run_pure]
            exact ih w3
        | halt x w3 => simp [Result.andThen]
      | halt x w2 => simp [Result.andThen]
    | halt x w1 => simp [Result.andThen]

def EqOk (P : Program) (T : Tab) (ty : Ty) : Prop := ∀ (tid : TypeId) (d : Nat) (w0 : World) (S S' : Nat → Prop) (x y : ty.den) (u v : Value) (w : World),
  T tid = some ty → ty.dep < d → ty.flat = true → RelV1 w0 S ty x u → RelV1 w0 S' ty y v → (Op.equalIn d tid u v).run P w = .ok (ty.beq x y) w
theorem eq_fields (hT : TabOk P T) {d : Nat} : ∀ {c : Ty} {fs : List Field} {off : Nat}, (∀ i t, chainTy c i = some t → EqOk P T t) → Flds T fs off c → c.dep < d → c.flat = true →
    ∀ (w0 : World) (S S' : Nat → Prop) (x y : c.den) (xs ys : Array Value) (a b xm ym xb yb : List Value) (w : World), xs.toList = a ++ xm ++ xb → ys.toList = b ++ ym ++ yb → a.length = off → b.length = off →
    RelC w0 S c x xm → RelC w0 S' c y ym → (Op.eqFields d xs ys fs).run P w = .ok (c.beq x y) w := by
  have last : ∀ {c : Ty} {fs : List Field} {off : Nat}, c.isPair = false → EqOk P T c → Flds T fs off c → c.dep < d → c.flat = true →
      ∀ (w0 : World) (S S' : Nat → Prop) (x y : c.den) (xs ys : Array Value) (a b xm ym xb yb : List Value) (w : World), xs.toList = a ++ xm ++ xb → ys.toList = b ++ ym ++ yb → a.length = off → b.length = off →
      RelC w0 S c x xm → RelC w0 S' c y ym → (Op.eqFields d xs ys fs).run P w = .ok (c.beq x y) w := by
    intro c fs off hp he hf hd hfl w0 S S' x y xs ys a b xm ym xb yb w hx hy ha hb hrx hry
    obtain ⟨f, rfl, h1, h2, h3⟩ := hf.last hp
    obtain ⟨u, hu, hru⟩ := part_ok (hT _ _ h1) hx (ha.trans h2.symm) hrx w
    obtain ⟨v, hv, hrv⟩ := part_ok (hT _ _ h1) hy (hb.trans h2.symm) hry w
    have := he f.type d w0 S S' x y u v w h1 hd hfl hru hrv
    simp only [Op.eqFields, Sem.run_ite, if_pos h3, Sem.run_bind, hu, hv, this, Result.andThen_ok]
    cases c.beq x y <;> simp
  intro c
  induction c with
  | pair a b iha ihb =>
    intro fs off he hf hd hfl w0 S S' x y xs ys p q xm ym xb yb w hx hy ha hb hrx hry
    cases fs with
    | nil => exact hf.elim
    | cons f fs =>
      obtain ⟨h1, h2, h3, h4, h5⟩ := hf
      obtain ⟨x0, x1, ex, hx0, hx1⟩ := hrx
      obtain ⟨y0, y1, ey, hy0, hy1⟩ := hry
      simp only [Ty.dep] at hd
      simp only [Ty.flat, Bool.and_eq_true] at hfl
      obtain ⟨u, hu, hru⟩ := part_ok (hT _ _ h1) (cs := xs) (a := p) (m := x0) (b := x1 ++ xb) (by rw [hx, ex]; simp [List.append_assoc]) (ha.trans h3.symm) hx0 w
      obtain ⟨v, hv, hrv⟩ := part_ok (hT _ _ h1) (cs := ys) (a := q) (m := y0) (b := y1 ++ yb) (by rw [hy, ey]; simp [List.append_assoc]) (hb.trans h3.symm) hy0 w
      have heq := he 0 a rfl f.type d w0 S S' x.1 y.1 u v w h1 (by omega) hfl.1 hru hrv
      have hrest := ihb (fun i t hi => he (i + 1) t hi) h5 (by omega) hfl.2 w0 S S' x.2 y.2 xs ys (p ++ x0) (q ++ y0) x1 y1 xb yb w (by rw [hx, ex]; simp [List.append_assoc]) (by rw [hy, ey]; simp [List.append_assoc])
        (by rw [List.length_append, hx0.len, ha]) (by rw [List.length_append, hy0.len, hb]) hx1 hy1
      simp only [Op.eqFields, Sem.run_ite, if_pos h4, Sem.run_bind, hu, hv, heq, Result.andThen_ok]
      cases hb' : a.beq x.1 y.1
      · simp [Ty.beq, hb']
      · simp [Ty.beq, hb', hrest]
  | int k => intro fs off he; exact last rfl (he 0 _ rfl)
  | bool => intro fs off he; exact last rfl (he 0 _ rfl)
  | str => intro fs off he; exact last rfl (he 0 _ rfl)
  | any it st => intro fs off he; exact last rfl (he 0 _ rfl)
  | pt e => intro fs off he; exact last rfl (he 0 _ rfl)
  | iter => intro fs off he; exact last rfl (he 0 _ rfl)
  | sl e t _ => intro fs off he; exact last rfl (he 0 _ rfl)
  | mp k t _ _ => intro fs off he; exact last rfl (he 0 _ rfl)
  | arr n t _ => intro fs off he; exact last rfl (he 0 _ rfl)
  | st c _ => intro fs off he; exact last rfl (he 0 _ rfl)
  | tup c _ => intro fs off he; exact last rfl (he 0 _ rfl)
  | unit => intro fs off he; exact last rfl (he 0 _ rfl)
theorem eq_elems (hT : TabOk P T) {d : Nat} {t : Ty} {e : TypeId} (he : EqOk P T t) (hte : T e = some t) (hd : t.dep < d) (hfl : t.flat = true) :
    ∀ (m i : Nat) (w0 : World) (S S' : Nat → Prop) (x y : List t.den) (xs ys : Array Value) (a b xm ym : List Value) (w : World), xs.toList = a ++ xm → ys.toList = b ++ ym → a.length = i * t.size → b.length = i * t.size →
    x.length = m → y.length = m → RelL (RelC w0 S t) x xm → RelL (RelC w0 S' t) y ym → (eqElems d e t.size xs ys (List.range' i m)).run P w = .ok ((x.zip y).all fun p => t.beq p.1 p.2) w
  | 0, i, w0, S, S', x, y, xs, ys, a, b, xm, ym, w, hx, hy, ha, hb, hlx, hly, hrx, hry => by
    have : x = [] := List.eq_nil_of_length_eq_zero hlx
    subst this
    simp [eqElems]
  | m + 1, i, w0, S, S', x, y, xs, ys, a, b, xm, ym, w, hx, hy, ha, hb, hlx, hly, hrx, hry => by
    cases x with
    | nil => simp at hlx
    | cons x0 x =>
      cases y with
      | nil => simp at hly
      | cons y0 y =>
        obtain ⟨c0, c1, ex, hx0, hx1⟩ := hrx
        obtain ⟨e0, e1, ey, hy0, hy1⟩ := hry
        obtain ⟨u, hu, hru⟩ := part_ok (hT _ _ hte) (cs := xs) (a := a) (m := c0) (b := c1) (by rw [hx, ex]; simp [List.append_assoc]) ha hx0 w
        obtain ⟨v, hv, hrv⟩ := part_ok (hT _ _ hte) (cs := ys) (a := b) (m := e0) (b := e1) (by rw [hy, ey]; simp [List.append_assoc]) hb hy0 w
        have heq := he e d w0 S S' x0 y0 u v w hte hd hfl hru hrv
        have hrest := eq_elems hT he hte hd hfl m (i + 1) w0 S S' x y xs ys (a ++ c0) (b ++ e0) c1 e1 w (by rw [hx, ex]; simp [List.append_assoc]) (by rw [hy, ey]; simp [List.append_assoc])
          (by rw [List.length_append, hx0.len, ha, Nat.add_mul, Nat.one_mul]) (by rw [List.length_append, hy0.len, hb, Nat.add_mul, Nat.one_mul]) (by simpa using hlx) (by simpa using hly) hx1 hy1
        simp only [List.range'_succ, eqElems, Sem.run_bind, Sem.run_ite, hu, hv, heq, Result.andThen_ok]
        cases hb' : t.beq x0 y0
        · simp [hb']
        · simp [hb', hrest]
theorem chain_dep : ∀ {c : Ty} {i : Nat} {t : Ty}, chainTy c i = some t → t.dep ≤ c.dep
  | .pair a b, 0, t, h => by injection h with h; subst h; simp [Ty.dep]; omega
  | .pair a b, i + 1, t, h => by have := chain_dep (c := b) (i := i) h; simp [Ty.dep]; omega
  | .int _, 0, t, h => by injection h with h; subst h; exact Nat.le_refl _
  | .bool, 0, t, h => by injection h with h; subst h; exact Nat.le_refl _
  | .str, 0, t, h => by injection h with h; subst h; exact Nat.le_refl _
  | .any _ _, 0, t, h => by injection h with h; subst h; exact Nat.le_refl _
  | .pt _, 0, t, h => by injection h with h; subst h; exact Nat.le_refl _
  | .iter, 0, t, h => by injection h with h; subst h; exact Nat.le_refl _
  | .sl _ _, 0, t, h => by injection h with h; subst h; exact Nat.le_refl _
  | .arr _ _, 0, t, h => by injection h with h; subst h; exact Nat.le_refl _
  | .mp _ _, 0, t, h => by injection h with h; subst h; exact Nat.le_refl _
  | .st _, 0, t, h => by injection h with h; subst h; exact Nat.le_refl _
  | .tup _, 0, t, h => by injection h with h; subst h; exact Nat.le_refl _
  | .unit, 0, t, h => by injection h with h; subst h; exact Nat.le_refl _
  | .int _, _ + 1, t, h => by cases h
  | .bool, _ + 1, t, h => by cases h
  | .str, _ + 1, t, h => by cases h
  | .any _ _, _ + 1, t, h => by cases h
  | .pt _, _ + 1, t, h => by cases h
  | .iter, _ + 1, t, h => by cases h
  | .sl _ _, _ + 1, t, h => by cases h
  | .arr _ _, _ + 1, t, h => by cases h
  | .mp _ _, _ + 1, t, h => by cases h
  | .st _, _ + 1, t, h => by cases h
  | .tup _, _ + 1, t, h => by cases h
  | .unit, _ + 1, t, h => by cases h
theorem eq_ok (hT : TabOk P T) : ∀ (n : Nat) (ty : Ty), ty.dep ≤ n → EqOk P T ty := by
  have key : ∀ (n : Nat) (ty : Ty), ty.dep ≤ n → (∀ t : Ty, t.dep < ty.dep → EqOk P T t) → EqOk P T ty := by
    intro n ty hn ih tid d w0 S S' x y u v w ht hd hfl hu hv
    have hund := (hT tid ty ht).und
    obtain ⟨d', rfl⟩ : ∃ k, d = k + 1 := ⟨d - 1, by omega⟩
    cases ty with
    | int k =>
      have e1 : u = .int k x := by simpa [RelV1, RelC] using hu
      have e2 : v = .int k y := by simpa [RelV1, RelC] using hv
      subst e1 e2
      rw [run_equalIn_int w d' tid k k x y hund]; rfl
    | bool =>
      have e1 : u = .bool x := by simpa [RelV1, RelC] using hu
      have e2 : v = .bool y := by simpa [RelV1, RelC] using hv
      subst e1 e2
      rw [run_equalIn_bool' w d' tid x y hund]; rfl
    | str =>
      have e1 : u = .string x := by simpa [RelV1, RelC] using hu
      have e2 : v = .string y := by simpa [RelV1, RelC] using hv
      subst e1 e2
      rw [run_equalIn_string w d' tid x y hund, str_eq]; rfl
    | sl e t => simp [Ty.flat] at hfl
    | any it st => simp [Ty.flat] at hfl
    | pt e => simp [Ty.flat] at hfl
    | iter => simp [Ty.flat] at hfl
    | mp k t => simp [Ty.flat] at hfl
    | arr m t =>
      obtain ⟨e, hu1, hu2, hu3, _⟩ := hund
      obtain ⟨xs, rfl, hlx, hrx⟩ := hu
      obtain ⟨ys, rfl, hly, hry⟩ := hv
      rw [run_equalIn_array w d' m t.size tid e xs ys hu1 ((hT _ _ hu2).sizeOf w), List.range_eq_range']
      exact eq_elems hT (ih t (by simp [Ty.dep])) hu2 (by simp only [Ty.dep] at hd; omega) (by simpa [Ty.flat] using hfl) m 0 w0 S S' x y xs ys [] [] xs.toList ys.toList w (by simp) (by simp) (by simp) (by simp) hlx hly hrx hry
    | st c =>
      obtain ⟨fs, hu1, hu2, hu3, _⟩ := hund
      obtain ⟨xs, rfl, hrx⟩ := hu
      obtain ⟨ys, rfl, hry⟩ := hv
      have hfo : P.fieldsOf tid = fs := by simp [Program.fieldsOf, hu1]
      rw [run_equalIn_struct w d' tid xs ys (by rw [hfo]; exact hu1) hu3, hfo]
      exact eq_fields hT (fun i t hi => ih t (by have := chain_dep hi; simp only [Ty.dep]; omega)) hu2 (by simp only [Ty.dep] at hd; omega) (by simpa [Ty.flat] using hfl) w0 S S' x y xs ys [] [] xs.toList ys.toList [] [] w
        (by simp) (by simp) rfl rfl hrx hry
    | pair a b => exact hund.elim
    | tup c => exact hund.elim
    | unit => exact hund.elim
  intro n
  induction n with
  | zero => exact fun ty hn => key 0 ty hn (fun t ht => absurd ht (by omega))
  | succ n ihn => exact fun ty hn => key (n + 1) ty hn (fun t ht => ihn t (by omega))

theorem foldl_set (off : Nat) : ∀ (v : List Value) (k : Nat) (a m b : List Value), m.length = v.length → a.length = off + k →
    ((v.zipIdx k).foldl (fun (cs : Array Value) (p : Value × Nat) => cs.setIfInBounds (off + p.2) p.1) (a ++ m ++ b).toArray) = (a ++ v ++ b).toArray
  | [], k, a, m, b, hm, ha => by
    have : m = [] := List.eq_nil_of_length_eq_zero (by simpa using hm)
    subst this
    simp
  | u :: v, k, a, m, b, hm, ha => by
    cases m with
    | nil => simp at hm
    | cons m0 m =>
      have := foldl_set off v (k + 1) (a ++ [u]) m b (by simpa using hm) (by simp [ha]; omega)
      simp only [List.zipIdx_cons, List.foldl_cons]
      have e : (a ++ m0 :: m ++ b).toArray.setIfInBounds (off + k) u = (a ++ [u] ++ m ++ b).toArray := by
        rw [← ha]
        simp [List.set_append]
      rw [e, this]
      simp [List.append_assoc]
theorem fill_step {place : Nat → Option (Nat × Nat)} {i off size : Nat} (hp : place i = some (off, size)) {v : Value} (hv : v.cells.size = size) {a m b : List Value} (hm : m.length = size) (ha : a.length = off)
    (rest : List (Nat × Value)) : Instr.fill place (a ++ m ++ b).toArray ((i, v) :: rest) = Instr.fill place (a ++ v.cells.toList ++ b).toArray rest := by
  have hl : v.cells.toList.length = m.length := by rw [Array.length_toList, hv, hm]
  have := foldl_set off v.cells.toList 0 a m b hl.symm (by omega)
  have h2 : (v.cells.zipIdx.foldl (fun cs (c, j) => cs.setIfInBounds (off + j) c) (a ++ m ++ b).toArray) = (a ++ v.cells.toList ++ b).toArray := by
    rw [← this, ← Array.foldl_toList, Array.toList_zipIdx]
  simp only [Instr.fill, hp]
  rw [if_neg, h2]
  simp [hv, ← hm, ← ha]
theorem run_places (hT : TabOk P T) : ∀ (fs : List Field) (w : World), (∀ f ∈ fs, ∃ t, T f.type = some t) → ∃ l : List (Nat × Nat), (fs.mapM fun f => (do pure (f.offset, ← sizeOf f.type) : Sem (Nat × Nat))).run P w = .ok l w ∧
    ∀ (i : Nat) (f : Field) (t : Ty), fs[i]? = some f → T f.type = some t → l[i]? = some (f.offset, t.size)
  | [], w, _ => ⟨[], rfl, fun i f t h => by simp at h⟩
  | f :: fs, w, h => by
    obtain ⟨t, ht⟩ := h f List.mem_cons_self
    obtain ⟨l, hl, hi⟩ := run_places hT fs w (fun g hg => h g (List.mem_cons_of_mem _ hg))
    refine ⟨(f.offset, t.size) :: l, ?_, fun i g u hg hu => ?_⟩
    · simp only [List.mapM_cons, Sem.run_bind, (hT _ _ ht).sizeOf w, Result.andThen_ok, Sem.run_pure]
      rw [hl]
      rfl
    · cases i with
      | zero =>
        have : f = g := by simpa using hg
        subst this
        rw [ht] at hu
        injection hu with hu
        subst hu
        rfl
      | succ i => simpa using hi i g u (by simpa using hg) hu

theorem bytes_beq (a b : ByteArray) : (a == b) = decide (a = b) := by
  obtain ⟨x⟩ := a
  obtain ⟨y⟩ := b
  rw [Bool.eq_iff_iff, decide_eq_true_eq]
  show (x == y) = true ↔ _
  simp
def kdesc : Ty → Option TypeDesc
  | .int k => some (.int k)
  | .str => some .string
  | _ => none
theorem findNow_rel {w : World} {S : Nat → Prop} {k v : Ty} {d : TypeDesc} (hd : kdesc k = some d) {key : k.den} {uk : Value} (hk : RelC w S k key [uk]) :
    ∀ (ps : List (k.den × v.den)) (es : List MapEntry) (i : Nat), RelE (fun a u => RelC w S k a [u]) (fun b u => RelC w S v b [u]) ps es →
      ∃ r, Instr.findNow d uk es i = some r ∧ match mapGet k v key ps with
        | some b => ∃ j u, r = some (j, u) ∧ RelC w S v b [u]
        | none => r = none
  | [], [], i, _ => ⟨none, rfl, rfl⟩
  | p :: ps, e :: es, i, ⟨h0, h1, h2⟩ => by
    have ih := findNow_rel (v := v) hd hk ps es (i + 1) h2
    have hs : Instr.sameNow d uk e.key = some (k.beq key p.1) := by
      cases k with
      | int q =>
        injection hd with hd
        subst hd
        have e1 : uk = .int q key := by simpa [RelC] using hk
        have e2 : e.key = .int q p.1 := by simpa [RelC] using h0
        rw [e1, e2]
        simp [Instr.sameNow, Ty.beq]
      | str =>
        injection hd with hd
        subst hd
        have e1 : uk = .string key := by simpa [RelC] using hk
        have e2 : e.key = .string p.1 := by simpa [RelC] using h0
        rw [e1, e2]
        show some ((key : ByteArray) == (p.1 : ByteArray)) = some (decide ((key : ByteArray) = (p.1 : ByteArray)))
        rw [bytes_beq]
      | _ => cases hd
    unfold Instr.findNow mapGet
    rw [hs]
    cases hb : k.beq key p.1 with
    | true => exact ⟨_, rfl, i, e.val, rfl, h1⟩
    | false => exact ih
  | [], _ :: _, _, h => h.elim
  | _ :: _, [], _, h => h.elim
theorem kdesc_und {k : Ty} {kt : TypeId} (hk : k.keyT = true) (h : Und P T kt k) : ∃ d, kdesc k = some d ∧ P.underlying kt = some d := by
  cases k with
  | int q => exact ⟨_, rfl, h⟩
  | str => exact ⟨_, rfl, h⟩
  | _ => simp [Ty.keyT] at hk
theorem relC_key {w : World} {S : Nat → Prop} {k : Ty} (hk : k.keyT = true) {x : k.den} {u : Value} (h : RelD w S k x u) : RelC w S k x [u] := by
  cases k with
  | int q => exact h
  | str => exact h
  | _ => simp [Ty.keyT] at hk
theorem relD_val {w : World} {S : Nat → Prop} {v : Ty} (hv : v.valT = true) {x : v.den} {u : Value} (h : RelC w S v x [u]) : RelD w S v x u ∧ RelV1 w S v x u := by
  cases v with
  | int q => exact ⟨h, h⟩
  | str => exact ⟨h, h⟩
  | bool => exact ⟨h, h⟩
  | _ => simp [Ty.valT] at hv
def RelLook (w : World) (S : Nat → Prop) (v : Ty) (o : Option v.den) : Bool → Value → Prop
  | false, r => RelD w S v (o.getD v.zero) r
  | true, r => RelD w S (.tup (.pair v .bool)) (o.getD v.zero, o.isSome) r
theorem lookup_ok (hT : TabOk P T) {t : TypeId} {k v : Ty} (ht : T t = some (.mp k v)) {w : World} {S : Nat → Prop} {es : List (k.den × v.den)} {u : Value} (hu : RelC w S (.mp k v) es [u]) {key : k.den} {uk : Value} (hk : RelD w S k key uk) (ok : Bool) :
    ∃ r, (Instr.lookup t u uk ok).run P w = .ok r w ∧ RelLook w S v (mapGet k v key es) ok r := by
  have hgood := (hT _ _ ht).good
  simp only [Ty.good, Bool.and_eq_true] at hgood
  obtain ⟨kt, vt, hund, hkt, hvt, i, z, hi, hz, hzc⟩ := (hT _ _ ht).und
  obtain ⟨d, hd, hdu⟩ := kdesc_und hgood.1 (hT _ _ hkt).und
  have hk' := relC_key hgood.1 hk
  have hzr : (zeroValue vt).run P w = .ok z w := by simp [zeroValue, typeInfo, hi, hz]
  have hzz : RelC w S v v.zero [z] := by rw [← hzc]; exact relC_zero w S v (hT _ _ hvt).good
  have hck : ∀ b, (Instr.checkKey b 10000 kt uk).run P w = .ok () w := fun b => by
    have h1 : ∀ n, (Instr.checkKey b (n + 1) kt uk).run P w = .ok () w := fun n => by
      cases k with
      | int q =>
        injection hd with hd
        subst hd
        unfold Instr.checkKey
        rw [Sem.run_bind, run_underlying hdu]
        simp
      | str =>
        injection hd with hd
        subst hd
        unfold Instr.checkKey
        rw [Sem.run_bind, run_underlying hdu]
        simp
      | _ => cases hd
    exact h1 9999
  have core : ∀ (entries : Array MapEntry), RelE (fun a u => RelC w S k a [u]) (fun b u => RelC w S v b [u]) es entries.toList → (∀ x : Value, (Instr.lookup t u uk ok).run P w = (do
      Instr.checkKey entries.isEmpty 10000 kt uk
      let (v, ok') ← match ← Instr.findKey kt uk entries.toList with
        | some (_, v) => pure (v, true)
        | none => pure (← zeroValue vt, false)
      pure (if ok = true then .tuple #[v, .bool ok'] else v) : Sem Value).run P w) →
      ∃ r, (Instr.lookup t u uk ok).run P w = .ok r w ∧ RelLook w S v (mapGet k v key es) ok r := by
    intro entries hrel heq
    obtain ⟨r, hr1, hr2⟩ := findNow_rel (v := v) hd hk' es entries.toList 0 hrel
    have hfk : (Instr.findKey kt uk entries.toList).run P w = .ok r w := by
      unfold Instr.findKey
      rw [Sem.run_bind, run_underlying hdu]
      simp [hr1]
    have main : ∀ (x : v.den) (b : Bool) (uv : Value), RelC w S v x [uv] → (mapGet k v key es).getD v.zero = x → (mapGet k v key es).isSome = b → (Instr.lookup t u uk ok).run P w = .ok (if ok = true then .tuple #[uv, .bool b] else uv) w →
        ∃ r, (Instr.lookup t u uk ok).run P w = .ok r w ∧ RelLook w S v (mapGet k v key es) ok r := by
      intro x b uv hx e1 e2 hrun
      refine ⟨_, hrun, ?_⟩
      cases ok with
      | false => show RelD w S v _ _; rw [e1]; exact (relD_val hgood.2 hx).1
      | true =>
        show RelD w S (.tup (.pair v .bool)) (_, _) _
        rw [e1, e2]
        exact ⟨#[uv, .bool b], rfl, uv, [.bool b], rfl, (relD_val hgood.2 hx).2, .bool b, rfl, rfl⟩
    cases hm : mapGet k v key es with
    | some x =>
      rw [hm] at hr2
      obtain ⟨j, uv, rfl, hx⟩ := hr2
      have := main x true uv hx (by rw [hm]; rfl) (by rw [hm]; rfl) (by
        rw [heq uv, Sem.run_bind, hck]
        simp only [Result.andThen_ok]
        rw [Sem.run_bind, hfk]
        simp)
      rw [hm] at this
      exact this
    | none =>
      rw [hm] at hr2
      have hr2' : r = none := hr2
      subst hr2'
      have := main v.zero false z hzz (by rw [hm]; rfl) (by rw [hm]; rfl) (by
        rw [heq z, Sem.run_bind, hck]
        simp only [Result.andThen_ok]
        rw [Sem.run_bind, hfk]
        simp [Sem.run_bind, hzr])
      rw [hm] at this
      exact this
  rcases hu with ⟨e, hl⟩ | ⟨g, en, cl, e, hg, hh, hr⟩
  · have e2 : u = .map none := by simpa using e
    subst e2
    refine core #[] ?_ (fun _ => ?_)
    · have : es = [] := List.eq_nil_of_length_eq_zero hl
      rw [this]
      trivial
    · unfold Instr.lookup
      rw [Sem.run_bind, run_underlying hund]
      rfl
  · have e2 : u = .map (some g) := by simpa using e
    subst e2
    refine core en hr (fun _ => ?_)
    unfold Instr.lookup
    rw [Sem.run_bind, run_underlying hund]
    simp only [Result.andThen_ok]
    rw [Sem.run_bind, MapKept.run_getObj_map hh]
    rfl

theorem sameBits_refl {k : Ty} {d : TypeDesc} (hd : kdesc k = some d) {w : World} {S : Nat → Prop} {key : k.den} {uk : Value} (hk : RelC w S k key [uk]) (n : Nat) : Instr.sameBits n uk uk = true := by
  cases k with
  | int q =>
    have e1 : uk = .int q key := by simpa [RelC] using hk
    rw [e1]
    unfold Instr.sameBits
    simp
  | str =>
    have e1 : uk = .string key := by simpa [RelC] using hk
    rw [e1]
    unfold Instr.sameBits
    rw [bytes_beq]
    simp
  | _ => cases hd
theorem same_key {k : Ty} {d : TypeDesc} (hd : kdesc k = some d) {w : World} {S : Nat → Prop} {key a : k.den} {uk ua : Value} (hk : RelC w S k key [uk]) (ha : RelC w S k a [ua]) (hb : k.beq key a = true) : ua = uk := by
  cases k with
  | int q =>
    have e1 : uk = .int q key := by simpa [RelC] using hk
    have e2 : ua = .int q a := by simpa [RelC] using ha
    have : key = a := by simpa [Ty.beq] using hb
    rw [e1, e2, this]
  | str =>
    have e1 : uk = .string key := by simpa [RelC] using hk
    have e2 : ua = .string a := by simpa [RelC] using ha
    have : key = a := by simpa [Ty.beq] using hb
    rw [e1, e2, this]
  | _ => cases hd
theorem findNow_put {w : World} {S : Nat → Prop} {k v : Ty} {d : TypeDesc} (hd : kdesc k = some d) {key : k.den} {uk : Value} (hk : RelC w S k key [uk]) {x : v.den} {ux : Value} (hx : RelC w S v x [ux]) :
    ∀ (ps : List (k.den × v.den)) (es : List MapEntry) (i : Nat), RelE (fun a u => RelC w S k a [u]) (fun b u => RelC w S v b [u]) ps es →
      (∃ n u, Instr.findNow d uk es i = some (some (i + n, u)) ∧ (∃ e, es[n]? = some e ∧ e.key = uk) ∧ RelE (fun a u => RelC w S k a [u]) (fun b u => RelC w S v b [u]) (mapPut k v key x ps) (es.modify n fun e => { e with key := uk, val := ux })) ∨
      (Instr.findNow d uk es i = some none ∧ ∀ e : MapEntry, e.key = uk → e.val = ux → RelE (fun a u => RelC w S k a [u]) (fun b u => RelC w S v b [u]) (mapPut k v key x ps) (es ++ [e]))
  | [], [], i, _ => .inr ⟨rfl, fun e h1 h2 => ⟨by rw [h1]; exact hk, by rw [h2]; exact hx, trivial⟩⟩
  | p :: ps, e :: es, i, ⟨h0, h1, h2⟩ => by
    have ih := findNow_put hd hk hx ps es (i + 1) h2
    have hs : Instr.sameNow d uk e.key = some (k.beq key p.1) := by
      cases k with
      | int q =>
        injection hd with hd
        subst hd
        have e1 : uk = .int q key := by simpa [RelC] using hk
        have e2 : e.key = .int q p.1 := by simpa [RelC] using h0
        rw [e1, e2]
        simp [Instr.sameNow, Ty.beq]
      | str =>
        injection hd with hd
        subst hd
        have e1 : uk = .string key := by simpa [RelC] using hk
        have e2 : e.key = .string p.1 := by simpa [RelC] using h0
        rw [e1, e2]
        show some ((key : ByteArray) == (p.1 : ByteArray)) = some (decide ((key : ByteArray) = (p.1 : ByteArray)))
        rw [bytes_beq]
      | _ => cases hd
    unfold Instr.findNow mapPut
    rw [hs]
    cases hb : k.beq key p.1 with
    | true => exact .inl ⟨0, e.val, rfl, ⟨e, rfl, same_key hd hk h0 hb⟩, hk, hx, h2⟩
    | false =>
      rcases ih with ⟨n, u, h3, ⟨e', h4, h5⟩, h6⟩ | ⟨h3, h4⟩
      · exact .inl ⟨n + 1, u, by rw [show i + (n + 1) = i + 1 + n by omega]; exact h3, ⟨e', by simpa using h4, h5⟩, h0, h1, h6⟩
      · exact .inr ⟨h3, fun e' q1 q2 => ⟨h0, h1, h4 e' q1 q2⟩⟩
  | [], _ :: _, _, h => h.elim
  | _ :: _, [], _, h => h.elim
theorem update_ok (hT : TabOk P T) {t : TypeId} {k v : Ty} (ht : T t = some (.mp k v)) {w : World} {S : Nat → Prop} {g : Nat} {en : Array MapEntry} {cl : Nat} (hb : w.heap[g]? = some (.map en cl)) {es : List (k.den × v.den)} (hE : RelE (fun a u => RelC w S k a [u]) (fun b u => RelC w S v b [u]) es en.toList)
    {key : k.den} {uk : Value} (hk : RelD w S k key uk) {x : v.den} {ux : Value} (hx : RelD w S v x ux) :
    ∃ en' cl', (Instr.mapUpdate t (.map (some g)) uk ux).run P w = .ok () { w with heap := w.heap.setIfInBounds g (.map en' cl') } ∧ RelE (fun a u => RelC w S k a [u]) (fun b u => RelC w S v b [u]) (mapPut k v key x es) en'.toList := by
  have hgood := (hT _ _ ht).good
  simp only [Ty.good, Bool.and_eq_true] at hgood
  obtain ⟨kt, vt, hund, hkt, hvt, _⟩ := (hT _ _ ht).und
  obtain ⟨d, hd, hdu⟩ := kdesc_und hgood.1 (hT _ _ hkt).und
  have hk' := relC_key hgood.1 hk
  have hx' : RelC w S v x [ux] := by
    have h2 := hgood.2
    cases v with
    | int q => exact hx
    | str => exact hx
    | bool => exact hx
    | _ => simp [Ty.valT] at h2
  have hck : ∀ n, (Instr.checkKey false (n + 1) kt uk).run P w = .ok () w := fun n => by
    cases k with
    | int q =>
      injection hd with hd
      subst hd
      unfold Instr.checkKey
      rw [Sem.run_bind, run_underlying hdu]
      simp
    | str =>
      injection hd with hd
      subst hd
      unfold Instr.checkKey
      rw [Sem.run_bind, run_underlying hdu]
      simp
    | _ => cases hd
  have hck := hck 9999
  rcases findNow_put hd hk' hx' es en.toList 0 hE with ⟨n, u, h1, ⟨e, h2, h3⟩, h4⟩ | ⟨h1, h2⟩
  · have hfk : (Instr.findKey kt uk en.toList).run P w = .ok (some (0 + n, u)) w := MapKept.run_findKey hdu h1
    have he : en[n]? = some e := by rw [← Array.getElem?_toList]; exact h2
    refine ⟨en.modify n fun e => { e with key := uk, val := ux }, cl, ?_, by rw [Array.toList_modify]; exact h4⟩
    unfold Instr.mapUpdate
    rw [Sem.run_bind, run_underlying hund]
    simp only [Result.andThen_ok]
    rw [Sem.run_bind, MapKept.run_getObj_map hb]
    simp only [Result.andThen_ok]
    rw [Sem.run_bind, hck]
    simp only [Result.andThen_ok]
    rw [Sem.run_bind, hfk]
    simp only [Result.andThen_ok, Nat.zero_add, he, Option.map_some, Option.getD_some, h3]
    rw [Sem.run_bind]
    rw [show (Instr.keyThatStays uk uk).run P w = .ok uk w by unfold Instr.keyThatStays; rw [sameBits_refl hd hk']; simp]
    simp only [Result.andThen_ok]
    exact MapKept.run_setObj_map _ hb
  · have hfk : (Instr.findKey kt uk en.toList).run P w = .ok none w := MapKept.run_findKey hdu h1
    refine ⟨en.push { key := uk, val := ux, born := cl }, cl + 1, ?_, by rw [Array.toList_push]; exact h2 _ rfl rfl⟩
    unfold Instr.mapUpdate
    rw [Sem.run_bind, run_underlying hund]
    simp only [Result.andThen_ok]
    rw [Sem.run_bind, MapKept.run_getObj_map hb]
    simp only [Result.andThen_ok]
    rw [Sem.run_bind, hck]
    simp only [Result.andThen_ok]
    rw [Sem.run_bind, hfk]
    simp only [Result.andThen_ok]
    exact MapKept.run_setObj_map _ hb
end
end Go.Vm
end
section
namespace Go.Vm
open Go.RowKit
set_option linter.unusedVariables false

theorem ok_inj {α : Type} {x y : α} {m m' : Mem} {fp fp' : FP} (h : (Res.ok x).ev m fp = some (y, m', fp')) : y = x ∧ m' = m := by
  injection h with h
  injection h with h1 h2
  injection h2 with h2 h3
  exact ⟨h1.symm, h2.symm⟩
theorem fail_ne {α : Type} {y : α} {m m' : Mem} {fp fp' : FP} (h : (Res.fail : Res α).ev m fp = some (y, m', fp')) : False := by cases h

theorem Rel.arrLt {E : Env} {c : Cx} (h : Rel E c) {a : Nat} {A : Arr} (ha : c.m.arr a = .at_ A) (ho : A.open_ = true) {g : Nat} (hg : (c.ar a).ownBlock = some g) : g < c.w.heap.size := by
  have := h.arr a A ha
  unfold RelA at this
  rw [if_pos ho] at this
  obtain ⟨_, h1, _⟩ := this
  exact (h1.lt g hg).2
theorem alloc_below (w : World) (o : Obj) : Below w.heap.size w { w with heap := w.heap.push o } := (Below.refl _ _).alloc (Nat.le_refl _) o

section
variable {P : Program} {T : Tab} {E : Env} {c : Cx}

theorem newBoxO_ok (hr : Rel E c) {d : Nat} {t : Ty} {x : t.den} {v : V} {m' : Mem} {fp fp' : FP} {nl : List Nat} (h : (newBox d t x nl).ev c.m fp = some (v, m', fp')) (o : Obj)
    (hx : BoxRel { c with w := { c.w with heap := c.w.heap.push o } } ⟨t, x, nl.map fun i => (i, .nil)⟩ (some o)) : ∃ c', c'.m = m' ∧ c'.w = { c.w with heap := c.w.heap.push o } ∧ Rel E c' ∧ Ext c c' ∧ RelV P E c' v (.pointer (some ⟨c.w.heap.size, 0, none⟩)) := by
  simp only [newBox, Res.ev] at h
  cases hd : c.m.box d with
  | some B => rw [hd] at h; exact (fail_ne h).elim
  | none =>
    rw [hd] at h
    simp only [Res.ev] at h
    obtain ⟨rfl, rfl⟩ := ok_inj h
    have hb := alloc_below c.w o
    obtain ⟨r1, e1⟩ := below_ok hr hb (S' := c.S) (fun _ h => h) (fun _ h => .inl h)
    have hnew : ({ c.w with heap := c.w.heap.push o } : World).heap[c.w.heap.size]? = some o := by simp
    obtain ⟨r2, e2⟩ := addBox_ok r1 hd (t := t) (x := x) (lk := nl.map fun i => (i, .nil)) (g := c.w.heap.size) (by simp) (by rw [hnew]; exact hx) (.inl hr.size) (fun hs => Nat.lt_irrefl _ (hr.lt _ hs))
      (fun b hb' e => by
        cases hB : c.m.box b with
        | none => exact hb' hB
        | some B => have := hr.boxLt hB; simp only at e; omega)
      (fun a A hA ho hg => by have := hr.arrLt hA ho hg; omega)
    exact ⟨{ c with bx := upd c.bx d c.w.heap.size, m := c.m.setB d ⟨t, x, nl.map fun i => (i, .nil)⟩, w := { c.w with heap := c.w.heap.push o } }, rfl, rfl, r2, e1.trans e2, ⟨t, x, nl.map fun i => (i, .nil)⟩, by simp [Mem.setB, upd], rfl, trivial, by simp [upd, pathOff]⟩
theorem newBox_ok (hr : Rel E c) {d : Nat} {t : Ty} {x : t.den} {v : V} {m' : Mem} {fp fp' : FP} {nl : List Nat} (h : (newBox d t x nl).ev c.m fp = some (v, m', fp')) (cells : Array Value) (tid : TypeId)
    (hx : RelC c.w c.S t x cells.toList) (hn : NilsIn t nl cells.toList) : ∃ c', c'.m = m' ∧ c'.w = { c.w with heap := c.w.heap.push (.cells cells tid) } ∧ Rel E c' ∧ Ext c c' ∧ RelV P E c' v (.pointer (some ⟨c.w.heap.size, 0, none⟩)) := by
  have hb := alloc_below c.w (.cells cells tid)
  obtain ⟨r1, e1⟩ := below_ok hr hb (S' := c.S) (fun _ h => h) (fun _ h => .inl h)
  exact newBoxO_ok hr h _ (.inr ⟨cells, tid, rfl, RelB.ofNils (hx.move e1.w (fun _ h => h)) hn⟩)

theorem newArr_ok (hr : Rel E c) {d : Nat} {e : TypeId} {t : Ty} {xs : List t.den} {v : V} {m' : Mem} {fp fp' : FP} (h : (newArr d e t xs).ev c.m fp = some (v, m', fp')) {u : Value} (hl : Loose E c e t xs u) :
    ∃ c', c'.m = m' ∧ c'.w = c.w ∧ Rel E c' ∧ Ext c c' ∧ RelV P E c' v u := by
  simp only [newArr, Res.ev] at h
  cases hd : c.m.arr d with
  | dead => rw [hd] at h; exact (fail_ne h).elim
  | at_ A => rw [hd] at h; exact (fail_ne h).elim
  | mp M => rw [hd] at h; exact (fail_ne h).elim
  | no =>
    rw [hd] at h
    simp only [Res.ev] at h
    obtain ⟨rfl, rfl⟩ := ok_inj h
    obtain ⟨r, e1⟩ := addArr_ok hr hd hl
    exact ⟨{ c with ar := upd c.ar d u, m := c.m.setA d (.at_ ⟨e, t, xs, true⟩) }, rfl, rfl, r, e1, by simp [Mem.setA, upd], fun A hA => by simp [upd], fun M hM => by simp [upd]⟩

theorem addMap_ok (hr : Rel E c) {d : Nat} (hd : c.m.arr d = .no) {M : MO} {g : Nat} {es : Array MapEntry} {cl : Nat} (hk : M.k.keyT = true) (hv : M.v.valT = true) (hg : c.w.heap[g]? = some (.map es cl)) (h0 : E.w0.heap.size ≤ g) (hS : ¬ c.S g)
    (hes : RelE (fun a u => RelC c.w c.S M.k a [u]) (fun b u => RelC c.w c.S M.v b [u]) M.es es.toList) (hdis : ∀ a M', c.m.arr a = .mp M' → c.ar a ≠ .map (some g)) :
    Rel E { c with ar := upd c.ar d (.map (some g)), m := c.m.setA d (.mp M) } ∧ Ext c { c with ar := upd c.ar d (.map (some g)), m := c.m.setA d (.mp M) } := by
  have hat : ∀ x X, (c.m.setA d (.mp M)).arr x = .at_ X → Nat.beq x d = false ∧ c.m.arr x = .at_ X := fun x X hx => by
    simp only [Mem.setA, upd] at hx
    cases he : Nat.beq x d with
    | true => rw [he] at hx; cases hx
    | false => rw [he] at hx; exact ⟨rfl, hx⟩
  have har : ∀ x, Nat.beq x d = false → upd c.ar d (.map (some g)) x = c.ar x := fun x he => by simp only [upd, he]; rfl
  refine ⟨⟨hr.os, hr.tape, hr.output, hr.size, hr.keep, hr.old, hr.lt, hr.new, (fun b B hB => by
      refine BoxRel.mv (c := c) (c' := { c with ar := upd c.ar d (.map (some g)), m := c.m.setA d (.mp M) }) (fun _ h => h) (fun _ _ => rfl) (fun a ha => ?_) rfl (hr.box b B hB)
      have he : Nat.beq a d = false := by
        cases he : Nat.beq a d with
        | false => rfl
        | true => exact absurd (by rw [Nat.eq_of_beq_eq_true he]; exact hd) ha
      simp only [Mem.setA, upd]
      rw [he]
      exact ⟨ha, fun A hA => ⟨⟨A, hA⟩, rfl⟩, fun A hA => ⟨⟨A, hA⟩, rfl⟩⟩), hr.priv, fun x X hx => ?_, hr.bb, fun x y X Y g' hx hy hxo hyo => ?_, fun b x X hb hx => ?_, ⟨fun x X hx => ?_, fun x y X Y hx hy e => ?_⟩⟩,
    ⟨fun _ h => h, fun _ _ => rfl, fun b B hB => ⟨B, hB, rfl, rfl⟩, fun x hx => ?_, fun x X hX hx => ?_⟩⟩
  · obtain ⟨he, hx⟩ := hat x X hx
    show RelA E c.w c.S X (upd c.ar d _ x)
    rw [har x he]; exact hr.arr x X hx
  · obtain ⟨he, hx⟩ := hat x X hx
    obtain ⟨he2, hy⟩ := hat y Y hy
    show (upd c.ar d _ x).ownBlock = _ → (upd c.ar d _ y).ownBlock = _ → _
    rw [har x he, har y he2]
    exact hr.aa x y X Y g' hx hy hxo hyo
  · obtain ⟨he, hx⟩ := hat x X hx
    show _ → (upd c.ar d _ x).ownBlock ≠ _
    rw [har x he]
    exact hr.ba b x X hb hx
  · simp only [Mem.setA, upd] at hx
    cases he : Nat.beq x d with
    | true =>
      rw [he] at hx
      injection hx with hx
      subst hx
      show RelM E c.w c.S M (upd c.ar d _ x)
      rw [show upd c.ar d (.map (some g)) x = .map (some g) by simp only [upd, he]; rfl]
      exact ⟨hk, hv, g, es, cl, rfl, h0, hS, hg, hes⟩
    | false =>
      rw [he] at hx
      show RelM E c.w c.S X (upd c.ar d _ x)
      rw [har x he]; exact hr.ms.mps x X hx
  · simp only [Mem.setA, upd] at hx hy e
    cases he : Nat.beq x d with
    | true =>
      cases he2 : Nat.beq y d with
      | true => rw [Nat.eq_of_beq_eq_true he, Nat.eq_of_beq_eq_true he2]
      | false =>
        rw [he, he2] at e
        rw [he2] at hy
        exact absurd e.symm (hdis y Y hy)
    | false =>
      cases he2 : Nat.beq y d with
      | true =>
        rw [he, he2] at e
        rw [he] at hx
        exact absurd e (hdis x X hx)
      | false =>
        rw [he, he2] at e
        rw [he] at hx
        rw [he2] at hy
        exact hr.ms.mm x y X Y hx hy e
  · have hne : Nat.beq x d = false := by
      cases he : Nat.beq x d with
      | false => rfl
      | true => exact absurd (by rw [Nat.eq_of_beq_eq_true he]; exact hd) hx
    simp only [Mem.setA, upd, hne]
    exact ⟨hx, fun A hA => ⟨⟨A, hA⟩, rfl⟩⟩
  · have hne : Nat.beq x d = false := by
      cases he : Nat.beq x d with
      | false => rfl
      | true => exact absurd (by rw [Nat.eq_of_beq_eq_true he]; exact hd) hx
    simp only [Mem.setA, upd, hne] at hX ⊢
    exact ⟨⟨X, hX⟩, rfl⟩
theorem setMap_ok (hr : Rel E c) {a : Nat} {M : MO} (ha : c.m.arr a = .mp M) {xs : List (M.k.den × M.v.den)} {g : Nat} (hag : c.ar a = .map (some g)) {es : Array MapEntry} {cl : Nat}
    (hes : RelE (fun a u => RelC c.w c.S M.k a [u]) (fun b u => RelC c.w c.S M.v b [u]) xs es.toList) :
    Rel E { c with m := c.m.setA a (.mp ⟨M.k, M.v, xs⟩), w := { c.w with heap := c.w.heap.setIfInBounds g (.map es cl) } } ∧ Ext c { c with m := c.m.setA a (.mp ⟨M.k, M.v, xs⟩), w := { c.w with heap := c.w.heap.setIfInBounds g (.map es cl) } } := by
  obtain ⟨hk, hv, g', es0, cl0, e, h0, hS, hg, _⟩ := hr.ms.mps a M ha
  rw [hag] at e
  injection e with e
  injection e with e
  subst e
  have hlt := (Array.getElem?_eq_some_iff.1 hg).1
  have hoth : ∀ i, i ≠ g → (c.w.heap.setIfInBounds g (.map es cl))[i]? = c.w.heap[i]? := fun i hi => Array.getElem?_setIfInBounds_ne (Ne.symm hi)
  have hat2 : (c.w.heap.setIfInBounds g (.map es cl))[g]? = some (.map es cl) := by simp [hlt]
  have hsame : SameOn c.S c.w { c.w with heap := c.w.heap.setIfInBounds g (.map es cl) } := fun i hi => hoth i (fun e => hS (e ▸ hi))
  have hat : ∀ x X, (c.m.setA a (.mp ⟨M.k, M.v, xs⟩)).arr x = .at_ X → c.m.arr x = .at_ X := fun x X hx => by
    simp only [Mem.setA, upd] at hx
    cases he : Nat.beq x a with
    | true => rw [he] at hx; cases hx
    | false => rw [he] at hx; exact hx
  have hcell : ∀ {i cs tid fz}, c.w.heap[i]? = some (.cells cs tid fz) → i ≠ g := fun hi e => by rw [e, hg] at hi; cases hi
  refine ⟨⟨hr.os, hr.tape, hr.output, by simpa using hr.size, fun b hb hn => (hoth b (fun e => by omega)).trans (hr.keep b hb hn), hr.old, fun b hb => by simpa using hr.lt b hb, hr.new, fun b B hB => ?_, hr.priv, fun x X hx => ?_, hr.bb,
    fun x y X Y g' hx hy => hr.aa x y X Y g' (hat x X hx) (hat y Y hy), fun b x X hb hx => hr.ba b x X hb (hat x X hx), ⟨fun x X hx => ?_, fun x y X Y hx hy e => ?_⟩⟩,
    ⟨fun _ h => h, hsame, fun b B hB => ⟨B, hB, rfl, rfl⟩, fun x hx => ?_, fun x X hX hx => ?_⟩⟩
  · refine BoxRel.mv (c := c) (c' := { c with m := c.m.setA a (.mp ⟨M.k, M.v, xs⟩), w := { c.w with heap := c.w.heap.setIfInBounds g (.map es cl) } }) (fun _ h => h) hsame (fun x hx => ?_) (hoth _ (fun e => (hr.box b B hB).notMap (by rw [e]; exact hg))) (hr.box b B hB)
    simp only [Mem.setA, upd]
    cases he : Nat.beq x a with
    | true =>
      have := Nat.eq_of_beq_eq_true he
      subst this
      exact ⟨by simp, fun A' h => (by cases h), fun A' _ => ⟨⟨M, ha⟩, trivial⟩⟩
    | false => exact ⟨hx, fun X hX => ⟨⟨X, hX⟩, trivial⟩, fun X hX => ⟨⟨X, hX⟩, trivial⟩⟩
  · have hA := hr.arr x X (hat x X hx)
    refine hA.move hsame (fun _ h => h) (fun ho g' hg' => ?_)
    unfold RelA at hA
    rw [if_pos ho] at hA
    obtain ⟨inner, h1, _, h5⟩ := hA
    refine ⟨hoth g' ?_, h5 g' hg'⟩
    rcases h1.2 with ⟨hv', _⟩ | ⟨g2, cap, cur, hv', hb, hh, _⟩
    · rw [hv'] at hg'; cases hg'
    · rw [hv'] at hg'
      have : g2 = g' := by simpa [Value.ownBlock] using hg'
      subst this
      exact hcell hh
  · simp only [Mem.setA, upd] at hx
    cases he : Nat.beq x a with
    | true =>
      have := Nat.eq_of_beq_eq_true he
      subst this
      rw [he] at hx
      injection hx with hx
      subst hx
      exact ⟨hk, hv, g, es, cl, hag, h0, hS, hat2, hes.imp (fun _ _ hh => RelC.flat (keyT_flat hk) hh) (fun _ _ hh => RelC.flat (valT_flat hv) hh)⟩
    | false =>
      rw [he] at hx
      refine (hr.ms.mps x X hx).move (fun g' hg' => ?_)
      have hne : g' ≠ g := fun e => by
        subst e
        have := hr.ms.mm x a X M hx ha (by rw [hg', hag])
        subst this
        simp at he
      obtain ⟨_, _, g2, _, _, e2, _, hS2, _, _⟩ := hr.ms.mps x X hx
      rw [hg'] at e2
      injection e2 with e2
      injection e2 with e2
      subst e2
      exact ⟨hoth g' hne, hS2⟩
  · simp only [Mem.setA, upd] at hx hy
    have hx' : ∃ X', c.m.arr x = .mp X' := by
      cases he : Nat.beq x a with
      | true => exact ⟨M, by rw [Nat.eq_of_beq_eq_true he]; exact ha⟩
      | false => rw [he] at hx; exact ⟨X, hx⟩
    have hy' : ∃ Y', c.m.arr y = .mp Y' := by
      cases he : Nat.beq y a with
      | true => exact ⟨M, by rw [Nat.eq_of_beq_eq_true he]; exact ha⟩
      | false => rw [he] at hy; exact ⟨Y, hy⟩
    obtain ⟨X', hx'⟩ := hx'
    obtain ⟨Y', hy'⟩ := hy'
    exact hr.ms.mm x y X' Y' hx' hy' e
  · simp only [Mem.setA, upd]
    cases he : Nat.beq x a with
    | true => exact ⟨by simp, fun A hA => by cases hA⟩
    | false => exact ⟨hx, fun A hA => ⟨⟨A, hA⟩, trivial⟩⟩
  · simp only [Mem.setA, upd] at hX
    cases he : Nat.beq x a with
    | true => exact ⟨⟨M, by rw [Nat.eq_of_beq_eq_true he]; exact ha⟩, rfl⟩
    | false => rw [he] at hX; exact ⟨⟨X, hX⟩, rfl⟩
theorem fresh_loose (hr : Rel E c) {e : TypeId} {t : Ty} {xs : List t.den} {cells : Array Value} (hx : RelL (RelC c.w c.S t) xs cells.toList) (hn : xs.length ≤ maxLen) :
    ∃ c', c'.m = c.m ∧ c'.w = { c.w with heap := c.w.heap.push (.cells cells e) } ∧ Rel E c' ∧ Ext c c' ∧ Loose E c' e t xs (.slice (some ⟨c.w.heap.size, 0, none⟩) xs.length xs.length) := by
  have hb := alloc_below c.w (.cells cells e)
  obtain ⟨r1, e1⟩ := below_ok hr hb (S' := c.S) (fun _ h => h) (fun _ h => .inl h)
  have hnew : ({ c.w with heap := c.w.heap.push (.cells cells e) } : World).heap[c.w.heap.size]? = some (.cells cells e (0, 0)) := by simp
  have hlen : cells.toList.length = xs.length * t.size := hx.len (fun _ _ h => RelC.len h)
  refine ⟨{ c with w := { c.w with heap := c.w.heap.push (.cells cells e) } }, rfl, rfl, r1, e1, ⟨cells.toList, ⟨hlen, .inr ⟨c.w.heap.size, xs.length, cells, rfl, hr.size, hnew, Nat.le_refl _, hn, by simpa using hlen, ?_⟩⟩, hx.imp (fun _ _ h => h.move e1.w (fun _ h => h))⟩, ?_⟩
  · rw [← hlen, List.take_length]
  · intro g hg
    have : c.w.heap.size = g := by simpa [Value.ownBlock] using hg
    subst this
    refine ⟨fun hs => Nat.lt_irrefl _ (hr.lt _ hs), fun b hb' e => ?_, fun a A hA ho hg => ?_⟩
    · cases hB : c.m.box b with
      | none => exact hb' hB
      | some B => have := hr.boxLt hB; simp only at e; omega
    · have := hr.arrLt hA ho hg; omega

theorem relV_ext {ρ : Operand → V} {ρ' : Operand → Value} {c' : Cx} (h : ∀ x, RelV P E c (ρ x) (ρ' x)) (he : Ext c c') : ∀ x, RelV P E c' (ρ x) (ρ' x) := fun x => (h x).ext he

theorem buildC_ok {ρ : Operand → V} {ρ' : Operand → Value} {ct : Ty} {place : Nat → Option (Nat × Nat)} (hpl : ∀ i t, chainTy ct i = some t → place i = some (chainOff ct i, t.size) ∧ t.good = true) :
    ∀ (l : List (Nat × Operand)) (c : Cx) (x : ct.den) (cs : List Value) (y : ct.den) (m' : Mem) (fp fp' : FP), Rel E c → (∀ x, RelV P E c (ρ x) (ρ' x)) → RelC c.w c.S ct x cs →
    (buildC ct x (l.map fun p => (p.1, ρ p.2))).ev c.m fp = some (y, m', fp') →
    ∃ S' cs', Rel E { c with S := S', m := m' } ∧ Ext c { c with S := S', m := m' } ∧ Instr.fill place cs.toArray (l.map fun p => (p.1, ρ' p.2)) = some cs'.toArray ∧ RelC c.w S' ct y cs' ∧
      ∀ i e u, chainTy ct i = some (.sl e u) → (∀ p ∈ l, p.1 ≠ i) → cs'[chainOff ct i]? = cs[chainOff ct i]?
  | [], c, x, cs, y, m', fp, fp', hr, hρ, hc, h => by
    obtain ⟨rfl, rfl⟩ := ok_inj h
    exact ⟨c.S, cs, hr, Ext.refl c, rfl, hc, fun _ _ _ _ _ => rfl⟩
  | (i, o) :: l, c, x, cs, y, m', fp, fp', hr, hρ, hc, h => by
    simp only [List.map_cons, buildC] at h
    split at h
    · rename_i d hd
      obtain ⟨z, m1, fp1, h1, h2⟩ := Res.bind_some h
      obtain ⟨S1, r1, e1, hz⟩ := asDat_ok hr (hρ o) h1
      split at h2
      · rename_i x' hx'
        obtain ⟨hty, _⟩ := chainGet_rel hc hd
        obtain ⟨hp, hgd⟩ := hpl i d.t hty
        have hv1 := (hz.v1 hgd).cells
        obtain ⟨a, m, b, ec, ha, hm, hs⟩ := chainSet_rel (hc.move e1.w e1.S) hx'
        have hnew := hs _ hv1
        obtain ⟨S2, cs2, r2, e2, hf, hR, hK⟩ := buildC_ok hpl l { c with S := S1, m := m1 } x' _ y m' fp1 fp' r1 (relV_ext hρ e1) hnew h2
        refine ⟨S2, cs2, r2, e1.trans e2, ?_, hR, fun j e' u' hj hne => ?_⟩
        · rw [List.map_cons, ec, fill_step hp (by rw [← Array.length_toList]; exact hv1.len) hm ha]
          exact hf
        · rw [hK j e' u' hj (fun p hp' => hne p (List.mem_cons_of_mem _ hp')), ec]
          have hoff := chain_off hj hty (hne (i, o) List.mem_cons_self)
          have hz1 : _ = d.t.size := hv1.len
          have hm' : m.length = d.t.size := hm
          rcases Nat.lt_or_ge (chainOff ct j) a.length with hlt | hge
          · rw [List.append_assoc, List.append_assoc, List.getElem?_append_left hlt, List.getElem?_append_left hlt]
          · rw [List.getElem?_append_right (by rw [List.length_append]; omega), List.getElem?_append_right (by rw [List.length_append]; omega), List.length_append, List.length_append, hz1, hm']
      · exact (fail_ne h2).elim
    · exact (fail_ne h).elim
theorem buildL_ok {ρ : Operand → V} {ρ' : Operand → Value} {t : Ty} (hgd : t.good = true) {place : Nat → Option (Nat × Nat)} (hpl : ∀ i, place i = some (i * t.size, t.size)) :
    ∀ (l : List (Nat × Operand)) (c : Cx) (xs : List t.den) (cs : List Value) (y : List t.den) (m' : Mem) (fp fp' : FP), Rel E c → (∀ x, RelV P E c (ρ x) (ρ' x)) → RelL (RelC c.w c.S t) xs cs →
    (buildL t xs (l.map fun p => (p.1, ρ p.2))).ev c.m fp = some (y, m', fp') →
    ∃ S' cs', Rel E { c with S := S', m := m' } ∧ Ext c { c with S := S', m := m' } ∧ Instr.fill place cs.toArray (l.map fun p => (p.1, ρ' p.2)) = some cs'.toArray ∧ RelL (RelC c.w S' t) y cs' ∧ y.length = xs.length
  | [], c, x, cs, y, m', fp, fp', hr, hρ, hc, h => by
    obtain ⟨rfl, rfl⟩ := ok_inj h
    exact ⟨c.S, cs, hr, Ext.refl c, rfl, hc, rfl⟩
  | (i, o) :: l, c, xs, cs, y, m', fp, fp', hr, hρ, hc, h => by
    simp only [List.map_cons, buildL] at h
    split at h
    · rename_i hd
      have hlt : i < xs.length := of_decide_eq_true hd
      obtain ⟨z, m1, fp1, h1, h2⟩ := Res.bind_some h
      obtain ⟨S1, r1, e1, hz⟩ := asDat_ok hr (hρ o) h1
      have hv1 := (hz.v1 hgd).cells
      obtain ⟨a, m, b, ec, ha, hm, hta, htb⟩ := (hc.imp (fun _ _ h => h.move e1.w e1.S)).at_ (fun _ _ h => RelC.len h) (getD_some hlt t.zero)
      have hnew := RelL.set hv1 hlt hta htb
      obtain ⟨S2, cs2, r2, e2, hf, hR, hl⟩ := buildL_ok hgd hpl l { c with S := S1, m := m1 } (xs.set i z) _ y m' fp1 fp' r1 (relV_ext hρ e1) hnew h2
      refine ⟨S2, cs2, r2, e1.trans e2, ?_, hR, by rw [hl, List.length_set]⟩
      rw [List.map_cons, ec, fill_step (hpl i) (by rw [← Array.length_toList]; exact hv1.len) hm.len ha]
      exact hf
    · exact (fail_ne h).elim

theorem cells_in {w : World} {g : Nat} {cs : Array Value} {tid : TypeId} (hg : w.heap[g]? = some (.cells cs tid (0, 0))) {a m b : List Value} (hc : cs.toList = a ++ m ++ b) : CellsAt w ⟨g, a.length, none⟩ m := fun i u hu => by
  have : (⟨g, a.length, none⟩ : Addr).add i = ⟨g, a.length + i, none⟩ := Addr.add_mid g a.length i
  rw [this, cell_of_row w g (a.length + i) cs tid (0, 0) hg, ← Array.getElem?_toList, hc, List.append_assoc, List.getElem?_append_right (by omega), Nat.add_sub_cancel_left,
    List.getElem?_append_left (List.getElem?_eq_some_iff.1 hu).1]
  exact hu
end
end Go.Vm
end
section
namespace Go.Vm
open Go.RowKit
set_option linter.unusedVariables false
set_option linter.unusedSimpArgs false

theorem add_add' (a : Addr) (i j : Nat) : (a.add i).add j = a.add (i + j) := by
  unfold Addr.add
  by_cases hi : i = 0
  · subst hi; simp
  · by_cases hj : j = 0
    · subst hj; simp [hi]
    · simp [hi, hj, Nat.add_assoc]
theorem add_block' (a : Addr) (i : Nat) : (a.add i).block = a.block := by unfold Addr.add; split <;> rfl
theorem getD_rel {α : Type} {R : α → List Value → Prop} {n : Nat} (h : ∀ y c, R y c → c.length = n) {xs : List α} {cs : List Value} (hr : RelL R xs cs) {j : Nat} (hj : j < xs.length) (z : α) :
    ∃ a m b, cs = a ++ m ++ b ∧ a.length = j * n ∧ R (xs.getD j z) m := by
  obtain ⟨a, m, b, e, hl, hm, _, _⟩ := hr.at_ h (getD_some hj z)
  exact ⟨a, m, b, e, hl, hm⟩
theorem CellsAt.mid {w : World} {ad : Addr} {a m b : List Value} (h : CellsAt w ad (a ++ m ++ b)) : CellsAt w (ad.add a.length) m := fun i u hu => by
  rw [add_add']
  refine h (a.length + i) u ?_
  rw [List.append_assoc, List.getElem?_append_right (by omega), Nat.add_sub_cancel_left, List.getElem?_append_left (List.getElem?_eq_some_iff.1 hu).1]
  exact hu
theorem pathTy_app : ∀ {p q : List PS} {t u : Ty}, pathTy p t = some u → pathTy (p ++ q) t = pathTy q u
  | [], q, t, u, h => by injection h with h; subst h; rfl
  | .fld i :: p, q, .st c, u, h => by
    simp only [pathTy, List.cons_append] at h ⊢
    split at h
    · exact pathTy_app h
    · cases h
  | .idx i :: p, q, .arr n t, u, h => pathTy_app (p := p) h
  | .fld _ :: _, _, .int _, _, h => by cases h
  | .fld _ :: _, _, .bool, _, h => by cases h
  | .fld _ :: _, _, .str, _, h => by cases h
  | .fld _ :: _, _, .sl _ _, _, h => by cases h
  | .fld _ :: _, _, .arr _ _, _, h => by cases h
  | .fld _ :: _, _, .mp _ _, _, h => by cases h
  | .idx _ :: _, _, .mp _ _, _, h => by cases h
  | .fld _ :: _, _, .pair _ _, _, h => by cases h
  | .fld _ :: _, _, .tup _, _, h => by cases h
  | .fld _ :: _, _, .unit, _, h => by cases h
  | .idx _ :: _, _, .int _, _, h => by cases h
  | .idx _ :: _, _, .bool, _, h => by cases h
  | .idx _ :: _, _, .str, _, h => by cases h
  | .idx _ :: _, _, .sl _ _, _, h => by cases h
  | .idx _ :: _, _, .st _, _, h => by cases h
  | .idx _ :: _, _, .pair _ _, _, h => by cases h
  | .idx _ :: _, _, .tup _, _, h => by cases h
  | .idx _ :: _, _, .unit, _, h => by cases h
theorem pathOff_app : ∀ {p q : List PS} {t u : Ty}, pathTy p t = some u → pathOff (p ++ q) t = pathOff p t + pathOff q u
  | [], q, t, u, h => by injection h with h; subst h; simp [pathOff]
  | .fld i :: p, q, .st c, u, h => by
    simp only [pathTy, List.cons_append, pathOff] at h ⊢
    split at h
    · rename_i t ht; first | (rw [ht]; simp only; rw [pathOff_app h, Nat.add_assoc]) | rw [pathOff_app h, Nat.add_assoc]
    · cases h
  | .idx i :: p, q, .arr n t, u, h => by
    simp only [List.cons_append, pathOff]
    rw [pathOff_app (p := p) h, Nat.add_assoc]
  | .fld _ :: _, _, .int _, _, h => by cases h
  | .fld _ :: _, _, .bool, _, h => by cases h
  | .fld _ :: _, _, .str, _, h => by cases h
  | .fld _ :: _, _, .sl _ _, _, h => by cases h
  | .fld _ :: _, _, .arr _ _, _, h => by cases h
  | .fld _ :: _, _, .mp _ _, _, h => by cases h
  | .idx _ :: _, _, .mp _ _, _, h => by cases h
  | .fld _ :: _, _, .pair _ _, _, h => by cases h
  | .fld _ :: _, _, .tup _, _, h => by cases h
  | .fld _ :: _, _, .unit, _, h => by cases h
  | .idx _ :: _, _, .int _, _, h => by cases h
  | .idx _ :: _, _, .bool, _, h => by cases h
  | .idx _ :: _, _, .str, _, h => by cases h
  | .idx _ :: _, _, .sl _ _, _, h => by cases h
  | .idx _ :: _, _, .st _, _, h => by cases h
  | .idx _ :: _, _, .pair _ _, _, h => by cases h
  | .idx _ :: _, _, .tup _, _, h => by cases h
  | .idx _ :: _, _, .unit, _, h => by cases h
theorem pathIn_app : ∀ {p q : List PS} {t u : Ty}, pathTy p t = some u → PathIn p t → PathIn q u → PathIn (p ++ q) t
  | [], q, t, u, h, _, hq => by injection h with h; subst h; exact hq
  | .fld i :: p, q, .st c, u, h, ⟨t, ht, hp⟩, hq => by
    simp only [pathTy, ht] at h
    exact ⟨t, ht, pathIn_app h hp hq⟩
  | .idx i :: p, q, .arr n t, u, h, ⟨h0, h1, hp⟩, hq => ⟨h0, h1, pathIn_app (p := p) h hp hq⟩
  | .fld _ :: _, _, .int _, _, _, hp, _ => hp.elim
  | .fld _ :: _, _, .bool, _, _, hp, _ => hp.elim
  | .fld _ :: _, _, .str, _, _, hp, _ => hp.elim
  | .fld _ :: _, _, .sl _ _, _, _, hp, _ => hp.elim
  | .fld _ :: _, _, .arr _ _, _, _, hp, _ => hp.elim
  | .fld _ :: _, _, .mp _ _, _, _, hp, _ => hp.elim
  | .idx _ :: _, _, .mp _ _, _, _, hp, _ => hp.elim
  | .fld _ :: _, _, .pair _ _, _, _, hp, _ => hp.elim
  | .fld _ :: _, _, .tup _, _, _, hp, _ => hp.elim
  | .fld _ :: _, _, .unit, _, _, hp, _ => hp.elim
  | .idx _ :: _, _, .int _, _, _, hp, _ => hp.elim
  | .idx _ :: _, _, .bool, _, _, hp, _ => hp.elim
  | .idx _ :: _, _, .str, _, _, hp, _ => hp.elim
  | .idx _ :: _, _, .sl _ _, _, _, hp, _ => hp.elim
  | .idx _ :: _, _, .st _, _, _, hp, _ => hp.elim
  | .idx _ :: _, _, .pair _ _, _, _, hp, _ => hp.elim
  | .idx _ :: _, _, .tup _, _, _, hp, _ => hp.elim
  | .idx _ :: _, _, .unit, _, _, hp, _ => hp.elim

section
variable {P : Program} {T : Tab} {E : Env}

def Goes (P : Program) (E : Env) (c : Cx) (ρ' : Operand → Value) (o : Oper) (v : V) (m' : Mem) : Prop :=
  ∃ c' u, c'.m = m' ∧ Rel E c' ∧ Ext c c' ∧ RelV P E c' v u ∧ ((execOp ρ' o).run P c.w = .ok (.value u) c'.w ∨ ((execOp ρ' o).run P c.w = .ok .skip c'.w ∧ u = undef))
theorem Goes.pure {c : Cx} {ρ' : Operand → Value} {o : Oper} {v : V} (hr : Rel E c) {u : Value} (hv : RelV P E c v u) (h : (execOp ρ' o).run P c.w = .ok (.value u) c.w) : Goes P E c ρ' o v c.m :=
  ⟨c, u, rfl, hr, Ext.refl c, hv, .inl h⟩

variable {c : Cx}
theorem relV_int {k : IntKind} {n : Int} {v : Value} (h : RelV P E c (.dat ⟨.int k, n⟩) v) : v = .int k n := by simpa [RelV, RelD, RelV1, RelC] using h
theorem relV_bool {b : Bool} {v : Value} (h : RelV P E c (.dat ⟨.bool, b⟩) v) : v = .bool b := by simpa [RelV, RelD, RelV1, RelC] using h
theorem relV_str {s : ByteArray} {v : Value} (h : RelV P E c (.dat ⟨.str, s⟩) v) : v = .string s := by simpa [RelV, RelD, RelV1, RelC] using h
theorem relV_intV {k : IntKind} {n : Int} : RelV P E c (intV k n) (.int k n) := rfl
theorem relV_boolV {b : Bool} : RelV P E c (boolV b) (.bool b) := rfl
theorem relV_strV {s : ByteArray} : RelV P E c (strV s) (.string s) := rfl

theorem eqGuard_int (op : BinOp) (t : TypeId) (x y : Operand) (k k' : IntKind) (a b : Int) (w : World) : (eqGuard op t x y (.int k a) (.int k' b)).run P w = .ok () w := by
  cases op <;> simp [eqGuard]
theorem eqGuard_str (op : BinOp) (t : TypeId) (x y : Operand) (a b : ByteArray) (w : World) : (eqGuard op t x y (.string a) (.string b)).run P w = .ok () w := by
  cases op <;> simp [eqGuard]
theorem eqGuard_bool (op : BinOp) (t : TypeId) (x y : Operand) (a b : Bool) (w : World) : (eqGuard op t x y (.bool a) (.bool b)).run P w = .ok () w := by
  cases op <;> simp [eqGuard]
theorem eqGuard_agg (op : BinOp) (t : TypeId) (x y : Operand) (a b : Array Value) (w : World) (h : P.eqGuardType P.depth t = false) : (eqGuard op t x y (.agg a) (.agg b)).run P w = .ok () w := by
  cases op <;> simp [eqGuard, h]

theorem binInt_ok {op : BinOp} {t : TypeId} {k : IntKind} {a b : Int} {w : World} {v : V} {m m' : Mem} {fp fp' : FP} (hs : op ≠ .shl) (hs' : op ≠ .shr) (h : (binInt op k a b).ev m fp = some (v, m', fp')) :
    m' = m ∧ ∃ u, (∀ c : Cx, RelV P E c v u) ∧ (binOp op t (.int k a) (.int k b)).run P w = .ok u w := by
  cases op <;> simp only [binInt] at h
  case add => obtain ⟨rfl, rfl⟩ := ok_inj h; exact ⟨rfl, _, fun _ => relV_intV, by simp [binOp, Op.intArith]⟩
  case sub => obtain ⟨rfl, rfl⟩ := ok_inj h; exact ⟨rfl, _, fun _ => relV_intV, by simp [binOp, Op.intArith]⟩
  case mul => obtain ⟨rfl, rfl⟩ := ok_inj h; exact ⟨rfl, _, fun _ => relV_intV, by simp [binOp, Op.intArith]⟩
  case quo =>
    obtain ⟨hb, h⟩ := Res.chk_some h
    obtain ⟨rfl, rfl⟩ := ok_inj h
    have hb' : b ≠ 0 := by simpa using hb
    exact ⟨rfl, _, fun _ => relV_intV, by simp [binOp, Op.intDiv, hb']⟩
  case rem =>
    obtain ⟨hb, h⟩ := Res.chk_some h
    obtain ⟨rfl, rfl⟩ := ok_inj h
    have hb' : b ≠ 0 := by simpa using hb
    exact ⟨rfl, _, fun _ => relV_intV, by simp [binOp, Op.intDiv, hb']⟩
  case and => obtain ⟨rfl, rfl⟩ := ok_inj h; exact ⟨rfl, _, fun _ => relV_intV, by simp [binOp, Op.intBits, bitsI]⟩
  case or => obtain ⟨rfl, rfl⟩ := ok_inj h; exact ⟨rfl, _, fun _ => relV_intV, by simp [binOp, Op.intBits, bitsI]⟩
  case xor => obtain ⟨rfl, rfl⟩ := ok_inj h; exact ⟨rfl, _, fun _ => relV_intV, by simp [binOp, Op.intBits, bitsI]⟩
  case andNot => obtain ⟨rfl, rfl⟩ := ok_inj h; exact ⟨rfl, _, fun _ => relV_intV, by simp [binOp, Op.intBits, bitsI]⟩
  case eql => obtain ⟨rfl, rfl⟩ := ok_inj h; exact ⟨rfl, _, fun _ => relV_boolV, by simp [binOp, Op.intCmp]⟩
  case neq => obtain ⟨rfl, rfl⟩ := ok_inj h; exact ⟨rfl, _, fun _ => relV_boolV, by simp [binOp, Op.intCmp]⟩
  case lss => obtain ⟨rfl, rfl⟩ := ok_inj h; exact ⟨rfl, _, fun _ => relV_boolV, by simp [binOp, Op.intCmp]⟩
  case leq => obtain ⟨rfl, rfl⟩ := ok_inj h; exact ⟨rfl, _, fun _ => relV_boolV, by simp [binOp, Op.intCmp]⟩
  case gtr => obtain ⟨rfl, rfl⟩ := ok_inj h; exact ⟨rfl, _, fun _ => relV_boolV, by simp [binOp, Op.intCmp]⟩
  case geq => obtain ⟨rfl, rfl⟩ := ok_inj h; exact ⟨rfl, _, fun _ => relV_boolV, by simp [binOp, Op.intCmp]⟩
  case shl => exact absurd rfl hs
  case shr => exact absurd rfl hs'
theorem binStr_ok {op : BinOp} {t : TypeId} {a b : ByteArray} {w : World} {v : V} {m m' : Mem} {fp fp' : FP} (h : (binStr op a b).ev m fp = some (v, m', fp')) :
    m' = m ∧ ∃ u, (∀ c : Cx, RelV P E c v u) ∧ (binOp op t (.string a) (.string b)).run P w = .ok u w := by
  cases op <;> simp only [binStr] at h
  case add =>
    obtain ⟨hb, h⟩ := Res.chk_some h
    obtain ⟨rfl, rfl⟩ := ok_inj h
    have hb' : a.size + b.size < 4294967296 := of_decide_eq_true hb
    refine ⟨rfl, _, fun _ => relV_strV, ?_⟩
    have : ¬ (((a.size + b.size : Nat) : Int) > IntKind.i64.max) := by
      have : IntKind.i64.max = 9223372036854775807 := by decide
      rw [this]; omega
    simp only [binOp, Op.stringOp]
    rw [if_neg this]
    rfl
  case eql => obtain ⟨rfl, rfl⟩ := ok_inj h; exact ⟨rfl, _, fun _ => relV_boolV, by simp [binOp, Op.stringOp, str_eq]⟩
  case neq => obtain ⟨rfl, rfl⟩ := ok_inj h; exact ⟨rfl, _, fun _ => relV_boolV, by simp [binOp, Op.stringOp, str_eq]⟩
  case lss => obtain ⟨rfl, rfl⟩ := ok_inj h; exact ⟨rfl, _, fun _ => relV_boolV, by simp [binOp, Op.stringOp, strLt]⟩
  case leq => obtain ⟨rfl, rfl⟩ := ok_inj h; exact ⟨rfl, _, fun _ => relV_boolV, by simp [binOp, Op.stringOp, str_eq, strLt]⟩
  case gtr => obtain ⟨rfl, rfl⟩ := ok_inj h; exact ⟨rfl, _, fun _ => relV_boolV, by simp [binOp, Op.stringOp, str_eq, strLt]⟩
  case geq => obtain ⟨rfl, rfl⟩ := ok_inj h; exact ⟨rfl, _, fun _ => relV_boolV, by simp [binOp, Op.stringOp, strLt]⟩
  all_goals exact (fail_ne h).elim

theorem eq_any (hT : TabOk P T) {op : BinOp} {xt : TypeId} {ty : Ty} {x y : ty.den} {w : World} {S : Nat → Prop} {u v : Value} (px py : Operand) (hxt : T xt = some ty) (hfl : ty.flat = true) (hu : RelV1 w S ty x u) (hv : RelV1 w S ty y v)
    (hop : op = .eql ∨ op = .neq) (hint : ∀ k, ty ≠ .int k) (hstr : ty ≠ .str) :
    (eqGuard op xt px py u v).run P w = .ok () w ∧ (binOp op xt u v).run P w = .ok (.bool (if op = .eql then ty.beq x y else !ty.beq x y)) w := by
  have hok := hT xt ty hxt
  have heq : (Op.equal xt u v).run P w = .ok (ty.beq x y) w := eq_ok hT ty.dep ty (Nat.le_refl _) xt Op.maxDepth w S S x y u v w hxt (by have := hok.dep; unfold Op.maxDepth; omega) hfl hu hv
  have hund := hok.und
  cases ty with
  | int k => exact absurd rfl (hint k)
  | str => exact absurd rfl hstr
  | bool =>
    have e1 : u = .bool x := by simpa [RelV1, RelC] using hu
    have e2 : v = .bool y := by simpa [RelV1, RelC] using hv
    subst e1 e2
    refine ⟨eqGuard_bool _ _ _ _ _ _ _, ?_⟩
    rcases hop with rfl | rfl <;> simp [binOp, heq]
  | sl e t => simp [Ty.flat] at hfl
  | any it st => simp [Ty.flat] at hfl
  | pt e => simp [Ty.flat] at hfl
  | iter => simp [Ty.flat] at hfl
  | mp k t => simp [Ty.flat] at hfl
  | arr n t =>
    obtain ⟨e, _, _, _, hg⟩ := hund
    obtain ⟨xs, rfl, _⟩ := hu
    obtain ⟨ys, rfl, _⟩ := hv
    refine ⟨eqGuard_agg _ _ _ _ _ _ _ hg, ?_⟩
    rcases hop with rfl | rfl <;> simp [binOp, heq]
  | st c =>
    obtain ⟨fs, _, _, _, hg⟩ := hund
    obtain ⟨xs, rfl, _⟩ := hu
    obtain ⟨ys, rfl, _⟩ := hv
    refine ⟨eqGuard_agg _ _ _ _ _ _ _ hg, ?_⟩
    rcases hop with rfl | rfl <;> simp [binOp, heq]
  | pair a b => exact hu.elim
  | tup c => exact hu.elim
  | unit => exact hu.elim

theorem binD_ok (hT : TabOk P T) {op : BinOp} {xt : TypeId} {x y : D} {px py : Operand} {u1 u2 : Value} (h1 : RelV P E c (.dat x) u1) (h2 : RelV P E c (.dat y) u2) {v : V} {m m' : Mem} {fp fp' : FP}
    (h : (binD T xt op x y).ev m fp = some (v, m', fp')) :
    m' = m ∧ ∃ u, RelV P E c v u ∧ (do eqGuard op xt px py u1 u2; binOp op xt u1 u2 : Sem Value).run P c.w = .ok u c.w := by
  unfold binD at h
  split at h
  · rename_i k a k' b
    have e1 := relV_int h1
    have e2 := relV_int h2
    subst e1 e2
    simp only [Sem.run_bind, eqGuard_int, Result.andThen_ok]
    split at h
    · obtain ⟨hb, h⟩ := Res.chk_some h
      obtain ⟨rfl, rfl⟩ := ok_inj h
      have hb' : ¬ (b : Int) < 0 := Int.not_lt.2 (of_decide_eq_true hb)
      exact ⟨rfl, _, relV_intV, by simp [binOp, Op.shift, hb', shlI]⟩
    · obtain ⟨hb, h⟩ := Res.chk_some h
      obtain ⟨rfl, rfl⟩ := ok_inj h
      have hb' : ¬ (b : Int) < 0 := Int.not_lt.2 (of_decide_eq_true hb)
      exact ⟨rfl, _, relV_intV, by simp [binOp, Op.shift, hb', shrI]⟩
    · rename_i hn1 hn2
      split at h
      · rename_i hk
        subst hk
        obtain ⟨e, u, hu, hrun⟩ := binInt_ok (P := P) (E := E) (t := xt) (w := c.w) (fun e => hn1 (by rw [e])) (fun e => hn2 (by rw [e])) h
        exact ⟨e, u, hu c, hrun⟩
      · exact (fail_ne h).elim
  · rename_i a b
    have e1 := relV_str h1
    have e2 := relV_str h2
    subst e1 e2
    simp only [Sem.run_bind, eqGuard_str, Result.andThen_ok]
    obtain ⟨e, u, hu, hrun⟩ := binStr_ok (P := P) (E := E) (t := xt) (w := c.w) h
    exact ⟨e, u, hu c, hrun⟩
  · rename_i hni hns
    split at h
    · rename_i he
      obtain ⟨ty, a⟩ := x
      obtain ⟨ty', b⟩ := y
      simp only at he
      subst he
      have hint : ∀ k, ty' ≠ .int k := fun k e => by subst e; exact hni _ _ _ _ rfl rfl
      have hstr : ty' ≠ .str := fun e => by subst e; exact hns _ _ rfl rfl
      have key : ∀ op', (op' = .eql ∨ op' = .neq) → (decide (T xt = some ty') && ty'.flat) = true → (do eqGuard op' xt px py u1 u2; binOp op' xt u1 u2 : Sem Value).run P c.w = .ok (.bool (if op' = .eql then ty'.beq a b else !ty'.beq a b)) c.w := by
        intro op' hop hc
        simp only [Bool.and_eq_true, decide_eq_true_eq] at hc
        have hg := (hT _ _ hc.1).good
        have hr := eq_any hT (x := a) (y := b) (u := u1) (v := u2) px py hc.1 hc.2 (RelD.v1 (t := ty') (x := a) hg h1) (RelD.v1 (t := ty') (x := b) hg h2) hop hint hstr
        simp only [Sem.run_bind, hr.1, Result.andThen_ok, hr.2]
      split at h
      · rename_i hc
        obtain ⟨rfl, rfl⟩ := ok_inj h
        exact ⟨rfl, _, relV_boolV, key .eql (.inl rfl) hc⟩
      · rename_i hc
        obtain ⟨rfl, rfl⟩ := ok_inj h
        exact ⟨rfl, _, relV_boolV, key .neq (.inr rfl) hc⟩
      · exact (fail_ne h).elim
    · exact (fail_ne h).elim
end
end Go.Vm
end
