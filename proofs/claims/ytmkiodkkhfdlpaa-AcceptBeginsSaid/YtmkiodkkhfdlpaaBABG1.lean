/- What the claim ABG leans on: texts joined by bundle.py, a program of ours; the words cut down to what is used. -/
import Derived.Orders
import Derived.Laws.AppendOwn
import Derived.Below
import Derived.Deep.MidRow
import Derived.Laws.StructEq
import Derived.Maps.AppendAt
section
namespace Go.Vm

inductive Ty where
  | int (k : IntKind) | bool | str
  | sl (e : TypeId) (t : Ty)
  | arr (n : Nat) (t : Ty)
  | st (c : Ty)
  | pair (a b : Ty)
  | tup (c : Ty)
  | unit
  deriving DecidableEq

abbrev Ty.i64 : Ty := .int .i64
abbrev Ty.den : Ty → Type
  | .int _ => Int
  | .bool => Bool
  | .str => ByteArray
  | .sl _ t => List t.den
  | .arr _ t => List t.den
  | .st c => c.den
  | .pair a b => a.den × b.den
  | .tup c => c.den
  | .unit => Unit

def Ty.zero : (t : Ty) → t.den
  | .int _ => (0 : Int)
  | .bool => false
  | .str => (⟨#[]⟩ : ByteArray)
  | .sl _ _ => []
  | .arr n t => List.replicate n t.zero
  | .st c => c.zero
  | .pair a b => (a.zero, b.zero)
  | .tup c => c.zero
  | .unit => ()

def Ty.size : Ty → Nat
  | .arr n t => n * t.size
  | .st c => c.size
  | .pair a b => a.size + b.size
  | .tup _ => 0
  | .unit => 0
  | _ => 1

def Ty.one : Ty → Bool
  | .int _ | .bool | .str | .sl _ _ => true
  | _ => false

def Ty.good : Ty → Bool
  | .int _ | .bool | .str | .sl _ _ => true
  | .arr _ t => t.good
  | .st c => c.good
  | .pair a b => a.good && b.good
  | .tup _ | .unit => false
def Ty.flat : Ty → Bool
  | .sl _ _ => false
  | .arr _ t => t.flat
  | .st c => c.flat
  | .pair a b => a.flat && b.flat
  | .tup c => c.flat
  | _ => true

def Ty.cast {a b : Ty} (h : a = b) (x : a.den) : b.den := h ▸ x

def Ty.beq : (t : Ty) → t.den → t.den → Bool
  | .int _, x, y => let a : Int := x; let b : Int := y; a == b
  | .bool, x, y => let a : Bool := x; let b : Bool := y; a == b
  | .str, x, y => let a : ByteArray := x; let b : ByteArray := y; decide (a = b)
  | .arr _ t, x, y => let a : List t.den := x; let b : List t.den := y; (a.zip b).all fun p => t.beq p.1 p.2
  | .st c, x, y => c.beq x y
  | .pair a b, x, y => a.beq x.1 y.1 && b.beq x.2 y.2
  | _, _, _ => false

structure D where
  t : Ty
  x : t.den

inductive PS where
  | fld (i : Nat)
  | idx (i : Int)
  deriving DecidableEq

def chainGet : (c : Ty) → c.den → Nat → Option D
  | .pair a _, x, 0 => some ⟨a, x.1⟩
  | .pair _ b, x, i + 1 => chainGet b x.2 i
  | c, x, 0 => some ⟨c, x⟩
  | _, _, _ + 1 => none

def chainSet : (c : Ty) → c.den → Nat → D → Option c.den
  | .pair a _, x, 0, d => if h : d.t = a then some (Ty.cast h d.x, x.2) else none
  | .pair _ b, x, i + 1, d => match chainSet b x.2 i d with
    | some y => some (x.1, y)
    | none => none
  | c, _, 0, d => if h : d.t = c then some (Ty.cast h d.x) else none
  | _, _, _ + 1, _ => none

def getP : (p : List PS) → (t : Ty) → t.den → Option D
  | [], t, x => some ⟨t, x⟩
  | .fld i :: p, .st c, x => match chainGet c x i with
    | some d => getP p d.t d.x
    | none => none
  | .idx i :: p, .arr _ t, x => getP p t ((x : List t.den).getD i.toNat t.zero)
  | _, _, _ => none

def setP : (p : List PS) → (t : Ty) → t.den → D → Option t.den
  | [], t, _, d => if h : d.t = t then some (Ty.cast h d.x) else none
  | .fld i :: p, .st c, x, d => match chainGet c x i with
    | some e => match setP p e.t e.x d with
      | some y => chainSet c x i ⟨e.t, y⟩
      | none => none
    | none => none
  | .idx i :: p, .arr _ t, x, d => match setP p t ((x : List t.den).getD i.toNat t.zero) d with
    | some y => some ((x : List t.den).set i.toNat y)
    | none => none
  | _, _, _, _ => none

inductive Cap where
  | ptr (b : Nat) (t : Ty)
  | dat (d : D)

inductive V where
  | bad
  | und
  | dat (d : D)
  | nils
  | own (a : Nat)
  | ptr (b : Nat) (p : List PS) (t : Ty)
  | rptr (d : D)
  | clo (f : Nat) (caps : List Cap)
  | fnp (a r : Ty) (g : a.den → Option r.den)

abbrev Box := D
structure Arr where
  e : TypeId
  t : Ty
  xs : List t.den
  open_ : Bool

inductive AS where
  | no
  | dead
  | at_ (a : Arr)

structure Mem where
  box : Nat → Option Box
  arr : Nat → AS

structure St where
  tmp : Nat → V
  mem : Mem

def upd {α : Type} (f : Nat → α) (i : Nat) (v : α) : Nat → α := fun j => bif Nat.beq j i then v else f j

def Mem.setB (m : Mem) (b : Nat) (x : Box) : Mem := { m with box := upd m.box b (some x) }
def Mem.setA (m : Mem) (a : Nat) (x : AS) : Mem := { m with arr := upd m.arr a x }

def idB (b : Nat) : Nat := 2 * b
def idA (a : Nat) : Nat := 2 * a + 1

inductive Res (α : Type) : Type 1 where
  | fail
  | ok (a : α)
  | br (b : Bool) (x y : Res α)
  | call {β : Type} (o : Option β) (f : β → Res α)
  | getB (b : Nat) (f : Option Box → Res α)
  | setB (b : Nat) (x : Box) (r : Res α)
  | getA (a : Nat) (f : AS → Res α)
  | setA (a : Nat) (x : AS) (r : Res α)

namespace Res
variable {α β : Type}
def bind : Res α → (α → Res β) → Res β
  | .fail, _ => .fail
  | .ok a, f => f a
  | .br b x y, f => .br b (x.bind f) (y.bind f)
  | .call o g, f => .call o fun u => (g u).bind f
  | .getB b g, f => .getB b fun u => (g u).bind f
  | .setB b x r, f => .setB b x (r.bind f)
  | .getA a g, f => .getA a fun u => (g u).bind f
  | .setA a x r, f => .setA a x (r.bind f)
def chk (b : Bool) (r : Res α) : Res α := .br b r .fail
end Res

structure FP where
  r : List Nat
  w : List Nat

structure Alg (R : Type) where
  br : Bool → Option R → Option R → Option R
  bd : (β : Type) → Option β → (β → Option R) → Option R
def Alg.std (R : Type) : Alg R := ⟨fun b x y => bif b then x else y, fun _ o f => o.bind f⟩

def Res.run {α R : Type} (A : Alg R) : Res α → Mem → FP → (α → Mem → FP → Option R) → Option R
  | .fail, _, _, _ => none
  | .ok a, m, fp, k => k a m fp
  | .br b x y, m, fp, k => A.br b (x.run A m fp k) (y.run A m fp k)
  | .call o f, m, fp, k => A.bd _ o fun u => (f u).run A m fp k
  | .getB b f, m, fp, k => (f (m.box b)).run A m ⟨idB b :: fp.r, fp.w⟩ k
  | .setB b x r, m, fp, k => r.run A (m.setB b x) ⟨fp.r, idB b :: fp.w⟩ k
  | .getA a f, m, fp, k => (f (m.arr a)).run A m ⟨idA a :: fp.r, fp.w⟩ k
  | .setA a x r, m, fp, k => r.run A (m.setA a x) ⟨fp.r, idA a :: fp.w⟩ k

end Go.Vm
end
section
namespace Go.Vm

inductive PK where
  | val (t : Ty) | ro (t : Ty) | rw (t : Ty) | fn (a r : Ty)
  deriving DecidableEq
abbrev PK.den : PK → Type
  | .val t => t.den
  | .ro t => t.den
  | .rw t => t.den
  | .fn a r => a.den → Option r.den
abbrev dens : List PK → Type
  | [] => Unit
  | p :: ps => p.den × dens ps
abbrev outs : List PK → Type
  | [] => Unit
  | .rw t :: ps => t.den × outs ps
  | _ :: ps => outs ps
abbrev fns : List PK → Type → Type
  | [], R => R
  | p :: ps, R => p.den → fns ps R
def app {R : Type} : (ps : List PK) → fns ps R → dens ps → R
  | [], f, _ => f
  | _ :: ps, f, a => app ps (f a.1) a.2
def cur {R : Type} : (ps : List PK) → (dens ps → R) → fns ps R
  | [], f => f ()
  | _ :: ps, f => fun x => cur ps fun a => f (x, a)

inductive Spec where
  | pu (ps : List PK) (r : Ty) (f : fns ps (Option r.den))
  | fr (ps : List PK) (e : TypeId) (t : Ty) (f : fns ps (Option (List t.den)))

abbrev Gam := Nat → Option Spec
abbrev Tab := Nat → Option Ty

def constV : Value → V
  | .int k n => .dat ⟨.int k, n⟩
  | .bool b => .dat ⟨.bool, b⟩
  | .string s => .dat ⟨.str, s⟩
  | .slice none 0 0 => .nils
  | .func (.func f) ⟨[]⟩ ⟨[]⟩ => .clo f []
  | _ => .bad

def evalV (tmp : Nat → V) : Operand → V
  | .tmp t => tmp t
  | .const v => constV v
  | .global _ => .bad
  | .func f => .clo f []

def asDat (t : Ty) : V → Res t.den
  | .dat d => if h : d.t = t then .ok (Ty.cast h d.x) else .fail
  | .nils => match t with
    | .sl _ _ => .ok []
    | _ => .fail
  | .own a => .getA a fun
    | .at_ A => if h : Ty.sl A.e A.t = t then
        match A.open_ with
        | true => .setA a (.at_ { A with open_ := false }) (.ok (Ty.cast (a := .sl A.e A.t) h A.xs))
        | false => .ok (Ty.cast (a := .sl A.e A.t) h A.xs)
      else .fail
    | _ => .fail
  | _ => .fail

def D.int? : D → Option (IntKind × Int)
  | ⟨.int k, n⟩ => some (k, n)
  | _ => none

def bitsI (op : BinOp) (k : IntKind) (x y : Int) : Int :=
  let a := BitVec.ofInt k.bits x
  let b := BitVec.ofInt k.bits y
  match op with
  | .and => k.wrap (a &&& b).toNat
  | .or => k.wrap (a ||| b).toNat
  | .xor => k.wrap (a ^^^ b).toNat
  | _ => k.wrap (a &&& ~~~b).toNat

def shlI (k : IntKind) (x y : Int) : Int := k.wrap (x * 2 ^ (min y.toNat k.bits))
def shrI (k : IntKind) (x y : Int) : Int := x.fdiv (2 ^ (min y.toNat k.bits))
def strLt (x y : ByteArray) : Bool := Op.bytesLess x.toList y.toList
def strAt (s : ByteArray) (i : Int) : Int := ((s.data.toList.getD i.toNat 0).toNat : Int)
def inI (i : Int) (n : Nat) : Bool := decide (0 ≤ i) && decide (i < (n : Int))

def intV (k : IntKind) (n : Int) : V := .dat ⟨.int k, n⟩
def boolV (b : Bool) : V := .dat ⟨.bool, b⟩
def strV (s : ByteArray) : V := .dat ⟨.str, s⟩

def binInt (op : BinOp) (k : IntKind) (x y : Int) : Res V :=
  match op with
  | .add => .ok (intV k (k.wrap (x + y)))
  | .sub => .ok (intV k (k.wrap (x - y)))
  | .mul => .ok (intV k (k.wrap (x * y)))
  | .quo => .chk (y != 0) (.ok (intV k (k.wrap (x.tdiv y))))
  | .rem => .chk (y != 0) (.ok (intV k (x.tmod y)))
  | .and | .or | .xor | .andNot => .ok (intV k (bitsI op k x y))
  | .eql => .ok (boolV (x == y))
  | .neq => .ok (boolV (x != y))
  | .lss => .ok (boolV (decide (x < y)))
  | .leq => .ok (boolV (decide (x ≤ y)))
  | .gtr => .ok (boolV (decide (x > y)))
  | .geq => .ok (boolV (decide (x ≥ y)))
  | _ => .fail
def binStr (op : BinOp) (x y : ByteArray) : Res V :=
  match op with
  | .add => .chk (decide (x.size + y.size < 4294967296)) (.ok (strV (x ++ y)))
  | .eql => .ok (boolV (decide (x = y)))
  | .neq => .ok (boolV (!decide (x = y)))
  | .lss => .ok (boolV (strLt x y))
  | .leq => .ok (boolV (strLt x y || decide (x = y)))
  | .gtr => .ok (boolV (!(strLt x y || decide (x = y))))
  | .geq => .ok (boolV (!strLt x y))
  | _ => .fail
def binD (T : Tab) (xt : TypeId) (op : BinOp) (x y : D) : Res V :=
  match x, y with
  | ⟨.int k, a⟩, ⟨.int k', b⟩ => match op with
    | .shl => .chk (decide (0 ≤ (b : Int))) (.ok (intV k (shlI k a b)))
    | .shr => .chk (decide (0 ≤ (b : Int))) (.ok (intV k (shrI k a b)))
    | op => if k = k' then binInt op k a b else .fail
  | ⟨.str, a⟩, ⟨.str, b⟩ => binStr op a b
  | x, y => if h : y.t = x.t then
      match decide (T xt = some x.t) && x.t.flat, op with
      | true, .eql => .ok (boolV (x.t.beq x.x (Ty.cast h y.x)))
      | true, .neq => .ok (boolV (!x.t.beq x.x (Ty.cast h y.x)))
      | _, _ => .fail
    else .fail
def unD (op : UnOp) : D → Res V
  | ⟨.bool, b⟩ => match op with
    | .not => .ok (boolV (!b))
    | _ => .fail
  | ⟨.int k, n⟩ => match op with
    | .neg => .ok (intV k (k.wrap (0 - n)))
    | _ => .fail
  | _ => .fail
def convD (dst : Ty) : D → Res V
  | ⟨.int _, n⟩ => match dst with
    | .int k => .ok (intV k (k.wrap n))
    | _ => .fail
  | ⟨.str, s⟩ => match dst with
    | .str => .ok (strV s)
    | _ => .fail
  | _ => .fail

def buildC : (c : Ty) → c.den → List (Nat × V) → Res c.den
  | _, x, [] => .ok x
  | c, x, (i, v) :: l => match chainGet c x i with
    | some e => (asDat e.t v).bind fun y => match chainSet c x i ⟨e.t, y⟩ with
      | some x' => buildC c x' l
      | none => .fail
    | none => .fail
def buildL (t : Ty) : List t.den → List (Nat × V) → Res (List t.den)
  | xs, [] => .ok xs
  | xs, (i, v) :: l => match decide (i < xs.length) with
    | true => (asDat t v).bind fun y => buildL t (xs.set i y) l
    | false => .fail
def chainTy : Ty → Nat → Option Ty
  | .pair a _, 0 => some a
  | .pair _ b, i + 1 => chainTy b i
  | c, 0 => some c
  | _, _ + 1 => none

def pathTy : List PS → Ty → Option Ty
  | [], t => some t
  | .fld i :: p, .st c => match chainTy c i with
    | some t => pathTy p t
    | none => none
  | .idx _ :: p, .arr _ t => pathTy p t
  | _, _ => none

def newBox (d : Nat) (t : Ty) (x : t.den) : Res V := .getB d fun
  | none => .setB d ⟨t, x⟩ (.ok (.ptr d [] t))
  | some _ => .fail
def newArr (d : Nat) (e : TypeId) (t : Ty) (xs : List t.den) : Res V := .getA d fun
  | .no => .setA d (.at_ ⟨e, t, xs, true⟩) (.ok (.own d))
  | _ => .fail
def loadV (ty : Ty) : V → Res V
  | .ptr b p t => if t = ty then .getB b fun
    | some B => match getP p B.t B.x with
      | some d => if d.t = ty then .ok (.dat d) else .fail
      | none => .fail
    | none => .fail
    else .fail
  | .rptr d => if d.t = ty then .ok (.dat d) else .fail
  | _ => .fail
def storeV (ty : Ty) (a x : V) : Res V := match a with
  | .ptr b p t => if t = ty then (asDat ty x).bind fun y => .getB b fun
    | some B => match setP p B.t B.x ⟨ty, y⟩ with
      | some z => .setB b ⟨B.t, z⟩ (.ok .bad)
      | none => .fail
    | none => .fail
    else .fail
  | _ => .fail

def capV : Cap → V
  | .ptr b t => .ptr b [] t
  | .dat d => .dat d
def toCap : V → Option Cap
  | .ptr b [] t => some (.ptr b t)
  | .dat d => some (.dat d)
  | _ => none
def toCaps : List V → Option (List Cap)
  | [] => some []
  | v :: l => match toCap v, toCaps l with
    | some c, some cs => some (c :: cs)
    | _, _ => none
def peekD (t : Ty) : V → Res t.den
  | .ptr b [] _ => .getB b fun
    | some B => if h : B.t = t then .ok (Ty.cast h B.x) else .fail
    | none => .fail
  | .rptr d => if h : d.t = t then .ok (Ty.cast h d.x) else .fail
  | _ => .fail
def capsOf (flat : Bool) : (ps : List PK) → List Cap → Res (dens ps)
  | [], [] => .ok ()
  | .val t :: ps, .dat d :: cs => if h : d.t = t then (capsOf flat ps cs).bind fun l => .ok (Ty.cast h d.x, l) else .fail
  | .ro t :: ps, c :: cs => match flat with
    | true => (peekD t (capV c)).bind fun x => (capsOf flat ps cs).bind fun l => .ok (x, l)
    | false => .fail
  | _, _ => .fail
def castF : {a' a r' r : Ty} → a' = a → r' = r → (a'.den → Option r'.den) → a.den → Option r.den
  | _, _, _, _, rfl, rfl, g => g
def fnOf (G : Gam) (a r : Ty) : V → Res (a.den → Option r.den)
  | .fnp a' r' g => if h : a' = a ∧ r' = r then .ok (castF h.1 h.2 g) else .fail
  | .clo f caps => match G f with
    | some (.pu (.val a' :: ps) r' fn) => if h : a' = a ∧ r' = r then
        (capsOf r.flat ps caps).bind fun l => .ok (castF h.1 h.2 fun x => app ps (fn x) l)
      else .fail
    | _ => .fail
  | _ => .fail
def argsOf (G : Gam) (flat : Bool) : (ps : List PK) → List V → Res (dens ps)
  | [], [] => .ok ()
  | .val t :: ps, v :: vs => (asDat t v).bind fun x => (argsOf G flat ps vs).bind fun l => .ok (x, l)
  | .ro t :: ps, v :: vs => match flat with
    | true => (peekD t v).bind fun x => (argsOf G flat ps vs).bind fun l => .ok (x, l)
    | false => .fail
  | .fn a r :: ps, v :: vs => (fnOf G a r v).bind fun g => (argsOf G flat ps vs).bind fun l => .ok (g, l)
  | _, _ => .fail
def callF (G : Gam) (dst : Option Tmp) (f : Nat) (vs : List V) : Res V :=
  match G f with
  | some (.pu ps r fn) => (argsOf G r.flat ps vs).bind fun as => .call (app ps fn as) fun y => .ok (.dat ⟨r, y⟩)
  | some (.fr ps e t fn) => match dst with
    | some d => (argsOf G false ps vs).bind fun as => .call (app ps fn as) fun ys => newArr d e t ys
    | none => .fail
  | _ => .fail

def foldInt (f : Int → Int → Int) (k : IntKind) : Int → List V → Res V
  | n, [] => .ok (intV k n)
  | n, .dat ⟨.int k', m⟩ :: l => if k = k' then foldInt f k (f n m) l else .fail
  | _, _ => .fail

def lenV : Option Ty → V → Res V
  | some (.sl _ _), .nils => .ok (intV .i64 0)
  | some (.sl _ _), .dat ⟨.sl _ _, xs⟩ => .ok (intV .i64 (xs.length : Int))
  | some .str, .dat ⟨.str, s⟩ => .ok (intV .i64 (s.size : Int))
  | some (.sl _ _), .own a => .getA a fun
    | .at_ A => .ok (intV .i64 (A.xs.length : Int))
    | _ => .fail
  | _, _ => .fail
def baseV (e : TypeId) (t : Ty) : V → Res (List t.den)
  | .nils => .ok []
  | .own a => .getA a fun
    | .at_ A => match A.open_ with
      | true => if h : Ty.sl A.e A.t = .sl e t then .setA a .dead (.ok (Ty.cast (a := .sl A.e A.t) (b := .sl e t) h A.xs)) else .fail
      | false => .fail
    | _ => .fail
  | _ => .fail
def appMax : Nat := 4294967296

def builtV (T : Tab) (dst : Option Tmp) (b : Builtin) (argTypes : List TypeId) (vs : List V) : Res V :=
  match b, argTypes, vs with
  | .len, [t], [v] => lenV (T t) v
  | .max, _, .dat ⟨.int k, n⟩ :: l => foldInt (fun a b => max a b) k n l
  | .min, _, .dat ⟨.int k, n⟩ :: l => foldInt (fun a b => min a b) k n l
  | .append, [t, t'], [s, x] => match t == t', dst, T t with
    | true, some d, some (.sl e ty) => (baseV e ty s).bind fun xs => (asDat (.sl e ty) x).bind fun ys =>
        let ys : List ty.den := ys
        .chk (decide (xs.length + ys.length < appMax)) (newArr d e ty (xs ++ ys))
    | _, _, _ => .fail
  | _, _, _ => .fail

def callV (G : Gam) (T : Tab) (dst : Option Tmp) (ρ : Operand → V) (c : Call) : Res V :=
  match c.callee with
  | .builtin b => builtV T dst b c.argTypes.toList (c.args.toList.map ρ)
  | .value f => match ρ f with
    | .clo g caps => callF G dst g (c.args.toList.map ρ ++ caps.map capV)
    | .fnp a r g => match c.args.toList with
      | [x] => (asDat a (ρ x)).bind fun y => .call (g y) fun z => .ok (.dat ⟨r, z⟩)
      | _ => .fail
    | _ => .fail
  | _ => .fail

def sliceL {α : Type} (xs : List α) (lo hi : Int) : List α := (xs.take hi.toNat).drop lo.toNat
def intOf (dflt : Int) : Option V → Option Int
  | none => some dflt
  | some (.dat ⟨.int _, n⟩) => some n
  | _ => none

def vop (G : Gam) (T : Tab) (dst : Option Tmp) (ρ : Operand → V) : Op → Res V
  | .move x => .ok (ρ x)
  | .assign x => .ok (ρ x)
  | .pick c a b => match ρ c with
    | .dat ⟨.bool, c⟩ => match ρ a, ρ b with
      | .dat x, .dat y => if h : y.t = x.t then .ok (.dat ⟨x.t, bif c then x.x else Ty.cast h y.x⟩) else .fail
      | u, v => .br c (.ok u) (.ok v)
    | _ => .fail
  | .alloc e => match dst, T e with
    | some d, some t => newBox d t t.zero
    | _, _ => .fail
  | .box e x => match dst, T e with
    | some d, some t => (asDat t (ρ x)).bind fun y => newBox d t y
    | _, _ => .fail
  | .build t ps => match T t with
    | some (.st c) => (buildC c c.zero (ps.toList.map fun p => (p.1, ρ p.2))).bind fun x => .ok (.dat ⟨.st c, x⟩)
    | some (.arr n t) => (buildL t (List.replicate n t.zero) (ps.toList.map fun p => (p.1, ρ p.2))).bind fun x => .ok (.dat ⟨.arr n t, x⟩)
    | _ => .fail
  | .buildSlice t n ps => match dst, T t, decide (n ≤ 4096) with
    | some d, some (.sl e t), true => (buildL t (List.replicate n t.zero) (ps.toList.map fun p => (p.1, ρ p.2))).bind fun x => newArr d e t x
    | _, _, _ => .fail
  | .load t a => match T t with
    | some ty => loadV ty (ρ a)
    | none => .fail
  | .store t a x => match T t with
    | some ty => storeV ty (ρ a) (ρ x)
    | none => .fail
  | .nilCheck x => match ρ x with
    | .ptr b p t => .ok (.ptr b p t)
    | .rptr d => .ok (.rptr d)
    | .clo f c => .ok (.clo f c)
    | .fnp a r g => .ok (.fnp a r g)
    | _ => .fail
  | .binOp op xt x y _ => match ρ x, ρ y with
    | .dat a, .dat b => binD T xt op a b
    | _, _ => .fail
  | .unOp op _ x => match ρ x with
    | .dat a => unD op a
    | _ => .fail
  | .convert src dst x => match T src, T dst, ρ x with
    | some _, some t, .dat a => convD t a
    | _, _, _ => .fail
  | .makeFunc fn first caps => match fn, first.toList, toCaps (caps.toList.map ρ) with
    | .func f, [], some l => .ok (.clo f l)
    | _, _, _ => .fail
  | .slice t x lo hi none => match T t with
    | some (.sl e t) => (asDat (.sl e t) (ρ x)).bind fun xs =>
        let xs : List t.den := xs
        match intOf 0 (lo.map ρ), intOf (xs.length : Int) (hi.map ρ) with
        | some l, some h => .chk (decide (0 ≤ l) && decide (l ≤ h) && decide (h ≤ (xs.length : Int))) (.ok (.dat ⟨.sl e t, sliceL xs l h⟩))
        | _, _ => .fail
    | some .str => match ρ x with
      | .dat ⟨.str, s⟩ => match intOf 0 (lo.map ρ), intOf (s.size : Int) (hi.map ρ) with
        | some l, some h => .chk (decide (0 ≤ l) && decide (l ≤ h) && decide (h ≤ (s.size : Int))) (.ok (strV (ByteArray.extract s l.toNat h.toNat)))
        | _, _ => .fail
      | _ => .fail
    | _ => .fail
  | .fieldAddr s x f => match T s, ρ x with
    | some (.st c), .ptr b p (.st c') => if c' = c then match chainTy c f with
        | some t => .ok (.ptr b (p ++ [.fld f]) t)
        | none => .fail
      else .fail
    | some (.st c), .rptr ⟨.st c', y⟩ => if c' = c then match chainGet c' y f with
        | some d => .ok (.rptr d)
        | none => .fail
      else .fail
    | _, _ => .fail
  | .field s x f => match T s, ρ x with
    | some (.st c), .dat ⟨.st c', y⟩ => if c' = c then match chainGet c' y f with
        | some d => .ok (.dat d)
        | none => .fail
      else .fail
    | _, _ => .fail
  | .indexAddr t x i => match ρ i with
    | .dat ⟨.int _, i⟩ => match T t with
      | some (.arr n t) => match ρ x with
        | .ptr b p (.arr n' t') => if n' = n ∧ t' = t then .chk (inI i n) (.ok (.ptr b (p ++ [.idx i]) t)) else .fail
        | .rptr ⟨.arr n' t', xs⟩ => if n' = n ∧ t' = t then .chk (inI i n) (.ok (.rptr ⟨t', (xs : List t'.den).getD (i : Int).toNat t'.zero⟩)) else .fail
        | _ => .fail
      | some (.sl e t) => (asDat (.sl e t) (ρ x)).bind fun xs =>
          let xs : List t.den := xs
          .chk (inI i xs.length) (.ok (.rptr ⟨t, xs.getD (i : Int).toNat t.zero⟩))
      | _ => .fail
    | _ => .fail
  | .index t x i => match ρ i, T t, ρ x with
    | .dat ⟨.int _, i⟩, some (.arr n t), .dat ⟨.arr n' t', xs⟩ => if n' = n ∧ t' = t then .chk (inI i n) (.ok (.dat ⟨t', (xs : List t'.den).getD (i : Int).toNat t'.zero⟩)) else .fail
    | .dat ⟨.int _, i⟩, some .str, .dat ⟨.str, s⟩ => .chk (inI i (ByteArray.size s)) (.ok (intV .u8 (strAt s i)))
    | _, _, _ => .fail
  | .extract x i => match ρ x with
    | .dat ⟨.tup c, y⟩ => match chainGet c y i with
      | some d => .ok (.dat d)
      | none => .fail
    | _ => .fail
  | .call c => callV G T dst ρ c
  | _ => .fail

def dstAt (ops : Array Oper) (j : Nat) : Option Tmp := (ops[j]?).bind (·.dst)
def putV (tmp : Nat → V) (dst : Option Tmp) (v : V) : Nat → V := match dst with
  | some d => upd tmp d v
  | none => tmp

def oneOp {R : Type} (A : Alg R) (G : Gam) (T : Tab) (o : Oper) (st : St) (k : St → FP → Option R) : Option R :=
  (vop G T o.dst (evalV st.tmp) o.op).run A st.mem ⟨[], []⟩ fun v m fp => k ⟨putV st.tmp o.dst v, m⟩ fp
def skipOp (o : Oper) (st : St) : St := ⟨putV st.tmp o.dst .und, st.mem⟩
def guardOp {R : Type} (A : Alg R) (G : Gam) (T : Tab) (ops : Array Oper) (o : Oper) (st : St) (k : St → FP → Option R) : Option R :=
  match o.guard with
  | none => oneOp A G T o st k
  | some (j, want) => match dstAt ops j with
    | some t => match st.tmp t with
      | .dat ⟨.bool, b⟩ =>
        let yes : St := ⟨upd st.tmp t (boolV true), st.mem⟩
        let no : St := ⟨upd st.tmp t (boolV false), st.mem⟩
        match want with
        | true => A.br b (oneOp A G T o yes k) (k (skipOp o no) ⟨[], []⟩)
        | false => A.br b (k (skipOp o yes) ⟨[], []⟩) (oneOp A G T o no k)
      | .und => k (skipOp o st) ⟨[], []⟩
      | _ => none
    | none => none
def runOps {R : Type} (A : Alg R) (G : Gam) (T : Tab) (ops : Array Oper) : List Oper → St → List FP → (St → List FP → Option R) → Option R
  | [], st, acc, k => k st acc.reverse
  | o :: os, st, acc, k => guardOp A G T ops o st fun st' fp => runOps A G T ops os st' (fp :: acc) k

def aheadGo : List Oper → List Nat → List Nat
  | [], acc => acc
  | o :: os, acc => aheadGo os (acc ++ [o.after.toList.foldl (fun s e => bif Region.binds .any e then s ||| 2 ^ e.on ||| acc.getD e.on 0 else s) 0])
def disj (l m : List Nat) : Bool := l.all fun x => !m.any fun y => Nat.beq x y
def fpOk (a b : FP) : Bool := disj a.w b.r && disj a.w b.w && disj b.w a.r
def apartOk (ops : Array Oper) (x y : Oper) : Bool := x.apart ops y
def indep (ops : Array Oper) (fps : List FP) : Bool :=
  let B := aheadGo ops.toList []
  let rows := ops.toList.zip fps
  rows.zipIdx.all fun (y, j) => (rows.take j).zipIdx.all fun (x, i) => (B.getD j 0).testBit i || (apartOk ops x.1 y.1 && fpOk x.2 y.2)

def backB (ops : Array Oper) : Bool := ops.toList.zipIdx.all fun (o, i) => o.after.toList.all fun e => !Region.binds .any e || decide (e.on < i)
def dstB (n : Nat) (ops : Array Oper) : Bool := ops.toList.all fun o => match o.dst with
  | some d => decide (d < n)
  | none => true
def region {R : Type} (A : Alg R) (G : Gam) (T : Tab) (n : Nat) (ops : Array Oper) (draw : Bool) (st : St) (k : St → Option R) : Option R :=
  match dstB n ops with
  | false => none
  | true => runOps A G T ops ops.toList st [] fun st' fps => match draw with
    | false => k st'
    | true => match indep ops fps && backB ops with
      | true => k st'
      | false => none

inductive CapK where
  | ptr (b : Nat) (ty : Ty)
  | dat (ty : Ty)
abbrev capden : List CapK → Type
  | [] => Unit
  | .ptr _ _ :: ks => capden ks
  | .dat ty :: ks => ty.den × capden ks
inductive CK where
  | rptr (t : Nat) (ty : Ty)
  | fnp (t : Nat) (a r : Ty)
  | clo (t f : Nat) (ks : List CapK)
  | tmp (t : Nat) (ty : Ty)
  | own (t : Nat) (e : TypeId) (ty : Ty)
  | ptr (t b : Nat) (ty : Ty)
  | box (b : Nat) (ty : Ty)
abbrev CK.den : CK → Type
  | .rptr _ ty => ty.den
  | .fnp _ a r => a.den → Option r.den
  | .clo _ _ ks => capden ks
  | .tmp _ ty => ty.den
  | .own _ _ ty => List ty.den
  | .ptr _ _ _ => Unit
  | .box _ ty => ty.den
abbrev cden : List CK → Type
  | [] => Unit
  | c :: cs => c.den × cden cs

def readD (t : Ty) (m : Mem) : V → Option t.den
  | .dat d => if h : d.t = t then some (Ty.cast h d.x) else none
  | .nils => match t with
    | .sl _ _ => some []
    | _ => none
  | .own a => match m.arr a with
    | .at_ A => if h : Ty.sl A.e A.t = t then some (Ty.cast (a := .sl A.e A.t) h A.xs) else none
    | _ => none
  | _ => none
def readCaps : (ks : List CapK) → List Cap → Option (capden ks)
  | [], [] => some ()
  | .ptr b ty :: ks, .ptr b' ty' :: cs => match Nat.beq b b' && decide (ty' = ty) with
    | true => readCaps ks cs
    | false => none
  | .dat ty :: ks, .dat d :: cs => if h : d.t = ty then match readCaps ks cs with
      | some l => some (Ty.cast h d.x, l)
      | none => none
    else none
  | _, _ => none
def putCaps : (ks : List CapK) → capden ks → List Cap
  | [], _ => []
  | .ptr b ty :: ks, l => .ptr b ty :: putCaps ks l
  | .dat ty :: ks, l => .dat ⟨ty, l.1⟩ :: putCaps ks l.2
def readC (st : St) : (c : CK) → Option c.den
  | .rptr t ty => match st.tmp t with
    | .rptr d => if h : d.t = ty then some (Ty.cast h d.x) else none
    | _ => none
  | .fnp t a r => match st.tmp t with
    | .fnp a' r' g => if h : a' = a ∧ r' = r then some (castF h.1 h.2 g) else none
    | _ => none
  | .clo t f ks => match st.tmp t with
    | .clo f' cs => match Nat.beq f f' with
      | true => readCaps ks cs
      | false => none
    | _ => none
  | .tmp t ty => readD ty st.mem (st.tmp t)
  | .own t e ty => match st.tmp t with
    | .nils => some []
    | .own a => match st.mem.arr a with
      | .at_ A => match A.open_ with
        | true => if h : Ty.sl A.e A.t = .sl e ty then some (Ty.cast (a := .sl A.e A.t) (b := .sl e ty) h A.xs) else none
        | false => none
      | _ => none
    | _ => none
  | .ptr t b ty => match st.tmp t with
    | .ptr b' [] ty' => match Nat.beq b b' && decide (ty' = ty) with
      | true => some ()
      | false => none
    | _ => none
  | .box b ty => match st.mem.box b with
    | some B => if h : B.t = ty then some (Ty.cast h B.x) else none
    | none => none
def readCs (st : St) : (cs : List CK) → Option (cden cs)
  | [] => some ()
  | c :: cs => match readC st c, readCs st cs with
    | some x, some l => some (x, l)
    | _, _ => none
def ownsOf (st : St) : List CK → List Nat
  | [] => []
  | .own t _ _ :: cs => match st.tmp t with
    | .own a => a :: ownsOf st cs
    | _ => ownsOf st cs
  | _ :: cs => ownsOf st cs
def nodupB : List Nat → Bool
  | [] => true
  | x :: l => !(l.any fun y => Nat.beq x y) && nodupB l
def boxB (b : Nat) (t : Ty) : List CK → Bool
  | [] => false
  | .box b' t' :: cs => Nat.beq b b' && decide (t' = t) || boxB b t cs
  | _ :: cs => boxB b t cs
def boxIn (b : Nat) : List CK → Bool
  | [] => false
  | .box b' _ :: cs => Nat.beq b b' || boxIn b cs
  | _ :: cs => boxIn b cs
def ownIn (t : Nat) : List CK → Bool
  | [] => false
  | .own t' _ _ :: cs => Nat.beq t t' || ownIn t cs
  | _ :: cs => ownIn t cs
def capsB (cs : List CK) : List CapK → Bool
  | [] => true
  | .ptr b ty :: ks => boxB b ty cs && capsB cs ks
  | .dat _ :: ks => capsB cs ks
def cutOk : List CK → Bool
  | [] => true
  | .tmp _ _ :: cs => cutOk cs
  | .rptr _ _ :: cs => cutOk cs
  | .fnp _ _ _ :: cs => cutOk cs
  | .clo _ _ ks :: cs => capsB cs ks && cutOk cs
  | .own t _ _ :: cs => !ownIn t cs && cutOk cs
  | .ptr _ b ty :: cs => boxB b ty cs && cutOk cs
  | .box b _ :: cs => !boxIn b cs && cutOk cs
def datsOf (st : St) : List CK → List Nat
  | [] => []
  | .tmp t _ :: cs => match st.tmp t with
    | .own a => a :: datsOf st cs
    | _ => datsOf st cs
  | _ :: cs => datsOf st cs
def ownBase : Nat := 100000
def putC (st : St) : (c : CK) → c.den → St
  | .rptr t ty, x => ⟨upd st.tmp t (.rptr ⟨ty, x⟩), st.mem⟩
  | .fnp t a r, x => ⟨upd st.tmp t (.fnp a r x), st.mem⟩
  | .clo t f ks, x => ⟨upd st.tmp t (.clo f (putCaps ks x)), st.mem⟩
  | .tmp t ty, x => ⟨upd st.tmp t (.dat ⟨ty, x⟩), st.mem⟩
  | .own t e ty, x => ⟨upd st.tmp t (.own (t + ownBase)), st.mem.setA (t + ownBase) (.at_ ⟨e, ty, x, true⟩)⟩
  | .ptr t b ty, _ => ⟨upd st.tmp t (.ptr b [] ty), st.mem⟩
  | .box b ty, x => ⟨st.tmp, st.mem.setB b ⟨ty, x⟩⟩
def St.empty : St := ⟨fun _ => .bad, ⟨fun _ => none, fun _ => .no⟩⟩
def putCs : (cs : List CK) → cden cs → St
  | [], _ => St.empty
  | c :: cs, l => putC (putCs cs l.2) c l.1

structure Fn (R : Type) where
  A : Alg R
  G : Gam
  T : Tab
  n : Nat
  cuts : List (Nat × List CK)
  fin : St → Option R
def cutAt : List (Nat × List CK) → Nat → Option (List CK)
  | [], _ => none
  | (i, c) :: l, j => bif Nat.beq i j then some c else cutAt l j

def runT {R : Type} (F : Fn R) (next : List Item → St → Option R) : Nat → Bool → List Item → St → Option R
  | 0, _, _, _ => none
  | _ + 1, _, [], st => F.fin st
  | s + 1, fr, .code c :: k, st => match c with
    | .skip => runT F next s fr k st
    | .label _ => runT F next s fr k st
    | .ret => F.fin st
    | .seq a b => runT F next s fr (.code a :: .code b :: k) st
    | .cond c x y => match evalV st.tmp c with
      | .dat ⟨.bool, b⟩ => F.A.br b (runT F next s fr (.code x :: k) st) (runT F next s fr (.code y :: k) st)
      | _ => none
    | .block id b => runT F next s fr (.code b :: .inBlock id :: k) st
    | .loop b => runT F next s fr (.code b :: .inLoop b :: k) st
    | .scope b => runT F next s fr (.code b :: .inScope b :: k) st
    | .exit id => match exitTo id k with
      | some k' => runT F next s fr k' st
      | none => none
    | .region id ops draw => match (bif fr then none else cutAt F.cuts id) with
      | some cs => match cutOk cs && nodupB (ownsOf st cs) && disj (datsOf st cs) (ownsOf st cs), readCs st cs with
        | true, some l => next (.code (.region id ops draw) :: k) (putCs cs l)
        | _, _ => none
      | none => region F.A F.G F.T F.n ops draw st fun st' => runT F next s false k st'
    | _ => none
  | s + 1, fr, .inBlock _ :: k, st => runT F next s fr k st
  | s + 1, fr, .inScope _ :: k, st => runT F next s fr k st
  | s + 1, fr, .inLoop b :: k, st => runT F next s fr (.code b :: .inLoop b :: k) st
  | _ + 1, _, _ :: _, _ => none
def runK {R : Type} (F : Nat → Fn R) : Nat → List Item → St → Option R
  | 0, _, _ => none
  | k + 1, todo, st => runT (F k) (runK F k) 100000 true todo st

def putP (ps : List PK) : dens ps → (i : Nat) → St → St := match ps with
  | [] => fun _ _ st => st
  | .val t :: ps => fun a i st => putP ps a.2 (i + 1) ⟨upd st.tmp i (.dat ⟨t, a.1⟩), st.mem⟩
  | .ro t :: ps => fun a i st => putP ps a.2 (i + 1) ⟨upd st.tmp i (.rptr ⟨t, a.1⟩), st.mem⟩
  | .rw t :: ps => fun a i st => putP ps a.2 (i + 1) ⟨upd st.tmp i (.ptr (i + 2 * ownBase) [] t), st.mem.setB (i + 2 * ownBase) ⟨t, a.1⟩⟩
  | .fn x r :: ps => fun a i st => putP ps a.2 (i + 1) ⟨upd st.tmp i (.fnp x r a.1), st.mem⟩

def readR (T : Tab) (st : St) (t : Ty) : ResultVar → Option t.den
  | .tmp i => readD t st.mem (st.tmp i)
  | .cell i ty => match st.tmp i, T ty with
    | .ptr b [] _, some u => match st.mem.box b with
      | some B => if h : B.t = t ∧ u = t then some (Ty.cast h.1 B.x) else none
      | none => none
    | _, _ => none
def readRs (T : Tab) (st : St) : (t : Ty) → List ResultVar → Option t.den
  | .pair a b, r :: q :: rs => match readR T st a r, readRs T st b (q :: rs) with
    | some x, some y => some (x, y)
    | _, _ => none
  | t, [r] => readR T st t r
  | _, _ => none
def finR (T : Tab) (fn : Func) (t : Ty) (st : St) : Option t.den := match t, fn.results.toList with
  | .unit, [] => some ()
  | .tup c, r :: q :: l => match c.good with
    | true => readRs T st c (r :: q :: l)
    | false => none
  | t, [r] => match t.good with
    | true => readR T st t r
    | false => none
  | _, _ => none

def Fn.of (A : (R : Type) → Alg R) (G : Nat → Gam) (T : Tab) (fn : Func) (cuts : List (Nat × List CK)) (r : Ty) (k : Nat) : Fn r.den :=
  ⟨A _, G k, T, fn.ntmps, cuts, finR T fn r⟩
def runF (A : (R : Type) → Alg R) (G : Nat → Gam) (T : Tab) (fn : Func) (cuts : List (Nat × List CK)) (ps : List PK) (r : Ty) (k : Nat) : fns ps (Option r.den) :=
  cur ps fun a => match fn.body with
    | some c => runT (Fn.of A G T fn cuts r k) (runK (Fn.of A G T fn cuts r) k) 100000 false [.code c] (putP ps a 0 St.empty)
    | none => none

def todoAt (n : Nat) : Nat → List Item → Option (List Item)
  | 0, _ => none
  | _ + 1, [] => none
  | s + 1, .code c :: k => match c with
    | .seq a b => todoAt n s (.code a :: .code b :: k)
    | .cond _ x y => match todoAt n s (.code x :: k) with
      | some l => some l
      | none => todoAt n s (.code y :: k)
    | .block id b => match todoAt n s (.code b :: .inBlock id :: k) with
      | some l => some l
      | none => todoAt n s k
    | .loop b => todoAt n s (.code b :: .inLoop b :: k)
    | .scope b => todoAt n s (.code b :: .inScope b :: k)
    | .region id ops draw => bif Nat.beq id n then some (.code (.region id ops draw) :: k) else todoAt n s k
    | .skip | .label _ => todoAt n s k
    | _ => none
  | s + 1, .inBlock _ :: k => todoAt n s k
  | s + 1, .inScope _ :: k => todoAt n s k
  | _ + 1, _ :: _ => none
def runC (A : (R : Type) → Alg R) (G : Nat → Gam) (T : Tab) (fn : Func) (cuts : List (Nat × List CK)) (r : Ty) (n : Nat) (cs : List CK) (k : Nat) (l : cden cs) : Option r.den :=
  match fn.body with
  | some c => match todoAt n 100000 [.code c] with
    | some todo => runK (Fn.of A G T fn cuts r) k todo (putCs cs l)
    | none => none
  | none => none
end Go.Vm
end
section
namespace Go.Vm
open Go.RowKit

def RelL {α : Type} (R : α → List Value → Prop) : List α → List Value → Prop
  | [], cs => cs = []
  | y :: ys, cs => ∃ c0 c1, cs = c0 ++ c1 ∧ R y c0 ∧ RelL R ys c1

def CellsAt (w : World) (ad : Addr) (cs : List Value) : Prop := ∀ (i : Nat) (u : Value), cs[i]? = some u → w.cell? (ad.add i) = some u

def RelC (w : World) (S : Nat → Prop) : (t : Ty) → t.den → List Value → Prop
  | .int k, x, cs => cs = [.int k x]
  | .bool, x, cs => cs = [.bool x]
  | .str, x, cs => cs = [.string x]
  | .sl _ t, x, cs => ∃ A c, cs = [.slice A (List.length (α := t.den) x) c] ∧ List.length (α := t.den) x ≤ c ∧
      (0 < List.length (α := t.den) x → ∃ ad inner, A = some ad ∧ S ad.block ∧ inner.length = List.length (α := t.den) x * t.size ∧ CellsAt w ad inner ∧ RelL (RelC w S t) x inner)
  | .arr n t, x, cs => List.length (α := t.den) x = n ∧ RelL (RelC w S t) x cs
  | .st c, x, cs => RelC w S c x cs
  | .pair a b, x, cs => ∃ c0 c1, cs = c0 ++ c1 ∧ RelC w S a x.1 c0 ∧ RelC w S b x.2 c1
  | .tup _, _, _ => False
  | .unit, _, _ => False

theorem RelL.imp {α : Type} {R R' : α → List Value → Prop} (h : ∀ y c, R y c → R' y c) : ∀ {ys : List α} {cs : List Value}, RelL R ys cs → RelL R' ys cs
  | [], _, hr => hr
  | _ :: _, _, ⟨c0, c1, e, h0, h1⟩ => ⟨c0, c1, e, h _ _ h0, h1.imp h⟩
theorem RelL.append {α : Type} {R : α → List Value → Prop} : ∀ {xs ys : List α} {cs ds : List Value}, RelL R xs cs → RelL R ys ds → RelL R (xs ++ ys) (cs ++ ds)
  | [], _, _, _, h, k => by cases h; exact k
  | _ :: _, _, _, _, ⟨c0, c1, e, h0, h1⟩, k => ⟨c0, c1 ++ _, by rw [e, List.append_assoc], h0, h1.append k⟩
theorem RelL.len {α : Type} {R : α → List Value → Prop} {n : Nat} (h : ∀ y c, R y c → c.length = n) : ∀ {ys : List α} {cs : List Value}, RelL R ys cs → cs.length = ys.length * n
  | [], _, hr => by cases hr; simp
  | _ :: ys, _, ⟨c0, c1, e, h0, h1⟩ => by rw [e, List.length_append, h _ _ h0, h1.len h, List.length_cons, Nat.add_mul, Nat.one_mul, Nat.add_comm]
theorem RelL.at_ {α : Type} {R : α → List Value → Prop} {n : Nat} (h : ∀ y c, R y c → c.length = n) : ∀ {ys : List α} {cs : List Value}, RelL R ys cs → ∀ {j : Nat} {y : α}, ys[j]? = some y →
    ∃ a c b, cs = a ++ c ++ b ∧ a.length = j * n ∧ R y c ∧ RelL R (ys.take j) a ∧ RelL R (ys.drop (j + 1)) b
  | [], _, _, j, y, hj => by simp at hj
  | z :: ys, cs, ⟨c0, c1, e, h0, h1⟩, 0, y, hj => by
    have : z = y := by simpa using hj
    subst this
    exact ⟨[], c0, c1, by simp [e], by simp, h0, rfl, by simpa using h1⟩
  | z :: ys, cs, ⟨c0, c1, e, h0, h1⟩, j + 1, y, hj => by
    obtain ⟨a, c, b, e2, hl, hr, ha, hb⟩ := h1.at_ h (j := j) (y := y) (by simpa using hj)
    refine ⟨c0 ++ a, c, b, by rw [e, e2]; simp [List.append_assoc], ?_, hr, ⟨c0, a, rfl, h0, ha⟩, by simpa using hb⟩
    rw [List.length_append, h _ _ h0, hl, Nat.add_mul, Nat.one_mul, Nat.add_comm]
theorem RelL.set {α : Type} {R : α → List Value → Prop} {y : α} {c : List Value} (hy : R y c) : ∀ {ys : List α} {j : Nat} {a b : List Value}, j < ys.length → RelL R (ys.take j) a → RelL R (ys.drop (j + 1)) b → RelL R (ys.set j y) (a ++ c ++ b)
  | [], j, _, _, hj, _, _ => by simp at hj
  | z :: ys, 0, a, b, _, ha, hb => by
    have : a = [] := ha
    subst this
    exact ⟨c, b, by simp, hy, by simpa using hb⟩
  | z :: ys, j + 1, a, b, hj, ha, hb => by
    obtain ⟨c0, c1, e, h0, h1⟩ := ha
    subst e
    exact ⟨c0, c1 ++ c ++ b, by simp [List.append_assoc], h0, RelL.set hy (by simpa using hj) h1 (by simpa using hb)⟩
theorem RelL.take {α : Type} {R : α → List Value → Prop} {n : Nat} (h : ∀ y c, R y c → c.length = n) : ∀ {ys : List α} {cs : List Value}, RelL R ys cs → ∀ m, RelL R (ys.take m) (cs.take (m * n))
  | [], _, hr, m => by cases hr; simp [RelL]
  | z :: ys, cs, hr, 0 => by simp [RelL]
  | z :: ys, cs, ⟨c0, c1, e, h0, h1⟩, m + 1 => by
    refine ⟨c0, c1.take (m * n), ?_, h0, h1.take h m⟩
    have hl := h _ _ h0
    rw [e, Nat.add_mul, Nat.one_mul, List.take_append, List.take_of_length_le (by omega)]
    congr 2
    omega
theorem RelL.drop {α : Type} {R : α → List Value → Prop} {n : Nat} (h : ∀ y c, R y c → c.length = n) : ∀ {ys : List α} {cs : List Value}, RelL R ys cs → ∀ m, RelL R (ys.drop m) (cs.drop (m * n))
  | [], _, hr, m => by cases hr; simp [RelL]
  | z :: ys, cs, hr, 0 => by simpa using hr
  | z :: ys, cs, ⟨c0, c1, e, h0, h1⟩, m + 1 => by
    have := h1.drop h m
    have hl := h _ _ h0
    have e3 : m * n + n - c0.length = m * n := by omega
    rw [e, Nat.add_mul, Nat.one_mul, List.drop_append, e3, List.drop_eq_nil_of_le (as := c0) (by omega), List.nil_append]
    simpa using this

theorem RelC.len {w : World} {S : Nat → Prop} : ∀ {t : Ty} {x : t.den} {cs : List Value}, RelC w S t x cs → cs.length = t.size
  | .int _, _, _, h => by rw [h]; rfl
  | .bool, _, _, h => by rw [h]; rfl
  | .str, _, _, h => by rw [h]; rfl
  | .sl _ _, _, _, ⟨_, _, e, _⟩ => by rw [e]; rfl
  | .arr n t, x, cs, ⟨hn, h⟩ => by rw [h.len (fun _ _ hh => RelC.len hh), hn]; rfl
  | .st c, _, _, h => RelC.len (t := c) h
  | .pair a b, _, _, ⟨_, _, e, h0, h1⟩ => by rw [e, List.length_append, RelC.len h0, RelC.len h1]; rfl

theorem RelL.one {α : Type} {R : α → List Value → Prop} (h : ∀ y c, R y c → ∀ u ∈ c, u.oneCell' = true) : ∀ {ys : List α} {cs : List Value}, RelL R ys cs → ∀ u ∈ cs, u.oneCell' = true
  | [], _, hr, u, hu => by cases hr; simp at hu
  | _ :: _, _, ⟨c0, c1, e, h0, h1⟩, u, hu => by
    rw [e] at hu
    rcases List.mem_append.1 hu with hu | hu
    · exact h _ _ h0 u hu
    · exact h1.one h u hu
theorem RelC.one {w : World} {S : Nat → Prop} : ∀ {t : Ty} {x : t.den} {cs : List Value}, RelC w S t x cs → ∀ u ∈ cs, u.oneCell' = true
  | .int _, _, _, h, u, hu => by rw [h] at hu; rw [List.mem_singleton.1 hu]; rfl
  | .bool, _, _, h, u, hu => by rw [h] at hu; rw [List.mem_singleton.1 hu]; rfl
  | .str, _, _, h, u, hu => by rw [h] at hu; rw [List.mem_singleton.1 hu]; rfl
  | .sl _ _, _, _, ⟨_, _, e, _⟩, u, hu => by rw [e] at hu; rw [List.mem_singleton.1 hu]; rfl
  | .arr n t, x, cs, ⟨_, h⟩, u, hu => h.one (fun _ _ hh => RelC.one hh) u hu
  | .st c, _, _, h, u, hu => RelC.one (t := c) h u hu
  | .pair a b, _, _, ⟨c0, c1, e, h0, h1⟩, u, hu => by
    rw [e] at hu
    rcases List.mem_append.1 hu with hu | hu
    · exact RelC.one h0 u hu
    · exact RelC.one h1 u hu

def SameOn (S : Nat → Prop) (w w' : World) : Prop := ∀ b, S b → w'.heap[b]? = w.heap[b]?
theorem CellsAt.move {w w' : World} {ad : Addr} {cs : List Value} (h : CellsAt w ad cs) (hb : w'.heap[ad.block]? = w.heap[ad.block]?) : CellsAt w' ad cs := fun i u hu => by
  rw [World.cell?_of_block (w := w) (a := ad.add i) (by rw [Addr.add]; split <;> exact hb)]
  exact h i u hu
theorem RelC.move {w w' : World} {S S' : Nat → Prop} (hs : SameOn S w w') (hS : ∀ b, S b → S' b) : ∀ {t : Ty} {x : t.den} {cs : List Value}, RelC w S t x cs → RelC w' S' t x cs
  | .int _, _, _, h => h
  | .bool, _, _, h => h
  | .str, _, _, h => h
  | .sl e t, x, _, ⟨A, c, e1, hl, h⟩ => ⟨A, c, e1, hl, fun hn => by
      obtain ⟨ad, inner, ha, hsb, hi, hc, hr⟩ := h hn
      exact ⟨ad, inner, ha, hS _ hsb, hi, hc.move (hs _ hsb), hr.imp (fun _ _ hh => RelC.move hs hS hh)⟩⟩
  | .arr n t, x, cs, ⟨hn, h⟩ => ⟨hn, h.imp (fun _ _ hh => RelC.move hs hS hh)⟩
  | .st c, _, _, h => RelC.move (t := c) hs hS h
  | .pair a b, _, _, ⟨c0, c1, e, h0, h1⟩ => ⟨c0, c1, e, RelC.move hs hS h0, RelC.move hs hS h1⟩

theorem RelC.flat {w w' : World} {S S' : Nat → Prop} : ∀ {t : Ty} {x : t.den} {cs : List Value}, t.flat = true → RelC w S t x cs → RelC w' S' t x cs
  | .int _, _, _, _, h => h
  | .bool, _, _, _, h => h
  | .str, _, _, _, h => h
  | .sl e t, x, _, hf, _ => by simp [Ty.flat] at hf
  | .arr n t, x, cs, hf, ⟨hn, h⟩ => ⟨hn, h.imp (fun _ _ hh => RelC.flat (by simpa [Ty.flat] using hf) hh)⟩
  | .st c, _, _, hf, h => RelC.flat (t := c) (by simpa [Ty.flat] using hf) h
  | .pair a b, _, _, hf, ⟨c0, c1, e, h0, h1⟩ => by
    simp only [Ty.flat, Bool.and_eq_true] at hf
    exact ⟨c0, c1, e, RelC.flat hf.1 h0, RelC.flat hf.2 h1⟩

def RelV1 (w : World) (S : Nat → Prop) (t : Ty) (x : t.den) (v : Value) : Prop := match t, x with
  | .st c, x => ∃ cs, v = .agg cs ∧ RelC w S (.st c) x cs.toList
  | .arr n t, x => ∃ cs, v = .agg cs ∧ RelC w S (.arr n t) x cs.toList
  | .pair _ _, _ => False
  | t, x => RelC w S t x [v]
def RelT (w : World) (S : Nat → Prop) : (c : Ty) → c.den → List Value → Prop
  | .pair a b, x, vs => ∃ v l, vs = v :: l ∧ RelV1 w S a x.1 v ∧ RelT w S b x.2 l
  | c, x, vs => ∃ v, vs = [v] ∧ RelV1 w S c x v
def RelD (w : World) (S : Nat → Prop) (t : Ty) (x : t.den) (v : Value) : Prop := match t, x with
  | .tup c, x => ∃ vs, v = .tuple vs ∧ RelT w S c x vs.toList
  | .unit, _ => v = .tuple #[]
  | t, x => RelV1 w S t x v

theorem RelV1.cells {w : World} {S : Nat → Prop} {t : Ty} {x : t.den} {v : Value} (h : RelV1 w S t x v) : RelC w S t x v.cells.toList := by
  cases t with
  | st c => obtain ⟨cs, rfl, hh⟩ := h; exact hh
  | arr n t => obtain ⟨cs, rfl, hh⟩ := h; exact hh
  | pair a b => exact h.elim
  | tup c => exact h.elim
  | unit => exact h.elim
  | int k =>
    have : v = .int k x := by simpa [RelV1, RelC] using h
    subst this; rfl
  | bool =>
    have : v = .bool x := by simpa [RelV1, RelC] using h
    subst this; rfl
  | str =>
    have : v = .string x := by simpa [RelV1, RelC] using h
    subst this; rfl
  | sl e t =>
    obtain ⟨A, c, e1, hh⟩ := h
    have : v = .slice A (List.length (α := t.den) x) c := by simpa using e1
    subst this
    exact ⟨A, c, rfl, hh⟩
theorem RelV1.move {w w' : World} {S S' : Nat → Prop} (hs : SameOn S w w') (hS : ∀ b, S b → S' b) {t : Ty} {x : t.den} {v : Value} (h : RelV1 w S t x v) : RelV1 w' S' t x v := by
  cases t with
  | st c => obtain ⟨cs, rfl, hh⟩ := h; exact ⟨cs, rfl, hh.move hs hS⟩
  | arr n t => obtain ⟨cs, rfl, hh⟩ := h; exact ⟨cs, rfl, hh.move hs hS⟩
  | pair a b => exact h.elim
  | _ => exact RelC.move (w := w) (S := S) (x := x) hs hS (show RelC w S _ x [v] from h)
theorem RelT.move {w w' : World} {S S' : Nat → Prop} (hs : SameOn S w w') (hS : ∀ b, S b → S' b) : ∀ {c : Ty} {x : c.den} {vs : List Value}, RelT w S c x vs → RelT w' S' c x vs
  | .pair _ _, _, _, ⟨v, l, e, h0, h1⟩ => ⟨v, l, e, h0.move hs hS, RelT.move hs hS h1⟩
  | .int _, _, _, ⟨v, e, h⟩ => ⟨v, e, h.move hs hS⟩
  | .bool, _, _, ⟨v, e, h⟩ => ⟨v, e, h.move hs hS⟩
  | .str, _, _, ⟨v, e, h⟩ => ⟨v, e, h.move hs hS⟩
  | .sl _ _, _, _, ⟨v, e, h⟩ => ⟨v, e, h.move hs hS⟩
  | .arr _ _, _, _, ⟨v, e, h⟩ => ⟨v, e, h.move hs hS⟩
  | .st _, _, _, ⟨v, e, h⟩ => ⟨v, e, h.move hs hS⟩
  | .tup _, _, _, ⟨v, e, h⟩ => ⟨v, e, h.move hs hS⟩
  | .unit, _, _, ⟨v, e, h⟩ => ⟨v, e, h.move hs hS⟩
theorem RelD.move {w w' : World} {S S' : Nat → Prop} (hs : SameOn S w w') (hS : ∀ b, S b → S' b) {t : Ty} {x : t.den} {v : Value} (h : RelD w S t x v) : RelD w' S' t x v := by
  cases t with
  | tup c => obtain ⟨vs, e, hh⟩ := h; exact ⟨vs, e, hh.move hs hS⟩
  | unit => exact h
  | _ => exact RelV1.move (w := w) (S := S) (x := x) hs hS (show RelV1 w S _ x v from h)
theorem RelV1.flat {w w' : World} {S S' : Nat → Prop} {t : Ty} {x : t.den} {v : Value} (hf : t.flat = true) (h : RelV1 w S t x v) : RelV1 w' S' t x v := by
  cases t with
  | st c => obtain ⟨cs, rfl, hh⟩ := h; exact ⟨cs, rfl, hh.flat hf⟩
  | arr n t => obtain ⟨cs, rfl, hh⟩ := h; exact ⟨cs, rfl, hh.flat hf⟩
  | pair a b => exact h.elim
  | _ => exact RelC.flat (w := w) (w' := w') (S := S) (S' := S') (x := x) hf (show RelC w S _ x [v] from h)
theorem RelT.flat {w w' : World} {S S' : Nat → Prop} : ∀ {c : Ty} {x : c.den} {vs : List Value}, c.flat = true → RelT w S c x vs → RelT w' S' c x vs
  | .pair a b, _, _, hf, ⟨v, l, e, h0, h1⟩ => by
    simp only [Ty.flat, Bool.and_eq_true] at hf
    exact ⟨v, l, e, h0.flat hf.1, RelT.flat hf.2 h1⟩
  | .int _, _, _, hf, ⟨v, e, h⟩ => ⟨v, e, h.flat hf⟩
  | .bool, _, _, hf, ⟨v, e, h⟩ => ⟨v, e, h.flat hf⟩
  | .str, _, _, hf, ⟨v, e, h⟩ => ⟨v, e, h.flat hf⟩
  | .sl _ _, _, _, hf, ⟨v, e, h⟩ => ⟨v, e, h.flat hf⟩
  | .arr _ _, _, _, hf, ⟨v, e, h⟩ => ⟨v, e, h.flat hf⟩
  | .st _, _, _, hf, ⟨v, e, h⟩ => ⟨v, e, h.flat hf⟩
  | .tup _, _, _, hf, ⟨v, e, h⟩ => ⟨v, e, h.flat hf⟩
  | .unit, _, _, hf, ⟨v, e, h⟩ => ⟨v, e, h.flat hf⟩
theorem RelD.flat {w w' : World} {S S' : Nat → Prop} {t : Ty} {x : t.den} {v : Value} (hf : t.flat = true) (h : RelD w S t x v) : RelD w' S' t x v := by
  cases t with
  | tup c => obtain ⟨vs, e, hh⟩ := h; exact ⟨vs, e, hh.flat (by simpa [Ty.flat] using hf)⟩
  | unit => exact h
  | _ => exact RelV1.flat (w := w) (w' := w') (S := S) (S' := S') (x := x) hf (show RelV1 w S _ x v from h)

def Ty.zc : Ty → List Value
  | .int k => [.int k 0]
  | .bool => [.bool false]
  | .str => [.string ⟨#[]⟩]
  | .sl _ _ => [.slice none 0 0]
  | .arr n t => (List.replicate n t.zc).flatten
  | .st c => c.zc
  | .pair a b => a.zc ++ b.zc
  | .tup _ => []
  | .unit => []
theorem relC_zero (w : World) (S : Nat → Prop) : ∀ (t : Ty), t.good = true → RelC w S t t.zero t.zc
  | .int _, _ => rfl
  | .bool, _ => rfl
  | .str, _ => rfl
  | .sl _ _, _ => ⟨none, 0, rfl, Nat.le_refl _, fun h => absurd h (Nat.lt_irrefl 0)⟩
  | .arr n t, hg => by
    refine ⟨by simp [Ty.zero], ?_⟩
    have ih := relC_zero w S t (by simpa [Ty.good] using hg)
    clear hg
    induction n with
    | zero => simp [Ty.zero, Ty.zc, RelL]
    | succ n ihn => exact ⟨t.zc, (List.replicate n t.zc).flatten, by simp [Ty.zc, List.replicate_succ], ih, by simpa [Ty.zero, Ty.zc] using ihn⟩
  | .st c, hg => relC_zero w S c (by simpa [Ty.good] using hg)
  | .pair a b, hg => by
    simp only [Ty.good, Bool.and_eq_true] at hg
    exact ⟨a.zc, b.zc, rfl, relC_zero w S a hg.1, relC_zero w S b hg.2⟩
  | .tup _, hg => by simp [Ty.good] at hg
  | .unit, hg => by simp [Ty.good] at hg

def Ty.dep : Ty → Nat
  | .sl _ t => t.dep + 1
  | .arr _ t => t.dep + 1
  | .st c => c.dep + 1
  | .pair a b => max a.dep b.dep
  | .tup c => c.dep + 1
  | _ => 0
def Ty.isPair : Ty → Bool
  | .pair _ _ => true
  | _ => false
def Flds (T : Tab) : List Field → Nat → Ty → Prop
  | f :: fs, off, .pair a b => T f.type = some a ∧ 0 < a.size ∧ f.offset = off ∧ f.name ≠ "_" ∧ Flds T fs (off + a.size) b
  | [f], off, c => T f.type = some c ∧ 0 < c.size ∧ f.offset = off ∧ f.name ≠ "_"
  | _, _, _ => False
def Und (P : Program) (T : Tab) (tid : TypeId) : Ty → Prop
  | .int k => P.underlying tid = some (.int k)
  | .bool => P.underlying tid = some .bool
  | .str => P.underlying tid = some .string
  | .sl e t => P.underlying tid = some (.slice e) ∧ T e = some t ∧ 0 < t.size
  | .arr n t => ∃ e, P.underlying tid = some (.array n e) ∧ T e = some t ∧ 0 < t.size ∧ P.eqGuardType P.depth tid = false
  | .st c => ∃ fs, P.underlying tid = some (.struct fs) ∧ Flds T fs.toList 0 c ∧ P.stoodInHeld tid = false ∧ P.eqGuardType P.depth tid = false
  | _ => False
structure TyOk (P : Program) (T : Tab) (tid : TypeId) (ty : Ty) : Prop where
  good : ty.good = true
  pos : 0 < ty.size
  info : ∃ i z, P.info? tid = some i ∧ i.size = ty.size ∧ i.zero = some z ∧ z.cells.toList = ty.zc ∧ i.bytes ≤ 16384
  und : Und P T tid ty
  dep : ty.dep < 1000
  small : ty.size ≤ 4096
def TabOk (P : Program) (T : Tab) : Prop := ∀ tid ty, T tid = some ty → TyOk P T tid ty

def zB : Value → Value → Bool
  | .int k n, .int k' n' => decide (k = k') && n == n'
  | .bool a, .bool b => a == b
  | .string a, .string b => decide (a = b)
  | .slice none 0 0, .slice none 0 0 => true
  | _, _ => false
def zsB : List Value → List Value → Bool
  | [], [] => true
  | a :: as, b :: bs => zB a b && zsB as bs
  | _, _ => false
theorem zB_eq {a b : Value} (h : zB a b = true) : a = b := by
  unfold zB at h
  split at h <;> simp_all
theorem zsB_eq : ∀ {as bs : List Value}, zsB as bs = true → as = bs
  | [], [], _ => rfl
  | a :: as, b :: bs, h => by
    simp only [zsB, Bool.and_eq_true] at h
    rw [zB_eq h.1, zsB_eq h.2]
  | [], _ :: _, h => by simp [zsB] at h
  | _ :: _, [], h => by simp [zsB] at h
def isTy (T : Tab) (i : Nat) (t : Ty) : Bool := match T i with
  | some u => decide (u = t)
  | none => false
theorem isTy_eq {T : Tab} {i : Nat} {t : Ty} (h : isTy T i t = true) : T i = some t := by
  unfold isTy at h
  split at h
  · rename_i u hu; rw [hu, of_decide_eq_true h]
  · simp at h
def fldsB (T : Tab) : List Field → Nat → Ty → Bool
  | f :: fs, off, .pair a b => isTy T f.type a && decide (0 < a.size) && decide (f.offset = off) && !(f.name == "_") && fldsB T fs (off + a.size) b
  | [f], off, c => isTy T f.type c && decide (0 < c.size) && decide (f.offset = off) && !(f.name == "_")
  | _, _, _ => false
theorem fldsB_ok {T : Tab} : ∀ {fs : List Field} {off : Nat} {c : Ty}, fldsB T fs off c = true → Flds T fs off c
  | [], _, c, h => by cases c <;> simp [fldsB] at h
  | f :: fs, off, .pair a b, h => by
    simp only [fldsB, Bool.and_eq_true, decide_eq_true_eq, Bool.not_eq_true', beq_eq_false_iff_ne] at h
    obtain ⟨⟨⟨⟨h1, h2⟩, h3⟩, h4⟩, h5⟩ := h
    exact ⟨isTy_eq h1, h2, h3, h4, fldsB_ok h5⟩
  | [f], off, .int k, h => by
    simp only [fldsB, Bool.and_eq_true, decide_eq_true_eq, Bool.not_eq_true', beq_eq_false_iff_ne] at h
    exact ⟨isTy_eq h.1.1.1, h.1.1.2, h.1.2, h.2⟩
  | [f], off, .bool, h => by
    simp only [fldsB, Bool.and_eq_true, decide_eq_true_eq, Bool.not_eq_true', beq_eq_false_iff_ne] at h
    exact ⟨isTy_eq h.1.1.1, h.1.1.2, h.1.2, h.2⟩
  | [f], off, .str, h => by
    simp only [fldsB, Bool.and_eq_true, decide_eq_true_eq, Bool.not_eq_true', beq_eq_false_iff_ne] at h
    exact ⟨isTy_eq h.1.1.1, h.1.1.2, h.1.2, h.2⟩
  | [f], off, .sl _ _, h => by
    simp only [fldsB, Bool.and_eq_true, decide_eq_true_eq, Bool.not_eq_true', beq_eq_false_iff_ne] at h
    exact ⟨isTy_eq h.1.1.1, h.1.1.2, h.1.2, h.2⟩
  | [f], off, .arr _ _, h => by
    simp only [fldsB, Bool.and_eq_true, decide_eq_true_eq, Bool.not_eq_true', beq_eq_false_iff_ne] at h
    exact ⟨isTy_eq h.1.1.1, h.1.1.2, h.1.2, h.2⟩
  | [f], off, .st _, h => by
    simp only [fldsB, Bool.and_eq_true, decide_eq_true_eq, Bool.not_eq_true', beq_eq_false_iff_ne] at h
    exact ⟨isTy_eq h.1.1.1, h.1.1.2, h.1.2, h.2⟩
  | [f], off, .tup _, h => by
    simp only [fldsB, Bool.and_eq_true, decide_eq_true_eq, Bool.not_eq_true', beq_eq_false_iff_ne] at h
    exact ⟨isTy_eq h.1.1.1, h.1.1.2, h.1.2, h.2⟩
  | [f], off, .unit, h => by
    simp only [fldsB, Bool.and_eq_true, decide_eq_true_eq, Bool.not_eq_true', beq_eq_false_iff_ne] at h
    exact ⟨isTy_eq h.1.1.1, h.1.1.2, h.1.2, h.2⟩
  | _ :: _ :: _, _, .int _, h => by simp [fldsB] at h
  | _ :: _ :: _, _, .bool, h => by simp [fldsB] at h
  | _ :: _ :: _, _, .str, h => by simp [fldsB] at h
  | _ :: _ :: _, _, .sl _ _, h => by simp [fldsB] at h
  | _ :: _ :: _, _, .arr _ _, h => by simp [fldsB] at h
  | _ :: _ :: _, _, .st _, h => by simp [fldsB] at h
  | _ :: _ :: _, _, .tup _, h => by simp [fldsB] at h
  | _ :: _ :: _, _, .unit, h => by simp [fldsB] at h
def undB (P : Program) (T : Tab) (tid : TypeId) (ty : Ty) : Bool := match P.underlying tid, ty with
  | some (.int k), .int k' => decide (k = k')
  | some .bool, .bool => true
  | some .string, .str => true
  | some (.slice e), .sl e' t => decide (e = e') && isTy T e t && decide (0 < t.size)
  | some (.array n e), .arr n' t => decide (n = n') && isTy T e t && decide (0 < t.size) && !P.eqGuardType P.depth tid
  | some (.struct fs), .st c => fldsB T fs.toList 0 c && !P.stoodInHeld tid && !P.eqGuardType P.depth tid
  | _, _ => false
theorem undB_ok {P : Program} {T : Tab} {tid : TypeId} {ty : Ty} (h : undB P T tid ty = true) : Und P T tid ty := by
  unfold undB at h
  split at h
  · rename_i hk; rw [of_decide_eq_true h] at hk; exact hk
  · assumption
  · assumption
  · rename_i e e' t hk
    simp only [Bool.and_eq_true, decide_eq_true_eq] at h
    obtain ⟨⟨rfl, h2⟩, h3⟩ := h
    exact ⟨hk, isTy_eq h2, h3⟩
  · rename_i n e n' t hk
    simp only [Bool.and_eq_true, decide_eq_true_eq, Bool.not_eq_true'] at h
    obtain ⟨⟨⟨rfl, h2⟩, h3⟩, h4⟩ := h
    exact ⟨e, hk, isTy_eq h2, h3, h4⟩
  · rename_i fs c hk
    simp only [Bool.and_eq_true, Bool.not_eq_true'] at h
    exact ⟨fs, hk, fldsB_ok h.1.1, h.1.2, h.2⟩
  · simp at h
def rowB (P : Program) (T : Tab) (tid : TypeId) (ty : Ty) : Bool :=
  ty.good && decide (0 < ty.size) && decide (ty.size ≤ 4096) && decide (ty.dep < 1000) && undB P T tid ty && match P.info? tid with
    | some i => decide (i.size = ty.size) && decide (i.bytes ≤ 16384) && match i.zero with
      | some z => zsB z.cells.toList ty.zc
      | none => false
    | none => false
def tabOf : List (Nat × Ty) → Tab
  | [], _ => none
  | (i, t) :: l, j => bif Nat.beq i j then some t else tabOf l j
def tabB (P : Program) (l : List (Nat × Ty)) : Bool := l.all fun r => rowB P (tabOf l) r.1 r.2
theorem tabOf_mem : ∀ {l : List (Nat × Ty)} {i : Nat} {t : Ty}, tabOf l i = some t → (i, t) ∈ l
  | [], _, _, h => by simp [tabOf] at h
  | (j, u) :: l, i, t, h => by
    unfold tabOf at h
    cases hb : Nat.beq j i with
    | true =>
      rw [hb] at h
      have := Nat.eq_of_beq_eq_true hb
      simp at h
      subst this; subst h
      exact List.mem_cons_self
    | false =>
      rw [hb] at h
      exact List.mem_cons_of_mem _ (tabOf_mem (by simpa using h))
theorem tabOk_of {P : Program} {l : List (Nat × Ty)} (h : tabB P l = true) : TabOk P (tabOf l) := fun tid ty ht => by
  have hr := (List.all_eq_true.1 h) _ (tabOf_mem ht)
  unfold rowB at hr
  simp only [Bool.and_eq_true, decide_eq_true_eq] at hr
  obtain ⟨⟨⟨⟨⟨h1, h2⟩, hs⟩, hd⟩, h3⟩, h4⟩ := hr
  refine ⟨h1, h2, ?_, undB_ok h3, hd, hs⟩
  split at h4
  · rename_i i hi
    simp only [Bool.and_eq_true, decide_eq_true_eq] at h4
    obtain ⟨⟨h5, h6⟩, h7⟩ := h4
    split at h7
    · rename_i z hz; exact ⟨i, z, hi, h5, hz, zsB_eq h7, h6⟩
    · simp at h7
  · simp at h4
end Go.Vm
end
section
namespace Go.Vm
open Go.RowKit
set_option linter.unusedVariables false

def Res.ev {α : Type} : Res α → Mem → FP → Option (α × Mem × FP)
  | .fail, _, _ => none
  | .ok a, m, fp => some (a, m, fp)
  | .br b x y, m, fp => bif b then x.ev m fp else y.ev m fp
  | .call o f, m, fp => o.bind fun u => (f u).ev m fp
  | .getB b f, m, fp => (f (m.box b)).ev m ⟨idB b :: fp.r, fp.w⟩
  | .setB b x r, m, fp => r.ev (m.setB b x) ⟨fp.r, idB b :: fp.w⟩
  | .getA a f, m, fp => (f (m.arr a)).ev m ⟨idA a :: fp.r, fp.w⟩
  | .setA a x r, m, fp => r.ev (m.setA a x) ⟨fp.r, idA a :: fp.w⟩
theorem Res.run_std {α R : Type} (k : α → Mem → FP → Option R) : ∀ (r : Res α) (m : Mem) (fp : FP), r.run (Alg.std R) m fp k = (r.ev m fp).bind fun p => k p.1 p.2.1 p.2.2
  | .fail, _, _ => rfl
  | .ok _, _, _ => rfl
  | .br b x y, m, fp => by
    cases b
    · exact Res.run_std k y m fp
    · exact Res.run_std k x m fp
  | .call o f, m, fp => by
    cases o with
    | none => rfl
    | some u => exact Res.run_std k (f u) m fp
  | .getB b f, m, fp => Res.run_std k (f (m.box b)) m _
  | .setB b x r, m, fp => Res.run_std k r _ _
  | .getA a f, m, fp => Res.run_std k (f (m.arr a)) m _
  | .setA a x r, m, fp => Res.run_std k r _ _
theorem Res.ev_bind {α β : Type} (f : α → Res β) : ∀ (r : Res α) (m : Mem) (fp : FP), (r.bind f).ev m fp = (r.ev m fp).bind fun p => (f p.1).ev p.2.1 p.2.2
  | .fail, _, _ => rfl
  | .ok _, _, _ => rfl
  | .br b x y, m, fp => by
    cases b
    · exact Res.ev_bind f y m fp
    · exact Res.ev_bind f x m fp
  | .call o g, m, fp => by
    cases o with
    | none => rfl
    | some u => exact Res.ev_bind f (g u) m fp
  | .getB b g, m, fp => Res.ev_bind f (g (m.box b)) m _
  | .setB b x r, m, fp => Res.ev_bind f r _ _
  | .getA a g, m, fp => Res.ev_bind f (g (m.arr a)) m _
  | .setA a x r, m, fp => Res.ev_bind f r _ _
theorem Res.bind_some {α β : Type} {f : α → Res β} {r : Res α} {m m' : Mem} {fp fp' : FP} {b : β} (h : (r.bind f).ev m fp = some (b, m', fp')) :
    ∃ a m1 fp1, r.ev m fp = some (a, m1, fp1) ∧ (f a).ev m1 fp1 = some (b, m', fp') := by
  rw [Res.ev_bind] at h
  cases he : r.ev m fp with
  | none => rw [he] at h; cases h
  | some p => rw [he] at h; exact ⟨p.1, p.2.1, p.2.2, rfl, h⟩
theorem Res.chk_some {α : Type} {c : Bool} {r : Res α} {m m' : Mem} {fp fp' : FP} {b : α} (h : (Res.chk c r).ev m fp = some (b, m', fp')) :
    c = true ∧ r.ev m fp = some (b, m', fp') := by
  cases c with
  | false => cases h
  | true => exact ⟨rfl, h⟩

structure Env where
  w0 : World
  S0 : Nat → Prop
  W0 : Nat → Prop
structure Cx where
  S : Nat → Prop
  bx : Nat → Nat
  ar : Nat → Value
  m : Mem
  w : World

def RelA (E : Env) (w : World) (S : Nat → Prop) (A : Arr) (v : Value) : Prop :=
  if A.open_ = true then ∃ inner, w.ownsRow E.w0.heap.size A.e A.t.size v A.xs.length inner ∧ RelL (RelC w S A.t) A.xs inner ∧ ∀ g, v.ownBlock = some g → ¬ S g
  else RelC w S (.sl A.e A.t) A.xs [v]

structure Rel (E : Env) (c : Cx) : Prop where
  os : c.w.os = E.w0.os
  tape : c.w.tape = E.w0.tape
  output : c.w.output = E.w0.output
  size : E.w0.heap.size ≤ c.w.heap.size
  keep : ∀ b, b < E.w0.heap.size → ¬ E.W0 b → c.w.heap[b]? = E.w0.heap[b]?
  old : ∀ b, E.S0 b → c.S b
  lt : ∀ b, c.S b → b < c.w.heap.size
  new : ∀ b, c.S b → E.S0 b ∨ E.w0.heap.size ≤ b
  box : ∀ b B, c.m.box b = some B → ∃ cs tid, c.w.heap[c.bx b]? = some (.cells cs tid (0, 0)) ∧ RelC c.w c.S B.t B.x cs.toList
  priv : ∀ b, c.m.box b ≠ none → (E.w0.heap.size ≤ c.bx b ∨ E.W0 (c.bx b)) ∧ ¬ c.S (c.bx b)
  arr : ∀ a A, c.m.arr a = .at_ A → RelA E c.w c.S A (c.ar a)
  bb : ∀ b b', c.m.box b ≠ none → c.m.box b' ≠ none → c.bx b = c.bx b' → b = b'
  aa : ∀ a a' A A' g, c.m.arr a = .at_ A → c.m.arr a' = .at_ A' → A.open_ = true → A'.open_ = true → (c.ar a).ownBlock = some g → (c.ar a').ownBlock = some g → a = a'
  ba : ∀ b a A, c.m.box b ≠ none → c.m.arr a = .at_ A → A.open_ = true → (c.ar a).ownBlock ≠ some (c.bx b)

theorem Rel.boxLt {E : Env} {c : Cx} (h : Rel E c) {b : Nat} {B : Box} (hb : c.m.box b = some B) : c.bx b < c.w.heap.size := by
  obtain ⟨cs, tid, hh, _⟩ := h.box b B hb
  exact (Array.getElem?_eq_some_iff.1 hh).1

def chainOff : Ty → Nat → Nat
  | .pair a b, i + 1 => a.size + chainOff b i
  | _, _ => 0
def pathOff : List PS → Ty → Nat
  | [], _ => 0
  | .fld i :: p, .st c => chainOff c i + match chainTy c i with
    | some t => pathOff p t
    | none => 0
  | .idx i :: p, .arr _ t => i.toNat * t.size + pathOff p t
  | _, _ => 0
def PathIn : List PS → Ty → Prop
  | [], _ => True
  | .fld i :: p, .st c => ∃ t, chainTy c i = some t ∧ PathIn p t
  | .idx i :: p, .arr n t => 0 ≤ i ∧ i < (n : Int) ∧ PathIn p t
  | _, _ => False

def Ext' (S : Nat → Prop) (w w' : World) : Nat → Prop := fun b => S b ∨ (w.heap.size ≤ b ∧ b < w'.heap.size)
def Ret (w : World) (S : Nat → Prop) (r : Ty) (y : r.den) (e : Ending) (w' : World) : Prop :=
  ∃ v, e = .returned v ∧ RelD w' (Ext' S w w') r y v ∧ Below w.heap.size w w'
def Enters (P : Program) (f : FuncId) : Prop := ∀ args w, (callFunc f args).run P w = .ok (.enter f args) w
def RelFn (P : Program) (w : World) (S S1 : Nat → Prop) (a r : Ty) (g : a.den → Option r.den) (v : Value) : Prop :=
  ∃ f cv, v = .func (.func f) #[] cv ∧ Enters P f ∧ ∀ (w' : World) (S' : Nat → Prop), SameOn S1 w w' → (∀ b, S b → S' b) → (∀ b, S' b → b < w'.heap.size) → w.heap.size ≤ w'.heap.size →
    ∀ x vx y, RelD w' S' a x vx → g x = some y → Calls P f (#[vx] ++ cv) w' (Ret w' S' r y)
def RelP (w : World) (S : Nat → Prop) (t : Ty) (x : t.den) (v : Value) : Prop :=
  ∃ ad cs, v = .pointer (some ad) ∧ S ad.block ∧ RelC w S t x cs ∧ CellsAt w ad cs
def RelCap (c : Cx) : Cap → Value → Prop
  | .ptr b t, v => (∃ B, c.m.box b = some B ∧ B.t = t) ∧ v = .pointer (some ⟨c.bx b, 0, none⟩)
  | .dat d, v => RelD c.w c.S d.t d.x v
def RelCaps (c : Cx) : List Cap → List Value → Prop
  | [], vs => vs = []
  | k :: ks, vs => ∃ v l, vs = v :: l ∧ RelCap c k v ∧ RelCaps c ks l

def RelV (P : Program) (E : Env) (c : Cx) : V → Value → Prop
  | .bad, _ => True
  | .und, v => v = undef
  | .dat d, v => RelD c.w c.S d.t d.x v
  | .nils, v => v = .slice none 0 0
  | .own a, v => c.m.arr a ≠ .no ∧ ∀ A, c.m.arr a = .at_ A → v = c.ar a
  | .ptr b p t, v => ∃ B, c.m.box b = some B ∧ pathTy p B.t = some t ∧ PathIn p B.t ∧ v = .pointer (some ⟨c.bx b, pathOff p B.t, none⟩)
  | .rptr d, v => RelP c.w c.S d.t d.x v
  | .clo f caps, v => ∃ cv, v = .func (.func f) #[] cv ∧ RelCaps c caps cv.toList
  | .fnp a r g, v => ∃ S1, (∀ b, S1 b → b < E.w0.heap.size ∧ ¬ E.W0 b) ∧ RelFn P E.w0 E.S0 S1 a r g v

structure Ext (c c' : Cx) : Prop where
  S : ∀ b, c.S b → c'.S b
  w : SameOn c.S c.w c'.w
  box : ∀ b B, c.m.box b = some B → ∃ B', c'.m.box b = some B' ∧ B'.t = B.t ∧ c'.bx b = c.bx b
  arr : ∀ a, c.m.arr a ≠ .no → c'.m.arr a ≠ .no ∧ ∀ A', c'.m.arr a = .at_ A' → (∃ A, c.m.arr a = .at_ A) ∧ c'.ar a = c.ar a
theorem Ext.refl (c : Cx) : Ext c c := ⟨fun _ h => h, fun _ _ => rfl, fun _ B h => ⟨B, h, rfl, rfl⟩, fun _ h => ⟨h, fun A h => ⟨⟨A, h⟩, rfl⟩⟩⟩
theorem Ext.trans {a b c : Cx} (h : Ext a b) (k : Ext b c) : Ext a c :=
  ⟨fun i hi => k.S i (h.S i hi), fun i hi => (k.w i (h.S i hi)).trans (h.w i hi),
   fun i B hB => by
    obtain ⟨B1, e1, t1, x1⟩ := h.box i B hB
    obtain ⟨B2, e2, t2, x2⟩ := k.box i B1 e1
    exact ⟨B2, e2, t2.trans t1, x2.trans x1⟩,
   fun i hi => by
    obtain ⟨h1, h2⟩ := h.arr i hi
    obtain ⟨k1, k2⟩ := k.arr i h1
    refine ⟨k1, fun A hA => ?_⟩
    obtain ⟨⟨A1, e1⟩, x1⟩ := k2 A hA
    obtain ⟨A2, x2⟩ := h2 A1 e1
    exact ⟨A2, x1.trans x2⟩⟩
theorem RelP.move {w w' : World} {S S' : Nat → Prop} (hs : SameOn S w w') (hS : ∀ b, S b → S' b) {t : Ty} {x : t.den} {v : Value} (h : RelP w S t x v) : RelP w' S' t x v := by
  obtain ⟨ad, cs, e, hb, hr, hc⟩ := h
  exact ⟨ad, cs, e, hS _ hb, hr.move hs hS, hc.move (hs _ hb)⟩
theorem RelCap.ext {c c' : Cx} (h : Ext c c') : ∀ {k : Cap} {v : Value}, RelCap c k v → RelCap c' k v
  | .ptr b t, v, ⟨⟨B, hb, ht⟩, h2⟩ => by
    obtain ⟨B', e, t', x⟩ := h.box b B hb
    exact ⟨⟨B', e, t'.trans ht⟩, by rw [x]; exact h2⟩
  | .dat d, v, hv => RelD.move h.w h.S (show RelD c.w c.S d.t d.x v from hv)
theorem RelCaps.ext {c c' : Cx} (h : Ext c c') : ∀ {ks : List Cap} {vs : List Value}, RelCaps c ks vs → RelCaps c' ks vs
  | [], _, e => e
  | _ :: _, _, ⟨v, l, e, h0, h1⟩ => ⟨v, l, e, h0.ext h, h1.ext h⟩
theorem RelV.ext {P : Program} {E : Env} {c c' : Cx} (h : Ext c c') {x : V} {v : Value} (hv : RelV P E c x v) : RelV P E c' x v := by
  cases x with
  | bad => trivial
  | und => exact hv
  | dat d => exact RelD.move h.w h.S (show RelD c.w c.S d.t d.x v from hv)
  | nils => exact hv
  | own a =>
    obtain ⟨h1, h2⟩ := hv
    obtain ⟨k1, k2⟩ := h.arr a h1
    refine ⟨k1, fun A hA => ?_⟩
    obtain ⟨⟨A1, e1⟩, x1⟩ := k2 A hA
    rw [x1]; exact h2 A1 e1
  | ptr b p t =>
    obtain ⟨B, hB, hpt, hp, hv⟩ := hv
    obtain ⟨B', e, ht, hx⟩ := h.box b B hB
    exact ⟨B', e, by rw [ht]; exact hpt, by rw [ht]; exact hp, by rw [ht, hx]; exact hv⟩
  | rptr d => exact RelP.move h.w h.S (show RelP c.w c.S d.t d.x v from hv)
  | clo f caps =>
    obtain ⟨cv, e, hh⟩ := hv
    exact ⟨cv, e, hh.ext h⟩
  | fnp a r g => exact hv

theorem RelA.move {E : Env} {w w' : World} {S S' : Nat → Prop} (hs : SameOn S w w') (hS : ∀ b, S b → S' b) {A : Arr} {v : Value}
    (hg : A.open_ = true → ∀ g, v.ownBlock = some g → w'.heap[g]? = w.heap[g]? ∧ ¬ S' g) (h : RelA E w S A v) : RelA E w' S' A v := by
  unfold RelA at *
  split at h
  · rename_i ho
    rw [if_pos ho]
    obtain ⟨inner, h1, h2, h3⟩ := h
    refine ⟨inner, ⟨h1.1, ?_⟩, h2.imp (fun _ _ hh => hh.move hs hS), fun g hgg => (hg ho g hgg).2⟩
    rcases h1.2 with h1 | ⟨g, cap, cur, rfl, hb, hh, r⟩
    · exact .inl h1
    · exact .inr ⟨g, cap, cur, rfl, hb, (hg ho g rfl).1.trans hh, r⟩
  · rename_i ho
    rw [if_neg ho]
    exact h.move hs hS

theorem freeze_ok {E : Env} {c : Cx} (hr : Rel E c) {a : Nat} {A : Arr} (ha : c.m.arr a = .at_ A) (ho : A.open_ = true) :
    ∃ S', S' = (fun b => c.S b ∨ (c.ar a).ownBlock = some b) ∧ Rel E { c with S := S', m := c.m.setA a (.at_ { A with open_ := false }) } ∧ Ext c { c with S := S', m := c.m.setA a (.at_ { A with open_ := false }) } ∧
      RelC c.w S' (.sl A.e A.t) A.xs [c.ar a] := by
  have hA := hr.arr a A ha
  unfold RelA at hA
  rw [if_pos ho] at hA
  obtain ⟨inner, h1, h2, h3⟩ := hA
  let S' : Nat → Prop := fun b => c.S b ∨ (c.ar a).ownBlock = some b
  have hS : ∀ b, c.S b → S' b := fun b hb => .inl hb
  have hsame : SameOn c.S c.w c.w := fun _ _ => rfl
  have hRC : RelC c.w S' (.sl A.e A.t) A.xs [c.ar a] := by
    rcases h1.2 with ⟨hv, hn⟩ | ⟨g, cap, cur, hv, hb, hh, hle, _⟩
    · refine ⟨none, 0, by rw [hv, hn], by omega, fun hp => ?_⟩
      omega
    · refine ⟨some ⟨g, 0, none⟩, cap, by rw [hv], hle, fun _ => ⟨⟨g, 0, none⟩, inner, rfl, .inr (by rw [hv]; rfl), h1.1, ?_, h2.imp (fun _ _ hh => hh.move hsame hS)⟩⟩
      exact fun i u hu => h1.cells (g := g) (by rw [hv]; rfl) i u hu
  have hown : ∀ g, (c.ar a).ownBlock = some g → E.w0.heap.size ≤ g ∧ g < c.w.heap.size := fun g hg => h1.lt g hg
  refine ⟨S', rfl, ⟨hr.os, hr.tape, hr.output, hr.size, hr.keep, fun b hb => hS b (hr.old b hb), ?_, ?_, ?_, ?_, ?_, hr.bb, ?_, ?_⟩, ⟨hS, hsame, fun b B hB => ⟨B, hB, rfl, rfl⟩, ?_⟩, hRC⟩
  · rintro b (hb | hb)
    · exact hr.lt b hb
    · exact (hown b hb).2
  · rintro b (hb | hb)
    · exact hr.new b hb
    · exact .inr (hown b hb).1
  · intro b B hB
    obtain ⟨cs, tid, hh, hc⟩ := hr.box b B hB
    exact ⟨cs, tid, hh, hc.move hsame hS⟩
  · intro b hb
    refine ⟨(hr.priv b hb).1, ?_⟩
    rintro (hs | hs)
    · exact (hr.priv b hb).2 hs
    · exact hr.ba b a A hb ha ho hs
  · intro a' A' ha'
    simp only [Mem.setA, upd] at ha'
    cases he : Nat.beq a' a with
    | true =>
      have := Nat.eq_of_beq_eq_true he
      subst this
      rw [he] at ha'
      injection ha' with ha'
      subst ha'
      show RelA E c.w S' _ _
      unfold RelA
      rw [if_neg (by simp)]
      exact hRC
    | false =>
      rw [he] at ha'
      refine (hr.arr a' A' ha').move hsame hS (fun ho' g hg => ⟨rfl, ?_⟩)
      rintro (hs | hs)
      · have := hr.arr a' A' ha'
        unfold RelA at this
        rw [if_pos ho'] at this
        obtain ⟨_, _, _, h5⟩ := this
        exact h5 g hg hs
      · have := hr.aa a' a A' A g ha' ha ho' ho hg hs
        subst this
        simp at he
  · intro x y X Y g hx hy hxo hyo hgx hgy
    simp only [Mem.setA, upd] at hx hy
    cases hex : Nat.beq x a with
    | true => rw [hex] at hx; injection hx with hx; subst hx; simp at hxo
    | false =>
      cases hey : Nat.beq y a with
      | true => rw [hey] at hy; injection hy with hy; subst hy; simp at hyo
      | false => rw [hex] at hx; rw [hey] at hy; exact hr.aa x y X Y g hx hy hxo hyo hgx hgy
  · intro b y Y hb hy hyo
    simp only [Mem.setA, upd] at hy
    cases hey : Nat.beq y a with
    | true => rw [hey] at hy; injection hy with hy; subst hy; simp at hyo
    | false => rw [hey] at hy; exact hr.ba b y Y hb hy hyo
  · intro x hx
    simp only [Mem.setA, upd]
    cases hex : Nat.beq x a with
    | true =>
      have := Nat.eq_of_beq_eq_true hex
      subst this
      exact ⟨by simp, fun A' _ => ⟨⟨A, ha⟩, trivial⟩⟩
    | false => exact ⟨hx, fun A' hA' => ⟨⟨A', hA'⟩, trivial⟩⟩

theorem asDat_ok {P : Program} {E : Env} {c : Cx} (hr : Rel E c) {t : Ty} {x : V} {u : Value} (hv : RelV P E c x u) {y : t.den} {m' : Mem} {fp fp' : FP}
    (h : (asDat t x).ev c.m fp = some (y, m', fp')) : ∃ S', Rel E { c with S := S', m := m' } ∧ Ext c { c with S := S', m := m' } ∧ RelD c.w S' t y u := by
  cases x with
  | dat d =>
    simp only [asDat] at h
    split at h
    · rename_i he
      obtain ⟨dt, dx⟩ := d
      simp only at he
      subst he
      injection h with h
      injection h with h1 h2
      injection h2 with h2 h3
      subst h1 h2
      exact ⟨c.S, hr, Ext.refl c, hv⟩
    · cases h
  | nils =>
    cases t with
    | sl e t =>
      simp only [asDat, Res.ev] at h
      injection h with h
      injection h with h1 h2
      injection h2 with h2 h3
      subst h1 h2
      have : u = .slice none 0 0 := hv
      subst this
      exact ⟨c.S, hr, Ext.refl c, ⟨none, 0, rfl, Nat.le_refl _, fun hp => absurd hp (Nat.lt_irrefl 0)⟩⟩
    | _ => simp [asDat, Res.ev] at h
  | own a =>
    simp only [asDat, Res.ev] at h
    cases ha : c.m.arr a with
    | no => rw [ha] at h; simp [Res.ev] at h
    | dead => rw [ha] at h; simp [Res.ev] at h
    | at_ A =>
      rw [ha] at h
      simp only at h
      split at h
      · rename_i he
        subst he
        have hu : u = c.ar a := hv.2 A ha
        cases ho : A.open_ with
        | true =>
          rw [ho] at h
          simp only [Res.ev] at h
          injection h with h
          injection h with h1 h2
          injection h2 with h2 h3
          subst h1 h2 hu
          obtain ⟨S', _, r1, r2, r3⟩ := freeze_ok hr ha ho
          exact ⟨S', r1, r2, r3⟩
        | false =>
          rw [ho] at h
          simp only [Res.ev] at h
          injection h with h
          injection h with h1 h2
          injection h2 with h2 h3
          subst h1 h2 hu
          have := hr.arr a A ha
          unfold RelA at this
          rw [if_neg (by simp [ho])] at this
          exact ⟨c.S, hr, Ext.refl c, this⟩
      · simp [Res.ev] at h
  | _ => simp [asDat, Res.ev] at h
end Go.Vm
end
section
namespace Go.Vm
open Go.RowKit
set_option linter.unusedVariables false

theorem chainGet_rel {w : World} {S : Nat → Prop} : ∀ {c : Ty} {x : c.den} {cs : List Value} {i : Nat} {d : D}, RelC w S c x cs → chainGet c x i = some d →
    chainTy c i = some d.t ∧ ∃ a m b, cs = a ++ m ++ b ∧ a.length = chainOff c i ∧ RelC w S d.t d.x m
  | .pair a b, x, cs, 0, d, ⟨c0, c1, e, h0, h1⟩, h => by
    injection h with h; subst h
    exact ⟨rfl, [], c0, c1, by simp [e], rfl, h0⟩
  | .pair a b, x, cs, i + 1, d, ⟨c0, c1, e, h0, h1⟩, h => by
    obtain ⟨ht, p, m, q, e2, hl, hm⟩ := chainGet_rel (i := i) h1 h
    exact ⟨ht, c0 ++ p, m, q, by rw [e, e2]; simp [List.append_assoc], by rw [List.length_append, h0.len, hl]; rfl, hm⟩
  | .int _, x, cs, 0, d, hr, h => by injection h with h; subst h; exact ⟨rfl, [], cs, [], by simp, rfl, hr⟩
  | .bool, x, cs, 0, d, hr, h => by injection h with h; subst h; exact ⟨rfl, [], cs, [], by simp, rfl, hr⟩
  | .str, x, cs, 0, d, hr, h => by injection h with h; subst h; exact ⟨rfl, [], cs, [], by simp, rfl, hr⟩
  | .sl _ _, x, cs, 0, d, hr, h => by injection h with h; subst h; exact ⟨rfl, [], cs, [], by simp, rfl, hr⟩
  | .arr _ _, x, cs, 0, d, hr, h => by injection h with h; subst h; exact ⟨rfl, [], cs, [], by simp, rfl, hr⟩
  | .st _, x, cs, 0, d, hr, h => by injection h with h; subst h; exact ⟨rfl, [], cs, [], by simp, rfl, hr⟩
  | .int _, x, cs, i + 1, d, hr, h => by cases h
  | .bool, x, cs, i + 1, d, hr, h => by cases h
  | .str, x, cs, i + 1, d, hr, h => by cases h
  | .sl _ _, x, cs, i + 1, d, hr, h => by cases h
  | .arr _ _, x, cs, i + 1, d, hr, h => by cases h
  | .st _, x, cs, i + 1, d, hr, h => by cases h

theorem chainSet_rel {w : World} {S : Nat → Prop} : ∀ {c : Ty} {x : c.den} {cs : List Value} {i : Nat} {d : D} {y : c.den}, RelC w S c x cs → chainSet c x i d = some y →
    ∃ a m b, cs = a ++ m ++ b ∧ a.length = chainOff c i ∧ m.length = d.t.size ∧ ∀ m', RelC w S d.t d.x m' → RelC w S c y (a ++ m' ++ b)
  | .pair a b, x, cs, 0, d, y, ⟨c0, c1, e, h0, h1⟩, h => by
    simp only [chainSet] at h
    split at h
    · rename_i he
      obtain ⟨dt, dx⟩ := d
      simp only at he
      subst he
      injection h with h; subst h
      exact ⟨[], c0, c1, by simp [e], rfl, h0.len, fun m' hm => ⟨m', c1, by simp, hm, h1⟩⟩
    · cases h
  | .pair a b, x, cs, i + 1, d, y, ⟨c0, c1, e, h0, h1⟩, h => by
    simp only [chainSet] at h
    split at h
    · rename_i z hz
      injection h with h; subst h
      obtain ⟨p, m, q, e2, hl, hm, hs⟩ := chainSet_rel (i := i) h1 hz
      exact ⟨c0 ++ p, m, q, by rw [e, e2]; simp [List.append_assoc], by rw [List.length_append, h0.len, hl]; rfl, hm,
        fun m' hm' => ⟨c0, p ++ m' ++ q, by simp [List.append_assoc], h0, hs m' hm'⟩⟩
    · cases h
  | .int _, x, cs, 0, d, y, hr, h => by
    simp only [chainSet] at h; split at h
    · rename_i he; obtain ⟨dt, dx⟩ := d; simp only at he; subst he; injection h with h; subst h
      exact ⟨[], cs, [], by simp, rfl, hr.len, fun m' hm => by simpa [Ty.cast] using hm⟩
    · cases h
  | .bool, x, cs, 0, d, y, hr, h => by
    simp only [chainSet] at h; split at h
    · rename_i he; obtain ⟨dt, dx⟩ := d; simp only at he; subst he; injection h with h; subst h
      exact ⟨[], cs, [], by simp, rfl, hr.len, fun m' hm => by simpa [Ty.cast] using hm⟩
    · cases h
  | .str, x, cs, 0, d, y, hr, h => by
    simp only [chainSet] at h; split at h
    · rename_i he; obtain ⟨dt, dx⟩ := d; simp only at he; subst he; injection h with h; subst h
      exact ⟨[], cs, [], by simp, rfl, hr.len, fun m' hm => by simpa [Ty.cast] using hm⟩
    · cases h
  | .sl _ _, x, cs, 0, d, y, hr, h => by
    simp only [chainSet] at h; split at h
    · rename_i he; obtain ⟨dt, dx⟩ := d; simp only at he; subst he; injection h with h; subst h
      exact ⟨[], cs, [], by simp, rfl, hr.len, fun m' hm => by simpa [Ty.cast] using hm⟩
    · cases h
  | .arr _ _, x, cs, 0, d, y, hr, h => by
    simp only [chainSet] at h; split at h
    · rename_i he; obtain ⟨dt, dx⟩ := d; simp only at he; subst he; injection h with h; subst h
      exact ⟨[], cs, [], by simp, rfl, hr.len, fun m' hm => by simpa [Ty.cast] using hm⟩
    · cases h
  | .st _, x, cs, 0, d, y, hr, h => by
    simp only [chainSet] at h; split at h
    · rename_i he; obtain ⟨dt, dx⟩ := d; simp only at he; subst he; injection h with h; subst h
      exact ⟨[], cs, [], by simp, rfl, hr.len, fun m' hm => by simpa [Ty.cast] using hm⟩
    · cases h
  | .int _, x, cs, i + 1, d, y, hr, h => by cases h
  | .bool, x, cs, i + 1, d, y, hr, h => by cases h
  | .str, x, cs, i + 1, d, y, hr, h => by cases h
  | .sl _ _, x, cs, i + 1, d, y, hr, h => by cases h
  | .arr _ _, x, cs, i + 1, d, y, hr, h => by cases h
  | .st _, x, cs, i + 1, d, y, hr, h => by cases h

theorem getD_some {α : Type} {xs : List α} {j : Nat} (h : j < xs.length) (z : α) : xs[j]? = some (xs.getD j z) := by
  rw [List.getD_eq_getElem?_getD, List.getElem?_eq_getElem h]; rfl

theorem getP_rel {w : World} {S : Nat → Prop} : ∀ {p : List PS} {t : Ty} {x : t.den} {cs : List Value} {d : D}, RelC w S t x cs → PathIn p t → getP p t x = some d →
    ∃ a m b, cs = a ++ m ++ b ∧ a.length = pathOff p t ∧ RelC w S d.t d.x m
  | [], t, x, cs, d, hr, _, h => by
    injection h with h; subst h
    exact ⟨[], cs, [], by simp, rfl, hr⟩
  | .fld i :: p, .st c, x, cs, d, hr, hp, h => by
    obtain ⟨t, ht, hp⟩ := hp
    simp only [getP] at h
    split at h
    · rename_i e he
      obtain ⟨h1, a, m, b, e2, hl, hm⟩ := chainGet_rel (c := c) hr he
      rw [ht] at h1
      injection h1 with h1
      subst h1
      obtain ⟨a', m', b', e3, hl', hm'⟩ := getP_rel hm hp h
      refine ⟨a ++ a', m', b' ++ b, by rw [e2, e3]; simp [List.append_assoc], ?_, hm'⟩
      rw [List.length_append, hl, hl', pathOff, ht]
    · cases h
  | .idx i :: p, .arr n t, x, cs, d, ⟨hn, hr⟩, ⟨h0, h1, hp⟩, h => by
    have hlt : i.toNat < List.length (α := t.den) x := by rw [hn]; omega
    obtain ⟨a, m, b, e2, hl, hm, _, _⟩ := hr.at_ (fun _ _ hh => RelC.len hh) (getD_some hlt t.zero)
    obtain ⟨a', m', b', e3, hl', hm'⟩ := getP_rel hm hp h
    exact ⟨a ++ a', m', b' ++ b, by rw [e2, e3]; simp [List.append_assoc], by rw [List.length_append, hl, hl', pathOff], hm'⟩
  | .fld _ :: _, .int _, _, _, _, _, hp, _ => hp.elim
  | .fld _ :: _, .bool, _, _, _, _, hp, _ => hp.elim
  | .fld _ :: _, .str, _, _, _, _, hp, _ => hp.elim
  | .fld _ :: _, .sl _ _, _, _, _, _, hp, _ => hp.elim
  | .fld _ :: _, .arr _ _, _, _, _, _, hp, _ => hp.elim
  | .fld _ :: _, .pair _ _, _, _, _, _, hp, _ => hp.elim
  | .idx _ :: _, .int _, _, _, _, _, hp, _ => hp.elim
  | .idx _ :: _, .bool, _, _, _, _, hp, _ => hp.elim
  | .idx _ :: _, .str, _, _, _, _, hp, _ => hp.elim
  | .idx _ :: _, .sl _ _, _, _, _, _, hp, _ => hp.elim
  | .idx _ :: _, .st _, _, _, _, _, hp, _ => hp.elim
  | .idx _ :: _, .pair _ _, _, _, _, _, hp, _ => hp.elim

theorem setP_rel {w : World} {S : Nat → Prop} : ∀ {p : List PS} {t : Ty} {x : t.den} {cs : List Value} {d : D} {y : t.den}, RelC w S t x cs → PathIn p t → setP p t x d = some y →
    ∃ a m b, cs = a ++ m ++ b ∧ a.length = pathOff p t ∧ m.length = d.t.size ∧ ∀ m', RelC w S d.t d.x m' → RelC w S t y (a ++ m' ++ b)
  | [], t, x, cs, d, y, hr, _, h => by
    simp only [setP] at h
    split at h
    · rename_i he
      obtain ⟨dt, dx⟩ := d
      simp only at he
      subst he
      injection h with h; subst h
      exact ⟨[], cs, [], by simp, rfl, hr.len, fun m' hm => by simpa [Ty.cast] using hm⟩
    · cases h
  | .fld i :: p, .st c, x, cs, d, y, hr, hp, h => by
    obtain ⟨t, ht, hp⟩ := hp
    simp only [setP] at h
    split at h
    · rename_i e he
      split at h
      · rename_i z hz
        obtain ⟨h1, a, m, b, e2, hl, hm⟩ := chainGet_rel (c := c) hr he
        rw [ht] at h1
        injection h1 with h1
        subst h1
        obtain ⟨a', m', b', e3, hl', hs', hm'⟩ := setP_rel hm hp hz
        obtain ⟨a2, m2, b2, e4, hl2, hs2, hm2⟩ := chainSet_rel (c := c) hr h
        have hlen : a.length = a2.length := hl.trans hl2.symm
        rw [e2] at e4
        have hm3 : m.length = m2.length := by rw [hs2]; exact hm.len
        obtain ⟨ea, eb⟩ := List.append_inj (by simpa [List.append_assoc] using e4) hlen
        obtain ⟨em, eb2⟩ := List.append_inj eb hm3
        subst ea em eb2
        refine ⟨a ++ a', m', b' ++ b, by rw [e2, e3]; simp [List.append_assoc], ?_, hs', fun k hk => ?_⟩
        · rw [List.length_append, hl, hl', pathOff, ht]
        · have := hm2 _ (hm' k hk)
          show RelC w S c y _
          simpa [List.append_assoc] using this
      · cases h
    · cases h
  | .idx i :: p, .arr n t, x, cs, d, y, ⟨hn, hr⟩, ⟨h0, h1, hp⟩, h => by
    have hlt : i.toNat < List.length (α := t.den) x := by rw [hn]; omega
    simp only [setP] at h
    split at h
    · rename_i z hz
      injection h with h; subst h
      obtain ⟨a, m, b, e2, hl, hm, ha, hb⟩ := hr.at_ (fun _ _ hh => RelC.len hh) (getD_some hlt t.zero)
      obtain ⟨a', m', b', e3, hl', hs', hm'⟩ := setP_rel hm hp hz
      refine ⟨a ++ a', m', b' ++ b, by rw [e2, e3]; simp [List.append_assoc], by rw [List.length_append, hl, hl', pathOff], hs', fun k hk => ⟨?_, ?_⟩⟩
      · rw [List.length_set]; exact hn
      · have := RelL.set (hm' k hk) hlt ha hb
        simpa [List.append_assoc] using this
    · cases h
  | .fld _ :: _, .int _, _, _, _, _, _, hp, _ => hp.elim
  | .fld _ :: _, .bool, _, _, _, _, _, hp, _ => hp.elim
  | .fld _ :: _, .str, _, _, _, _, _, hp, _ => hp.elim
  | .fld _ :: _, .sl _ _, _, _, _, _, _, hp, _ => hp.elim
  | .fld _ :: _, .arr _ _, _, _, _, _, _, hp, _ => hp.elim
  | .fld _ :: _, .pair _ _, _, _, _, _, _, hp, _ => hp.elim
  | .idx _ :: _, .int _, _, _, _, _, _, hp, _ => hp.elim
  | .idx _ :: _, .bool, _, _, _, _, _, hp, _ => hp.elim
  | .idx _ :: _, .str, _, _, _, _, _, hp, _ => hp.elim
  | .idx _ :: _, .sl _ _, _, _, _, _, _, hp, _ => hp.elim
  | .idx _ :: _, .st _, _, _, _, _, _, hp, _ => hp.elim
  | .idx _ :: _, .pair _ _, _, _, _, _, _, hp, _ => hp.elim

section
variable {P : Program} {T : Tab} {tid : TypeId} {ty : Ty}
theorem TyOk.sizeOf (h : TyOk P T tid ty) (w : World) : (sizeOf tid).run P w = .ok ty.size w := by
  obtain ⟨i, z, hi, hs, _⟩ := h.info
  simp [Go.sizeOf, typeInfo, hi, hs]
theorem TyOk.isz (h : TyOk P T tid ty) : (P.info? tid).map (·.size) = some ty.size := by
  obtain ⟨i, z, hi, hs, _⟩ := h.info
  simp [hi, hs]
theorem TyOk.zero (h : TyOk P T tid ty) (w : World) : ∃ z, (zeroValue tid).run P w = .ok z w ∧ z.cells.toList = ty.zc := by
  obtain ⟨i, z, hi, hs, hz, hc, _⟩ := h.info
  exact ⟨z, by simp [zeroValue, typeInfo, hi, hz], hc⟩
def Ty.isAgg : Ty → Bool
  | .st _ | .arr _ _ => true
  | _ => false
theorem TyOk.isAgg (h : TyOk P T tid ty) (w : World) : (isAgg tid).run P w = .ok ty.isAgg w := by
  have hu := h.und
  unfold Go.isAgg
  rw [Sem.run_bind]
  cases ty with
  | int k => rw [run_underlying hu w]; rfl
  | bool => rw [run_underlying hu w]; rfl
  | str => rw [run_underlying hu w]; rfl
  | sl e t => rw [run_underlying hu.1 w]; rfl
  | arr n t => obtain ⟨e, hu, _⟩ := hu; rw [run_underlying hu w]; rfl
  | st c => obtain ⟨fs, hu, _⟩ := hu; rw [run_underlying hu w]; rfl
  | pair a b => exact hu.elim
  | tup c => exact hu.elim
  | unit => exact hu.elim
theorem add_zero' (ad : Addr) : ad.add 0 = ad := by simp [Addr.add]
theorem relV1_of_cells {w : World} {S : Nat → Prop} {x : ty.den} {cs : List Value} (hg : ty.good = true) (ha : ty.isAgg = true) (hr : RelC w S ty x cs) : RelV1 w S ty x (.agg cs.toArray) := by
  cases ty with
  | st c => exact ⟨cs.toArray, rfl, by simpa using hr⟩
  | arr n t => exact ⟨cs.toArray, rfl, by simpa using hr⟩
  | _ => simp [Ty.isAgg] at ha
theorem load_ok (h : TyOk P T tid ty) {w : World} {S : Nat → Prop} {x : ty.den} {cs : List Value} {ad : Addr} (hr : RelC w S ty x cs) (hc : CellsAt w ad cs) (hnp : ty.isPair = false) :
    ∃ v, (loadVar tid ad).run P w = .ok v w ∧ RelV1 w S ty x v := by
  cases ha : ty.isAgg with
  | true =>
    have hl : (loadCells ad cs.length).run P w = .ok cs.toArray w := run_loadCells_list (P := P) w ad cs hc
    refine ⟨.agg cs.toArray, ?_, relV1_of_cells h.good ha hr⟩
    simp [loadVar, Sem.run_bind, h.isAgg w, ha, h.sizeOf w, ← hr.len, hl]
  | false =>
    have one : ∀ v, cs = [v] → (loadVar tid ad).run P w = .ok v w := fun v hv => by
      have := hc 0 v (by rw [hv]; rfl)
      rw [add_zero'] at this
      simp [loadVar, Sem.run_bind, h.isAgg w, ha, this]
    cases ty with
    | int k => exact ⟨.int k x, one _ hr, rfl⟩
    | bool => exact ⟨.bool x, one _ hr, rfl⟩
    | str => exact ⟨.string x, one _ hr, rfl⟩
    | sl e t => obtain ⟨A, c, e1, hh⟩ := hr; exact ⟨_, one _ e1, A, c, rfl, hh⟩
    | arr n t => simp [Ty.isAgg] at ha
    | st c => simp [Ty.isAgg] at ha
    | pair a b => simp [Ty.isPair] at hnp
    | tup c => exact hr.elim
    | unit => exact hr.elim
end
theorem RelD.v1 {w : World} {S : Nat → Prop} {t : Ty} {x : t.den} {v : Value} (hg : t.good = true) (h : RelD w S t x v) : RelV1 w S t x v := by
  cases t with
  | tup c => simp [Ty.good] at hg
  | unit => simp [Ty.good] at hg
  | _ => exact h
theorem RelD.of_v1 {w : World} {S : Nat → Prop} {t : Ty} {x : t.den} {v : Value} (h : RelV1 w S t x v) : RelD w S t x v := by
  cases t with
  | tup c => exact h.elim
  | unit => exact h.elim
  | _ => exact h

theorem below_ok {E : Env} {c : Cx} (hr : Rel E c) {w' : World} (hb : Below c.w.heap.size c.w w') {S' : Nat → Prop} (h1 : ∀ b, c.S b → S' b) (h2 : ∀ b, S' b → Ext' c.S c.w w' b) :
    Rel E { c with S := S', w := w' } ∧ Ext c { c with S := S', w := w' } := by
  have hsame : SameOn c.S c.w w' := fun b hb' => hb.block b (hr.lt b hb')
  have hno : ∀ b, b < c.w.heap.size → ¬ c.S b → ¬ S' b := fun b hlt hn hs => by
    rcases h2 b hs with h | h
    · exact hn h
    · omega
  refine ⟨⟨hb.os.trans hr.os, hb.tape.trans hr.tape, hb.output.trans hr.output, Nat.le_trans hr.size hb.size, ?_, fun b hb' => h1 b (hr.old b hb'), ?_, ?_, ?_, ?_, ?_, hr.bb, hr.aa, hr.ba⟩,
    ⟨h1, hsame, fun b B hB => ⟨B, hB, rfl, rfl⟩, fun a ha => ⟨ha, fun A hA => ⟨⟨A, hA⟩, rfl⟩⟩⟩⟩
  · intro b hlt hn
    exact (hb.block b (Nat.lt_of_lt_of_le hlt hr.size)).trans (hr.keep b hlt hn)
  · intro b hs
    rcases h2 b hs with h | h
    · exact Nat.lt_of_lt_of_le (hr.lt b h) hb.size
    · exact h.2
  · intro b hs
    rcases h2 b hs with h | h
    · exact hr.new b h
    · exact .inr (Nat.le_trans hr.size h.1)
  · intro b B hB
    obtain ⟨cs, tid, hh, hc⟩ := hr.box b B hB
    exact ⟨cs, tid, (hb.block _ (hr.boxLt hB)).trans hh, hc.move hsame h1⟩
  · intro b hbx
    refine ⟨(hr.priv b hbx).1, ?_⟩
    cases hB : c.m.box b with
    | none => exact absurd hB hbx
    | some B => exact hno _ (hr.boxLt hB) (hr.priv b hbx).2
  · intro a A hA
    refine (hr.arr a A hA).move hsame h1 (fun ho g hg => ?_)
    have := hr.arr a A hA
    unfold RelA at this
    rw [if_pos ho] at this
    obtain ⟨inner, h3, _, h5⟩ := this
    exact ⟨hb.block g (h3.lt g hg).2, hno g (h3.lt g hg).2 (h5 g hg)⟩

theorem addBox_ok {E : Env} {c : Cx} (hr : Rel E c) {d : Nat} (hd : c.m.box d = none) {t : Ty} {x : t.den} {g : Nat} {cs : Array Value} {tid : TypeId}
    (hg : c.w.heap[g]? = some (.cells cs tid (0, 0))) (hx : RelC c.w c.S t x cs.toList) (h0 : E.w0.heap.size ≤ g ∨ E.W0 g) (hS : ¬ c.S g)
    (hbn : ∀ b, c.m.box b ≠ none → c.bx b ≠ g) (han : ∀ a A, c.m.arr a = .at_ A → A.open_ = true → (c.ar a).ownBlock ≠ some g) :
    Rel E { c with bx := upd c.bx d g, m := c.m.setB d ⟨t, x⟩ } ∧ Ext c { c with bx := upd c.bx d g, m := c.m.setB d ⟨t, x⟩ } := by
  have hold : ∀ b, c.m.box b ≠ none → Nat.beq b d = false := fun b hb => by
    cases he : Nat.beq b d with
    | false => rfl
    | true => exact absurd (by rw [Nat.eq_of_beq_eq_true he]; exact hd) hb
  refine ⟨⟨hr.os, hr.tape, hr.output, hr.size, hr.keep, hr.old, hr.lt, hr.new, ?_, ?_, hr.arr, ?_, hr.aa, ?_⟩, ⟨fun _ h => h, fun _ _ => rfl, ?_, fun a ha => ⟨ha, fun A hA => ⟨⟨A, hA⟩, rfl⟩⟩⟩⟩
  · intro b B hB
    simp only [Mem.setB, upd] at hB ⊢
    cases he : Nat.beq b d with
    | true =>
      rw [he] at hB
      injection hB with hB
      subst hB
      exact ⟨cs, tid, hg, hx⟩
    | false =>
      rw [he] at hB
      exact hr.box b B hB
  · intro b hb
    simp only [Mem.setB, upd] at hb ⊢
    cases he : Nat.beq b d with
    | true => exact ⟨h0, hS⟩
    | false => rw [he] at hb; exact hr.priv b hb
  · intro b b' hb hb' e
    simp only [Mem.setB, upd] at hb hb' e
    cases he : Nat.beq b d with
    | true =>
      cases he' : Nat.beq b' d with
      | true => rw [Nat.eq_of_beq_eq_true he, Nat.eq_of_beq_eq_true he']
      | false =>
        rw [he, he'] at e
        rw [he'] at hb'
        exact absurd e.symm (hbn b' hb')
    | false =>
      cases he' : Nat.beq b' d with
      | true =>
        rw [he, he'] at e
        rw [he] at hb
        exact absurd e (hbn b hb)
      | false =>
        rw [he, he'] at e
        rw [he] at hb
        rw [he'] at hb'
        exact hr.bb b b' hb hb' e
  · intro b a A hb ha ho
    simp only [Mem.setB, upd] at hb ⊢
    cases he : Nat.beq b d with
    | true => exact han a A ha ho
    | false => rw [he] at hb; exact hr.ba b a A hb ha ho
  · intro b B hB
    have hbd := hold b (by rw [hB]; simp)
    exact ⟨B, by simp [Mem.setB, upd, hbd, hB], rfl, by simp [upd, hbd]⟩

def Loose (E : Env) (c : Cx) (e : TypeId) (t : Ty) (xs : List t.den) (v : Value) : Prop :=
  (∃ inner, c.w.ownsRow E.w0.heap.size e t.size v xs.length inner ∧ RelL (RelC c.w c.S t) xs inner) ∧ ∀ g, v.ownBlock = some g → ¬ c.S g ∧ (∀ b, c.m.box b ≠ none → c.bx b ≠ g) ∧
    ∀ a A, c.m.arr a = .at_ A → A.open_ = true → (c.ar a).ownBlock ≠ some g
theorem addArr_ok {E : Env} {c : Cx} (hr : Rel E c) {d : Nat} (hd : c.m.arr d = .no) {e : TypeId} {t : Ty} {xs : List t.den} {v : Value} (hl : Loose E c e t xs v) :
    Rel E { c with ar := upd c.ar d v, m := c.m.setA d (.at_ ⟨e, t, xs, true⟩) } ∧ Ext c { c with ar := upd c.ar d v, m := c.m.setA d (.at_ ⟨e, t, xs, true⟩) } := by
  obtain ⟨⟨inner, h1, h2⟩, h3⟩ := hl
  have hold : ∀ a, c.m.arr a ≠ .no → Nat.beq a d = false := fun a ha => by
    cases he : Nat.beq a d with
    | false => rfl
    | true => exact absurd (by rw [Nat.eq_of_beq_eq_true he]; exact hd) ha
  refine ⟨⟨hr.os, hr.tape, hr.output, hr.size, hr.keep, hr.old, hr.lt, hr.new, hr.box, hr.priv, ?_, hr.bb, ?_, ?_⟩, ⟨fun _ h => h, fun _ _ => rfl, fun b B hB => ⟨B, hB, rfl, rfl⟩, ?_⟩⟩
  · intro a A hA
    simp only [Mem.setA, upd] at hA ⊢
    cases he : Nat.beq a d with
    | true =>
      rw [he] at hA
      injection hA with hA
      subst hA
      show RelA E c.w c.S _ _
      unfold RelA
      rw [if_pos rfl]
      exact ⟨inner, h1, h2, fun g hg => (h3 g hg).1⟩
    | false => rw [he] at hA; exact hr.arr a A hA
  · intro a a' A A' g hA hA' ho ho' hg hg'
    simp only [Mem.setA, upd] at hA hA' hg hg'
    cases he : Nat.beq a d with
    | true =>
      cases he' : Nat.beq a' d with
      | true => rw [Nat.eq_of_beq_eq_true he, Nat.eq_of_beq_eq_true he']
      | false =>
        rw [he] at hg
        rw [he'] at hg' hA'
        exact absurd hg' ((h3 g hg).2.2 a' A' hA' ho')
    | false =>
      cases he' : Nat.beq a' d with
      | true =>
        rw [he] at hg hA
        rw [he'] at hg'
        exact absurd hg ((h3 g hg').2.2 a A hA ho)
      | false =>
        rw [he] at hg hA
        rw [he'] at hg' hA'
        exact hr.aa a a' A A' g hA hA' ho ho' hg hg'
  · intro b a A hb hA ho
    simp only [Mem.setA, upd] at hA ⊢
    cases he : Nat.beq a d with
    | true => exact fun hg => (h3 _ hg).2.1 b hb rfl
    | false => rw [he] at hA; exact hr.ba b a A hb hA ho
  · intro a ha
    have had := hold a ha
    simp only [Mem.setA, upd, had]
    exact ⟨ha, fun A hA => ⟨⟨A, hA⟩, rfl⟩⟩
theorem dead_ok {E : Env} {c : Cx} (hr : Rel E c) {a : Nat} {A : Arr} (ha : c.m.arr a = .at_ A) (ho : A.open_ = true) :
    Rel E { c with m := c.m.setA a .dead } ∧ Ext c { c with m := c.m.setA a .dead } ∧ Loose E { c with m := c.m.setA a .dead } A.e A.t A.xs (c.ar a) := by
  have hA := hr.arr a A ha
  unfold RelA at hA
  rw [if_pos ho] at hA
  obtain ⟨inner, h1, h2, h3⟩ := hA
  have hat : ∀ x X, (c.m.setA a .dead).arr x = .at_ X → Nat.beq x a = false ∧ c.m.arr x = .at_ X := fun x X hx => by
    simp only [Mem.setA, upd] at hx
    cases he : Nat.beq x a with
    | true => rw [he] at hx; simp at hx
    | false => rw [he] at hx; exact ⟨rfl, hx⟩
  refine ⟨⟨hr.os, hr.tape, hr.output, hr.size, hr.keep, hr.old, hr.lt, hr.new, hr.box, hr.priv, fun x X hx => hr.arr x X (hat x X hx).2, hr.bb,
    fun x y X Y g hx hy => hr.aa x y X Y g (hat x X hx).2 (hat y Y hy).2, fun b x X hb hx => hr.ba b x X hb (hat x X hx).2⟩,
    ⟨fun _ h => h, fun _ _ => rfl, fun b B hB => ⟨B, hB, rfl, rfl⟩, ?_⟩, ⟨inner, h1, h2⟩, fun g hg => ⟨h3 g hg, fun b hb e => hr.ba b a A hb ha ho (by rw [hg, e]), fun x X hx hxo hgx => ?_⟩⟩
  · intro x hx
    simp only [Mem.setA, upd]
    cases he : Nat.beq x a with
    | true => simp
    | false => exact ⟨hx, fun X hX => ⟨⟨X, hX⟩, trivial⟩⟩
  · obtain ⟨hne, hx⟩ := hat x X hx
    have := hr.aa x a X A g hx ha hxo ho hgx hg
    subst this
    simp at hne

theorem setBox_ok {E : Env} {c : Cx} (hr : Rel E c) {b : Nat} {B : Box} (hB : c.m.box b = some B) {x : B.t.den} {w' : World} {cs : Array Value} {tid : TypeId}
    (hos : c.w.os = w'.os) (htape : c.w.tape = w'.tape) (hout : c.w.output = w'.output) (hsz : w'.heap.size = c.w.heap.size)
    (hoth : ∀ g, g ≠ c.bx b → w'.heap[g]? = c.w.heap[g]?) (hh : w'.heap[c.bx b]? = some (.cells cs tid (0, 0))) (hx : RelC c.w c.S B.t x cs.toList) :
    Rel E { c with m := c.m.setB b ⟨B.t, x⟩, w := w' } ∧ Ext c { c with m := c.m.setB b ⟨B.t, x⟩, w := w' } := by
  have hbn : c.m.box b ≠ none := by rw [hB]; simp
  have hnS : ¬ c.S (c.bx b) := (hr.priv b hbn).2
  have hsame : SameOn c.S c.w w' := fun g hg => hoth g (fun e => hnS (e ▸ hg))
  have hat : ∀ y Y, (c.m.setB b ⟨B.t, x⟩).box y = some Y → (Nat.beq y b = true ∧ y = b ∧ Y = ⟨B.t, x⟩) ∨ (y ≠ b ∧ c.m.box y = some Y) := fun y Y hy => by
    simp only [Mem.setB, upd] at hy
    cases he : Nat.beq y b with
    | true => rw [he] at hy; injection hy with hy; exact .inl ⟨rfl, Nat.eq_of_beq_eq_true he, hy.symm⟩
    | false => rw [he] at hy; exact .inr ⟨fun e => by subst e; simp at he, hy⟩
  have hne : ∀ y, (c.m.setB b ⟨B.t, x⟩).box y ≠ none → c.m.box y ≠ none := fun y hy => by
    cases hY : (c.m.setB b ⟨B.t, x⟩).box y with
    | none => exact absurd hY hy
    | some Y =>
      rcases hat y Y hY with ⟨_, rfl, _⟩ | ⟨_, h⟩
      · exact hbn
      · rw [h]; simp
  refine ⟨⟨hos.symm.trans hr.os, htape.symm.trans hr.tape, hout.symm.trans hr.output, by rw [hsz]; exact hr.size, ?_, hr.old, fun g hg => by rw [hsz]; exact hr.lt g hg, hr.new, ?_, fun y hy => hr.priv y (hne y hy), ?_,
    fun y y' hy hy' => hr.bb y y' (hne y hy) (hne y' hy'), hr.aa, fun y a A hy => hr.ba y a A (hne y hy)⟩, ⟨fun _ h => h, hsame, ?_, fun a ha => ⟨ha, fun A hA => ⟨⟨A, hA⟩, rfl⟩⟩⟩⟩
  · intro g hlt hn
    rw [hoth g (fun e => ?_)]
    · exact hr.keep g hlt hn
    · rcases (hr.priv b hbn).1 with h | h
      · omega
      · exact hn (e ▸ h)
  · intro y Y hY
    rcases hat y Y hY with ⟨_, rfl, rfl⟩ | ⟨hy, h⟩
    · exact ⟨cs, tid, hh, hx.move hsame (fun _ h => h)⟩
    · obtain ⟨cs', tid', hh', hc'⟩ := hr.box y Y h
      refine ⟨cs', tid', (hoth _ (fun e => hy ?_)).trans hh', hc'.move hsame (fun _ h => h)⟩
      exact hr.bb y b (by rw [h]; simp) hbn e
  · intro a A hA
    refine (hr.arr a A hA).move hsame (fun _ h => h) (fun ho g hg => ⟨hoth g (fun e => hr.ba b a A hbn hA ho (by rw [hg, e])), ?_⟩)
    have := hr.arr a A hA
    unfold RelA at this
    rw [if_pos ho] at this
    obtain ⟨_, _, _, h5⟩ := this
    exact h5 g hg
  · intro y Y hY
    cases he : Nat.beq y b with
    | true =>
      have := Nat.eq_of_beq_eq_true he
      subst this
      rw [hB] at hY
      injection hY with hY
      subst hY
      exact ⟨⟨B.t, x⟩, by simp [Mem.setB, upd], rfl, rfl⟩
    | false => exact ⟨Y, by simp [Mem.setB, upd, he, hY], rfl, rfl⟩
end Go.Vm
end
section
namespace Go.Vm
open Go.RowKit
set_option linter.unusedVariables false
set_option linter.unusedSimpArgs false

theorem Flds.at_ {T : Tab} : ∀ {fs : List Field} {off : Nat} {c : Ty} {i : Nat} {t : Ty}, Flds T fs off c → chainTy c i = some t →
    ∃ f, fs[i]? = some f ∧ T f.type = some t ∧ f.offset = off + chainOff c i ∧ 0 < t.size
  | [], _, c, i, t, h, _ => by cases c <;> exact h.elim
  | f :: fs, off, .pair a b, 0, t, ⟨h1, h2, h3, h4, h5⟩, h => by
    injection h with h; subst h
    exact ⟨f, rfl, h1, by rw [h3]; rfl, h2⟩
  | f :: fs, off, .pair a b, i + 1, t, ⟨h1, h2, h3, h4, h5⟩, h => by
    obtain ⟨g, e, r1, r2, r3⟩ := Flds.at_ (i := i) h5 h
    exact ⟨g, by simpa using e, r1, by rw [r2, chainOff, Nat.add_assoc], r3⟩
  | [f], off, .int _, 0, t, ⟨h1, h2, h3, h4⟩, h => by injection h with h; subst h; exact ⟨f, rfl, h1, h3, h2⟩
  | [f], off, .bool, 0, t, ⟨h1, h2, h3, h4⟩, h => by injection h with h; subst h; exact ⟨f, rfl, h1, h3, h2⟩
  | [f], off, .str, 0, t, ⟨h1, h2, h3, h4⟩, h => by injection h with h; subst h; exact ⟨f, rfl, h1, h3, h2⟩
  | [f], off, .sl _ _, 0, t, ⟨h1, h2, h3, h4⟩, h => by injection h with h; subst h; exact ⟨f, rfl, h1, h3, h2⟩
  | [f], off, .arr _ _, 0, t, ⟨h1, h2, h3, h4⟩, h => by injection h with h; subst h; exact ⟨f, rfl, h1, h3, h2⟩
  | [f], off, .st _, 0, t, ⟨h1, h2, h3, h4⟩, h => by injection h with h; subst h; exact ⟨f, rfl, h1, h3, h2⟩
  | [f], off, .tup _, 0, t, ⟨h1, h2, h3, h4⟩, h => by injection h with h; subst h; exact ⟨f, rfl, h1, h3, h2⟩
  | [f], off, .unit, 0, t, ⟨h1, h2, h3, h4⟩, h => by injection h with h; subst h; exact ⟨f, rfl, h1, h3, h2⟩
  | _ :: _ :: _, _, .int _, _, _, h, _ => h.elim
  | _ :: _ :: _, _, .bool, _, _, h, _ => h.elim
  | _ :: _ :: _, _, .str, _, _, h, _ => h.elim
  | _ :: _ :: _, _, .sl _ _, _, _, h, _ => h.elim
  | _ :: _ :: _, _, .arr _ _, _, _, h, _ => h.elim
  | _ :: _ :: _, _, .st _, _, _, h, _ => h.elim
  | _ :: _ :: _, _, .tup _, _, _, h, _ => h.elim
  | _ :: _ :: _, _, .unit, _, _, h, _ => h.elim
  | [_], _, .int _, _ + 1, _, _, h => by cases h
  | [_], _, .bool, _ + 1, _, _, h => by cases h
  | [_], _, .str, _ + 1, _, _, h => by cases h
  | [_], _, .sl _ _, _ + 1, _, _, h => by cases h
  | [_], _, .arr _ _, _ + 1, _, _, h => by cases h
  | [_], _, .st _, _ + 1, _, _, h => by cases h
  | [_], _, .tup _, _ + 1, _, _, h => by cases h
  | [_], _, .unit, _ + 1, _, _, h => by cases h
theorem Flds.last {T : Tab} {fs : List Field} {off : Nat} {c : Ty} (hp : c.isPair = false) (h : Flds T fs off c) : ∃ f, fs = [f] ∧ T f.type = some c ∧ f.offset = off ∧ f.name ≠ "_" := by
  cases fs with
  | nil => cases c <;> exact h.elim
  | cons f fs =>
    cases fs with
    | nil => cases c <;> first | (simp [Ty.isPair] at hp; done) | exact ⟨f, rfl, h.1, h.2.2.1, h.2.2.2⟩
    | cons g fs => cases c <;> first | (simp [Ty.isPair] at hp; done) | exact h.elim
theorem Flds.mem {T : Tab} : ∀ {fs : List Field} {off : Nat} {c : Ty}, Flds T fs off c → ∀ f ∈ fs, ∃ t, T f.type = some t
  | [], _, _, _, f, hf => by cases hf
  | g :: fs, off, .pair a b, ⟨h1, h2, h3, h4, h5⟩, f, hf => by
    rcases List.mem_cons.1 hf with rfl | hf
    · exact ⟨a, h1⟩
    · exact Flds.mem h5 f hf
  | [g], off, .int _, h, f, hf => ⟨_, (List.mem_singleton.1 hf) ▸ h.1⟩
  | [g], off, .bool, h, f, hf => ⟨_, (List.mem_singleton.1 hf) ▸ h.1⟩
  | [g], off, .str, h, f, hf => ⟨_, (List.mem_singleton.1 hf) ▸ h.1⟩
  | [g], off, .sl _ _, h, f, hf => ⟨_, (List.mem_singleton.1 hf) ▸ h.1⟩
  | [g], off, .arr _ _, h, f, hf => ⟨_, (List.mem_singleton.1 hf) ▸ h.1⟩
  | [g], off, .st _, h, f, hf => ⟨_, (List.mem_singleton.1 hf) ▸ h.1⟩
  | [g], off, .tup _, h, f, hf => ⟨_, (List.mem_singleton.1 hf) ▸ h.1⟩
  | [g], off, .unit, h, f, hf => ⟨_, (List.mem_singleton.1 hf) ▸ h.1⟩
  | _ :: _ :: _, _, .int _, h, _, _ => h.elim
  | _ :: _ :: _, _, .bool, h, _, _ => h.elim
  | _ :: _ :: _, _, .str, h, _, _ => h.elim
  | _ :: _ :: _, _, .sl _ _, h, _, _ => h.elim
  | _ :: _ :: _, _, .arr _ _, h, _, _ => h.elim
  | _ :: _ :: _, _, .st _, h, _, _ => h.elim
  | _ :: _ :: _, _, .tup _, h, _, _ => h.elim
  | _ :: _ :: _, _, .unit, h, _, _ => h.elim

section
variable {P : Program} {T : Tab}
theorem TyOk.np {tid : TypeId} {ty : Ty} (h : TyOk P T tid ty) : ty.isPair = false := by
  have hu := h.und
  cases ty <;> first | rfl | exact hu.elim
theorem part_ok {tid : TypeId} {ty : Ty} (h : TyOk P T tid ty) {w : World} {S : Nat → Prop} {x : ty.den} {cs : Array Value} {a m b : List Value} {off : Nat}
    (hc : cs.toList = a ++ m ++ b) (ha : a.length = off) (hr : RelC w S ty x m) (w' : World) : ∃ v, (part tid cs off).run P w' = .ok v w' ∧ RelV1 w S ty x v := by
  cases hag : ty.isAgg with
  | true =>
    refine ⟨.agg m.toArray, ?_, relV1_of_cells h.good hag hr⟩
    have hm : cs.extract off (off + ty.size) = m.toArray := by
      apply Array.ext'
      rw [Array.toList_extract, hc, List.extract_eq_take_drop, ← hr.len, ← ha]
      simp [List.append_assoc]
    simp [part, Sem.run_bind, h.isAgg w', hag, h.sizeOf w', hm]
  | false =>
    have one : ∀ v, m = [v] → (part tid cs off).run P w' = .ok v w' := fun v hv => by
      have hg : cs[off]? = some v := by
        rw [← Array.getElem?_toList, hc, hv, ← ha]
        simp
      simp [part, Sem.run_bind, h.isAgg w', hag, hg]
    have hnp := h.np
    cases ty with
    | int k => exact ⟨.int k x, one _ hr, rfl⟩
    | bool => exact ⟨.bool x, one _ hr, rfl⟩
    | str => exact ⟨.string x, one _ hr, rfl⟩
    | sl e t => obtain ⟨A, c, e1, hh⟩ := hr; exact ⟨_, one _ e1, A, c, rfl, hh⟩
    | arr n t => simp [Ty.isAgg] at hag
    | st c => simp [Ty.isAgg] at hag
    | pair a b => simp [Ty.isPair] at hnp
    | tup c => exact hr.elim
    | unit => exact hr.elim

theorem str_eq (a b : ByteArray) : (a.toList == b.toList) = decide (a = b) := by
  rw [← beq_toListBytes, Bool.eq_iff_iff]
  obtain ⟨x⟩ := a
  obtain ⟨y⟩ := b
  show (x == y) = true ↔ _
  simp
def eqElems (d : Nat) (e : TypeId) (n : Nat) (xs ys : Array Value) : List Nat → Sem Bool
  | [] => pure true
  | i :: is => do
    let a ← part e xs (i * n)
    let b ← part e ys (i * n)
    let r ← Op.equalIn d e a b
    if (!r) = true then pure false else eqElems d e n xs ys is
theorem run_equalIn_array (w : World) (d n m : Nat) (t e : TypeId) (xs ys : Array Value) (ht : P.underlying t = some (.array n e)) (hs : (sizeOf e).run P w = .ok m w) :
    (Op.equalIn (d + 1) t (.agg xs) (.agg ys)).run P w = (eqElems d e m xs ys (List.range n)).run P w := by
  simp only [Op.equalIn, Sem.run_bind, run_underlying ht, Result.andThen_ok, run_program, hs, Std.Legacy.Range.forIn_eq_forIn_range']
  simp only [Std.Legacy.Range.size, Nat.sub_zero, Nat.add_sub_cancel, Nat.div_one, ← List.range_eq_range']
  generalize List.range n = l
  clear hs
  induction l generalizing w with
  | nil => simp [eqElems]
  | cons i is ih =>
    simp only [List.forIn_cons, eqElems, Sem.run_bind, Sem.run_ite]
    generalize (part e xs (i * m)).run P w = r1
    cases r1 with
    | ok a w1 =>
      simp only [Result.andThen_ok]
      generalize (part e ys (i * m)).run P w1 = r2
      cases r2 with
      | ok b w2 =>
        simp only [Result.andThen_ok]
        generalize (Op.equalIn d e a b).run P w2 = r3
        cases r3 with
        | ok r w3 =>
          cases r
          · simp only [Result.andThen_ok, Bool.not_false, if_true, Sem.run_pure]
          · simp only [Result.andThen_ok, Bool.not_true, Bool.false_eq_true, if_false, Sem.run_pure]
            exact ih w3
        | halt x w3 => simp [Result.andThen]
      | halt x w2 => simp [Result.andThen]
    | halt x w1 => simp [Result.andThen]

def EqOk (P : Program) (T : Tab) (ty : Ty) : Prop := ∀ (tid : TypeId) (d : Nat) (w0 : World) (S S' : Nat → Prop) (x y : ty.den) (u v : Value) (w : World),
  T tid = some ty → ty.dep < d → ty.flat = true → RelV1 w0 S ty x u → RelV1 w0 S' ty y v → (Op.equalIn d tid u v).run P w = .ok (ty.beq x y) w
theorem eq_fields (hT : TabOk P T) {d : Nat} : ∀ {c : Ty} {fs : List Field} {off : Nat}, (∀ i t, chainTy c i = some t → EqOk P T t) → Flds T fs off c → c.dep < d → c.flat = true →
    ∀ (w0 : World) (S S' : Nat → Prop) (x y : c.den) (xs ys : Array Value) (a b xm ym xb yb : List Value) (w : World), xs.toList = a ++ xm ++ xb → ys.toList = b ++ ym ++ yb → a.length = off → b.length = off →
    RelC w0 S c x xm → RelC w0 S' c y ym → (Op.eqFields d xs ys fs).run P w = .ok (c.beq x y) w := by
  have last : ∀ {c : Ty} {fs : List Field} {off : Nat}, c.isPair = false → EqOk P T c → Flds T fs off c → c.dep < d → c.flat = true →
      ∀ (w0 : World) (S S' : Nat → Prop) (x y : c.den) (xs ys : Array Value) (a b xm ym xb yb : List Value) (w : World), xs.toList = a ++ xm ++ xb → ys.toList = b ++ ym ++ yb → a.length = off → b.length = off →
      RelC w0 S c x xm → RelC w0 S' c y ym → (Op.eqFields d xs ys fs).run P w = .ok (c.beq x y) w := by
    intro c fs off hp he hf hd hfl w0 S S' x y xs ys a b xm ym xb yb w hx hy ha hb hrx hry
    obtain ⟨f, rfl, h1, h2, h3⟩ := hf.last hp
    obtain ⟨u, hu, hru⟩ := part_ok (hT _ _ h1) hx (ha.trans h2.symm) hrx w
    obtain ⟨v, hv, hrv⟩ := part_ok (hT _ _ h1) hy (hb.trans h2.symm) hry w
    have := he f.type d w0 S S' x y u v w h1 hd hfl hru hrv
    simp only [Op.eqFields, Sem.run_ite, if_pos h3, Sem.run_bind, hu, hv, this, Result.andThen_ok]
    cases c.beq x y <;> simp
  intro c
  induction c with
  | pair a b iha ihb =>
    intro fs off he hf hd hfl w0 S S' x y xs ys p q xm ym xb yb w hx hy ha hb hrx hry
    cases fs with
    | nil => exact hf.elim
    | cons f fs =>
      obtain ⟨h1, h2, h3, h4, h5⟩ := hf
      obtain ⟨x0, x1, ex, hx0, hx1⟩ := hrx
      obtain ⟨y0, y1, ey, hy0, hy1⟩ := hry
      simp only [Ty.dep] at hd
      simp only [Ty.flat, Bool.and_eq_true] at hfl
      obtain ⟨u, hu, hru⟩ := part_ok (hT _ _ h1) (cs := xs) (a := p) (m := x0) (b := x1 ++ xb) (by rw [hx, ex]; simp [List.append_assoc]) (ha.trans h3.symm) hx0 w
      obtain ⟨v, hv, hrv⟩ := part_ok (hT _ _ h1) (cs := ys) (a := q) (m := y0) (b := y1 ++ yb) (by rw [hy, ey]; simp [List.append_assoc]) (hb.trans h3.symm) hy0 w
      have heq := he 0 a rfl f.type d w0 S S' x.1 y.1 u v w h1 (by omega) hfl.1 hru hrv
      have hrest := ihb (fun i t hi => he (i + 1) t hi) h5 (by omega) hfl.2 w0 S S' x.2 y.2 xs ys (p ++ x0) (q ++ y0) x1 y1 xb yb w (by rw [hx, ex]; simp [List.append_assoc]) (by rw [hy, ey]; simp [List.append_assoc])
        (by rw [List.length_append, hx0.len, ha]) (by rw [List.length_append, hy0.len, hb]) hx1 hy1
      simp only [Op.eqFields, Sem.run_ite, if_pos h4, Sem.run_bind, hu, hv, heq, Result.andThen_ok]
      cases hb' : a.beq x.1 y.1
      · simp [Ty.beq, hb']
      · simp [Ty.beq, hb', hrest]
  | int k => intro fs off he; exact last rfl (he 0 _ rfl)
  | bool => intro fs off he; exact last rfl (he 0 _ rfl)
  | str => intro fs off he; exact last rfl (he 0 _ rfl)
  | sl e t _ => intro fs off he; exact last rfl (he 0 _ rfl)
  | arr n t _ => intro fs off he; exact last rfl (he 0 _ rfl)
  | st c _ => intro fs off he; exact last rfl (he 0 _ rfl)
  | tup c _ => intro fs off he; exact last rfl (he 0 _ rfl)
  | unit => intro fs off he; exact last rfl (he 0 _ rfl)
theorem eq_elems (hT : TabOk P T) {d : Nat} {t : Ty} {e : TypeId} (he : EqOk P T t) (hte : T e = some t) (hd : t.dep < d) (hfl : t.flat = true) :
    ∀ (m i : Nat) (w0 : World) (S S' : Nat → Prop) (x y : List t.den) (xs ys : Array Value) (a b xm ym : List Value) (w : World), xs.toList = a ++ xm → ys.toList = b ++ ym → a.length = i * t.size → b.length = i * t.size →
    x.length = m → y.length = m → RelL (RelC w0 S t) x xm → RelL (RelC w0 S' t) y ym → (eqElems d e t.size xs ys (List.range' i m)).run P w = .ok ((x.zip y).all fun p => t.beq p.1 p.2) w
  | 0, i, w0, S, S', x, y, xs, ys, a, b, xm, ym, w, hx, hy, ha, hb, hlx, hly, hrx, hry => by
    have : x = [] := List.eq_nil_of_length_eq_zero hlx
    subst this
    simp [eqElems]
  | m + 1, i, w0, S, S', x, y, xs, ys, a, b, xm, ym, w, hx, hy, ha, hb, hlx, hly, hrx, hry => by
    cases x with
    | nil => simp at hlx
    | cons x0 x =>
      cases y with
      | nil => simp at hly
      | cons y0 y =>
        obtain ⟨c0, c1, ex, hx0, hx1⟩ := hrx
        obtain ⟨e0, e1, ey, hy0, hy1⟩ := hry
        obtain ⟨u, hu, hru⟩ := part_ok (hT _ _ hte) (cs := xs) (a := a) (m := c0) (b := c1) (by rw [hx, ex]; simp [List.append_assoc]) ha hx0 w
        obtain ⟨v, hv, hrv⟩ := part_ok (hT _ _ hte) (cs := ys) (a := b) (m := e0) (b := e1) (by rw [hy, ey]; simp [List.append_assoc]) hb hy0 w
        have heq := he e d w0 S S' x0 y0 u v w hte hd hfl hru hrv
        have hrest := eq_elems hT he hte hd hfl m (i + 1) w0 S S' x y xs ys (a ++ c0) (b ++ e0) c1 e1 w (by rw [hx, ex]; simp [List.append_assoc]) (by rw [hy, ey]; simp [List.append_assoc])
          (by rw [List.length_append, hx0.len, ha, Nat.add_mul, Nat.one_mul]) (by rw [List.length_append, hy0.len, hb, Nat.add_mul, Nat.one_mul]) (by simpa using hlx) (by simpa using hly) hx1 hy1
        simp only [List.range'_succ, eqElems, Sem.run_bind, Sem.run_ite, hu, hv, heq, Result.andThen_ok]
        cases hb' : t.beq x0 y0
        · simp [hb']
        · simp [hb', hrest]
theorem chain_dep : ∀ {c : Ty} {i : Nat} {t : Ty}, chainTy c i = some t → t.dep ≤ c.dep
  | .pair a b, 0, t, h => by injection h with h; subst h; simp [Ty.dep]; omega
  | .pair a b, i + 1, t, h => by have := chain_dep (c := b) (i := i) h; simp [Ty.dep]; omega
  | .int _, 0, t, h => by injection h with h; subst h; exact Nat.le_refl _
  | .bool, 0, t, h => by injection h with h; subst h; exact Nat.le_refl _
  | .str, 0, t, h => by injection h with h; subst h; exact Nat.le_refl _
  | .sl _ _, 0, t, h => by injection h with h; subst h; exact Nat.le_refl _
  | .arr _ _, 0, t, h => by injection h with h; subst h; exact Nat.le_refl _
  | .st _, 0, t, h => by injection h with h; subst h; exact Nat.le_refl _
  | .tup _, 0, t, h => by injection h with h; subst h; exact Nat.le_refl _
  | .unit, 0, t, h => by injection h with h; subst h; exact Nat.le_refl _
  | .int _, _ + 1, t, h => by cases h
  | .bool, _ + 1, t, h => by cases h
  | .str, _ + 1, t, h => by cases h
  | .sl _ _, _ + 1, t, h => by cases h
  | .arr _ _, _ + 1, t, h => by cases h
  | .st _, _ + 1, t, h => by cases h
  | .tup _, _ + 1, t, h => by cases h
  | .unit, _ + 1, t, h => by cases h
theorem eq_ok (hT : TabOk P T) : ∀ (n : Nat) (ty : Ty), ty.dep ≤ n → EqOk P T ty := by
  have key : ∀ (n : Nat) (ty : Ty), ty.dep ≤ n → (∀ t : Ty, t.dep < ty.dep → EqOk P T t) → EqOk P T ty := by
    intro n ty hn ih tid d w0 S S' x y u v w ht hd hfl hu hv
    have hund := (hT tid ty ht).und
    obtain ⟨d', rfl⟩ : ∃ k, d = k + 1 := ⟨d - 1, by omega⟩
    cases ty with
    | int k =>
      have e1 : u = .int k x := by simpa [RelV1, RelC] using hu
      have e2 : v = .int k y := by simpa [RelV1, RelC] using hv
      subst e1 e2
      rw [run_equalIn_int w d' tid k k x y hund]; rfl
    | bool =>
      have e1 : u = .bool x := by simpa [RelV1, RelC] using hu
      have e2 : v = .bool y := by simpa [RelV1, RelC] using hv
      subst e1 e2
      rw [run_equalIn_bool' w d' tid x y hund]; rfl
    | str =>
      have e1 : u = .string x := by simpa [RelV1, RelC] using hu
      have e2 : v = .string y := by simpa [RelV1, RelC] using hv
      subst e1 e2
      rw [run_equalIn_string w d' tid x y hund, str_eq]; rfl
    | sl e t => simp [Ty.flat] at hfl
    | arr m t =>
      obtain ⟨e, hu1, hu2, hu3, _⟩ := hund
      obtain ⟨xs, rfl, hlx, hrx⟩ := hu
      obtain ⟨ys, rfl, hly, hry⟩ := hv
      rw [run_equalIn_array w d' m t.size tid e xs ys hu1 ((hT _ _ hu2).sizeOf w), List.range_eq_range']
      exact eq_elems hT (ih t (by simp [Ty.dep])) hu2 (by simp only [Ty.dep] at hd; omega) (by simpa [Ty.flat] using hfl) m 0 w0 S S' x y xs ys [] [] xs.toList ys.toList w (by simp) (by simp) (by simp) (by simp) hlx hly hrx hry
    | st c =>
      obtain ⟨fs, hu1, hu2, hu3, _⟩ := hund
      obtain ⟨xs, rfl, hrx⟩ := hu
      obtain ⟨ys, rfl, hry⟩ := hv
      have hfo : P.fieldsOf tid = fs := by simp [Program.fieldsOf, hu1]
      rw [run_equalIn_struct w d' tid xs ys (by rw [hfo]; exact hu1) hu3, hfo]
      exact eq_fields hT (fun i t hi => ih t (by have := chain_dep hi; simp only [Ty.dep]; omega)) hu2 (by simp only [Ty.dep] at hd; omega) (by simpa [Ty.flat] using hfl) w0 S S' x y xs ys [] [] xs.toList ys.toList [] [] w
        (by simp) (by simp) rfl rfl hrx hry
    | pair a b => exact hund.elim
    | tup c => exact hund.elim
    | unit => exact hund.elim
  intro n
  induction n with
  | zero => exact fun ty hn => key 0 ty hn (fun t ht => absurd ht (by omega))
  | succ n ihn => exact fun ty hn => key (n + 1) ty hn (fun t ht => ihn t (by omega))

theorem foldl_set (off : Nat) : ∀ (v : List Value) (k : Nat) (a m b : List Value), m.length = v.length → a.length = off + k →
    ((v.zipIdx k).foldl (fun (cs : Array Value) (p : Value × Nat) => cs.setIfInBounds (off + p.2) p.1) (a ++ m ++ b).toArray) = (a ++ v ++ b).toArray
  | [], k, a, m, b, hm, ha => by
    have : m = [] := List.eq_nil_of_length_eq_zero (by simpa using hm)
    subst this
    simp
  | u :: v, k, a, m, b, hm, ha => by
    cases m with
    | nil => simp at hm
    | cons m0 m =>
      have := foldl_set off v (k + 1) (a ++ [u]) m b (by simpa using hm) (by simp [ha]; omega)
      simp only [List.zipIdx_cons, List.foldl_cons]
      have e : (a ++ m0 :: m ++ b).toArray.setIfInBounds (off + k) u = (a ++ [u] ++ m ++ b).toArray := by
        rw [← ha]
        simp [List.set_append]
      rw [e, this]
      simp [List.append_assoc]
theorem fill_step {place : Nat → Option (Nat × Nat)} {i off size : Nat} (hp : place i = some (off, size)) {v : Value} (hv : v.cells.size = size) {a m b : List Value} (hm : m.length = size) (ha : a.length = off)
    (rest : List (Nat × Value)) : Instr.fill place (a ++ m ++ b).toArray ((i, v) :: rest) = Instr.fill place (a ++ v.cells.toList ++ b).toArray rest := by
  have hl : v.cells.toList.length = m.length := by rw [Array.length_toList, hv, hm]
  have := foldl_set off v.cells.toList 0 a m b hl.symm (by omega)
  have h2 : (v.cells.zipIdx.foldl (fun cs (c, j) => cs.setIfInBounds (off + j) c) (a ++ m ++ b).toArray) = (a ++ v.cells.toList ++ b).toArray := by
    rw [← this, ← Array.foldl_toList, Array.toList_zipIdx]
  simp only [Instr.fill, hp]
  rw [if_neg, h2]
  simp [hv, ← hm, ← ha]
theorem run_places (hT : TabOk P T) : ∀ (fs : List Field) (w : World), (∀ f ∈ fs, ∃ t, T f.type = some t) → ∃ l : List (Nat × Nat), (fs.mapM fun f => (do pure (f.offset, ← sizeOf f.type) : Sem (Nat × Nat))).run P w = .ok l w ∧
    ∀ (i : Nat) (f : Field) (t : Ty), fs[i]? = some f → T f.type = some t → l[i]? = some (f.offset, t.size)
  | [], w, _ => ⟨[], rfl, fun i f t h => by simp at h⟩
  | f :: fs, w, h => by
    obtain ⟨t, ht⟩ := h f List.mem_cons_self
    obtain ⟨l, hl, hi⟩ := run_places hT fs w (fun g hg => h g (List.mem_cons_of_mem _ hg))
    refine ⟨(f.offset, t.size) :: l, ?_, fun i g u hg hu => ?_⟩
    · simp only [List.mapM_cons, Sem.run_bind, (hT _ _ ht).sizeOf w, Result.andThen_ok, Sem.run_pure]
      rw [hl]
      rfl
    · cases i with
      | zero =>
        have : f = g := by simpa using hg
        subst this
        rw [ht] at hu
        injection hu with hu
        subst hu
        rfl
      | succ i => simpa using hi i g u (by simpa using hg) hu
end
end Go.Vm
end
section
namespace Go.Vm
open Go.RowKit
set_option linter.unusedVariables false

theorem ok_inj {α : Type} {x y : α} {m m' : Mem} {fp fp' : FP} (h : (Res.ok x).ev m fp = some (y, m', fp')) : y = x ∧ m' = m := by
  injection h with h
  injection h with h1 h2
  injection h2 with h2 h3
  exact ⟨h1.symm, h2.symm⟩
theorem fail_ne {α : Type} {y : α} {m m' : Mem} {fp fp' : FP} (h : (Res.fail : Res α).ev m fp = some (y, m', fp')) : False := by cases h

theorem Rel.arrLt {E : Env} {c : Cx} (h : Rel E c) {a : Nat} {A : Arr} (ha : c.m.arr a = .at_ A) (ho : A.open_ = true) {g : Nat} (hg : (c.ar a).ownBlock = some g) : g < c.w.heap.size := by
  have := h.arr a A ha
  unfold RelA at this
  rw [if_pos ho] at this
  obtain ⟨_, h1, _⟩ := this
  exact (h1.lt g hg).2
theorem alloc_below (w : World) (o : Obj) : Below w.heap.size w { w with heap := w.heap.push o } := (Below.refl _ _).alloc (Nat.le_refl _) o

section
variable {P : Program} {T : Tab} {E : Env} {c : Cx}

theorem newBox_ok (hr : Rel E c) {d : Nat} {t : Ty} {x : t.den} {v : V} {m' : Mem} {fp fp' : FP} (h : (newBox d t x).ev c.m fp = some (v, m', fp')) (cells : Array Value) (tid : TypeId)
    (hx : RelC c.w c.S t x cells.toList) : ∃ c', c'.m = m' ∧ c'.w = { c.w with heap := c.w.heap.push (.cells cells tid) } ∧ Rel E c' ∧ Ext c c' ∧ RelV P E c' v (.pointer (some ⟨c.w.heap.size, 0, none⟩)) := by
  simp only [newBox, Res.ev] at h
  cases hd : c.m.box d with
  | some B => rw [hd] at h; exact (fail_ne h).elim
  | none =>
    rw [hd] at h
    simp only [Res.ev] at h
    obtain ⟨rfl, rfl⟩ := ok_inj h
    have hb := alloc_below c.w (.cells cells tid)
    obtain ⟨r1, e1⟩ := below_ok hr hb (S' := c.S) (fun _ h => h) (fun _ h => .inl h)
    have hnew : ({ c.w with heap := c.w.heap.push (.cells cells tid) } : World).heap[c.w.heap.size]? = some (.cells cells tid (0, 0)) := by simp
    obtain ⟨r2, e2⟩ := addBox_ok r1 hd (t := t) (x := x) hnew (hx.move e1.w (fun _ h => h)) (.inl hr.size) (fun hs => Nat.lt_irrefl _ (hr.lt _ hs))
      (fun b hb' e => by
        cases hB : c.m.box b with
        | none => exact hb' hB
        | some B => have := hr.boxLt hB; simp only at e; omega)
      (fun a A hA ho hg => by have := hr.arrLt hA ho hg; omega)
    exact ⟨{ c with bx := upd c.bx d c.w.heap.size, m := c.m.setB d ⟨t, x⟩, w := { c.w with heap := c.w.heap.push (.cells cells tid) } }, rfl, rfl, r2, e1.trans e2, ⟨t, x⟩, by simp [Mem.setB, upd], rfl, trivial, by simp [upd, pathOff]⟩

theorem newArr_ok (hr : Rel E c) {d : Nat} {e : TypeId} {t : Ty} {xs : List t.den} {v : V} {m' : Mem} {fp fp' : FP} (h : (newArr d e t xs).ev c.m fp = some (v, m', fp')) {u : Value} (hl : Loose E c e t xs u) :
    ∃ c', c'.m = m' ∧ c'.w = c.w ∧ Rel E c' ∧ Ext c c' ∧ RelV P E c' v u := by
  simp only [newArr, Res.ev] at h
  cases hd : c.m.arr d with
  | dead => rw [hd] at h; exact (fail_ne h).elim
  | at_ A => rw [hd] at h; exact (fail_ne h).elim
  | no =>
    rw [hd] at h
    simp only [Res.ev] at h
    obtain ⟨rfl, rfl⟩ := ok_inj h
    obtain ⟨r, e1⟩ := addArr_ok hr hd hl
    exact ⟨{ c with ar := upd c.ar d u, m := c.m.setA d (.at_ ⟨e, t, xs, true⟩) }, rfl, rfl, r, e1, by simp [Mem.setA, upd], fun A hA => by simp [upd]⟩

theorem fresh_loose (hr : Rel E c) {e : TypeId} {t : Ty} {xs : List t.den} {cells : Array Value} (hx : RelL (RelC c.w c.S t) xs cells.toList) (hn : xs.length ≤ maxLen) :
    ∃ c', c'.m = c.m ∧ c'.w = { c.w with heap := c.w.heap.push (.cells cells e) } ∧ Rel E c' ∧ Ext c c' ∧ Loose E c' e t xs (.slice (some ⟨c.w.heap.size, 0, none⟩) xs.length xs.length) := by
  have hb := alloc_below c.w (.cells cells e)
  obtain ⟨r1, e1⟩ := below_ok hr hb (S' := c.S) (fun _ h => h) (fun _ h => .inl h)
  have hnew : ({ c.w with heap := c.w.heap.push (.cells cells e) } : World).heap[c.w.heap.size]? = some (.cells cells e (0, 0)) := by simp
  have hlen : cells.toList.length = xs.length * t.size := hx.len (fun _ _ h => RelC.len h)
  refine ⟨{ c with w := { c.w with heap := c.w.heap.push (.cells cells e) } }, rfl, rfl, r1, e1, ⟨cells.toList, ⟨hlen, .inr ⟨c.w.heap.size, xs.length, cells, rfl, hr.size, hnew, Nat.le_refl _, hn, by simpa using hlen, ?_⟩⟩, hx.imp (fun _ _ h => h.move e1.w (fun _ h => h))⟩, ?_⟩
  · rw [← hlen, List.take_length]
  · intro g hg
    have : c.w.heap.size = g := by simpa [Value.ownBlock] using hg
    subst this
    refine ⟨fun hs => Nat.lt_irrefl _ (hr.lt _ hs), fun b hb' e => ?_, fun a A hA ho hg => ?_⟩
    · cases hB : c.m.box b with
      | none => exact hb' hB
      | some B => have := hr.boxLt hB; simp only at e; omega
    · have := hr.arrLt hA ho hg; omega

theorem relV_ext {ρ : Operand → V} {ρ' : Operand → Value} {c' : Cx} (h : ∀ x, RelV P E c (ρ x) (ρ' x)) (he : Ext c c') : ∀ x, RelV P E c' (ρ x) (ρ' x) := fun x => (h x).ext he

theorem buildC_ok {ρ : Operand → V} {ρ' : Operand → Value} {ct : Ty} {place : Nat → Option (Nat × Nat)} (hpl : ∀ i t, chainTy ct i = some t → place i = some (chainOff ct i, t.size) ∧ t.good = true) :
    ∀ (l : List (Nat × Operand)) (c : Cx) (x : ct.den) (cs : List Value) (y : ct.den) (m' : Mem) (fp fp' : FP), Rel E c → (∀ x, RelV P E c (ρ x) (ρ' x)) → RelC c.w c.S ct x cs →
    (buildC ct x (l.map fun p => (p.1, ρ p.2))).ev c.m fp = some (y, m', fp') →
    ∃ S' cs', Rel E { c with S := S', m := m' } ∧ Ext c { c with S := S', m := m' } ∧ Instr.fill place cs.toArray (l.map fun p => (p.1, ρ' p.2)) = some cs'.toArray ∧ RelC c.w S' ct y cs'
  | [], c, x, cs, y, m', fp, fp', hr, hρ, hc, h => by
    obtain ⟨rfl, rfl⟩ := ok_inj h
    exact ⟨c.S, cs, hr, Ext.refl c, rfl, hc⟩
  | (i, o) :: l, c, x, cs, y, m', fp, fp', hr, hρ, hc, h => by
    simp only [List.map_cons, buildC] at h
    split at h
    · rename_i d hd
      obtain ⟨z, m1, fp1, h1, h2⟩ := Res.bind_some h
      obtain ⟨S1, r1, e1, hz⟩ := asDat_ok hr (hρ o) h1
      split at h2
      · rename_i x' hx'
        obtain ⟨hty, _⟩ := chainGet_rel hc hd
        obtain ⟨hp, hgd⟩ := hpl i d.t hty
        have hv1 := (hz.v1 hgd).cells
        obtain ⟨a, m, b, ec, ha, hm, hs⟩ := chainSet_rel (hc.move e1.w e1.S) hx'
        have hnew := hs _ hv1
        obtain ⟨S2, cs2, r2, e2, hf, hR⟩ := buildC_ok hpl l { c with S := S1, m := m1 } x' _ y m' fp1 fp' r1 (relV_ext hρ e1) hnew h2
        refine ⟨S2, cs2, r2, e1.trans e2, ?_, hR⟩
        rw [List.map_cons, ec, fill_step hp (by rw [← Array.length_toList]; exact hv1.len) hm ha]
        exact hf
      · exact (fail_ne h2).elim
    · exact (fail_ne h).elim
theorem buildL_ok {ρ : Operand → V} {ρ' : Operand → Value} {t : Ty} (hgd : t.good = true) {place : Nat → Option (Nat × Nat)} (hpl : ∀ i, place i = some (i * t.size, t.size)) :
    ∀ (l : List (Nat × Operand)) (c : Cx) (xs : List t.den) (cs : List Value) (y : List t.den) (m' : Mem) (fp fp' : FP), Rel E c → (∀ x, RelV P E c (ρ x) (ρ' x)) → RelL (RelC c.w c.S t) xs cs →
    (buildL t xs (l.map fun p => (p.1, ρ p.2))).ev c.m fp = some (y, m', fp') →
    ∃ S' cs', Rel E { c with S := S', m := m' } ∧ Ext c { c with S := S', m := m' } ∧ Instr.fill place cs.toArray (l.map fun p => (p.1, ρ' p.2)) = some cs'.toArray ∧ RelL (RelC c.w S' t) y cs' ∧ y.length = xs.length
  | [], c, x, cs, y, m', fp, fp', hr, hρ, hc, h => by
    obtain ⟨rfl, rfl⟩ := ok_inj h
    exact ⟨c.S, cs, hr, Ext.refl c, rfl, hc, rfl⟩
  | (i, o) :: l, c, xs, cs, y, m', fp, fp', hr, hρ, hc, h => by
    simp only [List.map_cons, buildL] at h
    split at h
    · rename_i hd
      have hlt : i < xs.length := of_decide_eq_true hd
      obtain ⟨z, m1, fp1, h1, h2⟩ := Res.bind_some h
      obtain ⟨S1, r1, e1, hz⟩ := asDat_ok hr (hρ o) h1
      have hv1 := (hz.v1 hgd).cells
      obtain ⟨a, m, b, ec, ha, hm, hta, htb⟩ := (hc.imp (fun _ _ h => h.move e1.w e1.S)).at_ (fun _ _ h => RelC.len h) (getD_some hlt t.zero)
      have hnew := RelL.set hv1 hlt hta htb
      obtain ⟨S2, cs2, r2, e2, hf, hR, hl⟩ := buildL_ok hgd hpl l { c with S := S1, m := m1 } (xs.set i z) _ y m' fp1 fp' r1 (relV_ext hρ e1) hnew h2
      refine ⟨S2, cs2, r2, e1.trans e2, ?_, hR, by rw [hl, List.length_set]⟩
      rw [List.map_cons, ec, fill_step (hpl i) (by rw [← Array.length_toList]; exact hv1.len) hm.len ha]
      exact hf
    · exact (fail_ne h).elim

theorem cells_in {w : World} {g : Nat} {cs : Array Value} {tid : TypeId} (hg : w.heap[g]? = some (.cells cs tid (0, 0))) {a m b : List Value} (hc : cs.toList = a ++ m ++ b) : CellsAt w ⟨g, a.length, none⟩ m := fun i u hu => by
  have : (⟨g, a.length, none⟩ : Addr).add i = ⟨g, a.length + i, none⟩ := Addr.add_mid g a.length i
  rw [this, cell_of_row w g (a.length + i) cs tid (0, 0) hg, ← Array.getElem?_toList, hc, List.append_assoc, List.getElem?_append_right (by omega), Nat.add_sub_cancel_left,
    List.getElem?_append_left (List.getElem?_eq_some_iff.1 hu).1]
  exact hu
end
end Go.Vm
end
section
namespace Go.Vm
open Go.RowKit
set_option linter.unusedVariables false
set_option linter.unusedSimpArgs false

theorem add_add' (a : Addr) (i j : Nat) : (a.add i).add j = a.add (i + j) := by
  unfold Addr.add
  by_cases hi : i = 0
  · subst hi; simp
  · by_cases hj : j = 0
    · subst hj; simp [hi]
    · simp [hi, hj, Nat.add_assoc]
theorem add_block' (a : Addr) (i : Nat) : (a.add i).block = a.block := by unfold Addr.add; split <;> rfl
theorem getD_rel {α : Type} {R : α → List Value → Prop} {n : Nat} (h : ∀ y c, R y c → c.length = n) {xs : List α} {cs : List Value} (hr : RelL R xs cs) {j : Nat} (hj : j < xs.length) (z : α) :
    ∃ a m b, cs = a ++ m ++ b ∧ a.length = j * n ∧ R (xs.getD j z) m := by
  obtain ⟨a, m, b, e, hl, hm, _, _⟩ := hr.at_ h (getD_some hj z)
  exact ⟨a, m, b, e, hl, hm⟩
theorem CellsAt.mid {w : World} {ad : Addr} {a m b : List Value} (h : CellsAt w ad (a ++ m ++ b)) : CellsAt w (ad.add a.length) m := fun i u hu => by
  rw [add_add']
  refine h (a.length + i) u ?_
  rw [List.append_assoc, List.getElem?_append_right (by omega), Nat.add_sub_cancel_left, List.getElem?_append_left (List.getElem?_eq_some_iff.1 hu).1]
  exact hu
theorem pathTy_app : ∀ {p q : List PS} {t u : Ty}, pathTy p t = some u → pathTy (p ++ q) t = pathTy q u
  | [], q, t, u, h => by injection h with h; subst h; rfl
  | .fld i :: p, q, .st c, u, h => by
    simp only [pathTy, List.cons_append] at h ⊢
    split at h
    · exact pathTy_app h
    · cases h
  | .idx i :: p, q, .arr n t, u, h => pathTy_app (p := p) h
  | .fld _ :: _, _, .int _, _, h => by cases h
  | .fld _ :: _, _, .bool, _, h => by cases h
  | .fld _ :: _, _, .str, _, h => by cases h
  | .fld _ :: _, _, .sl _ _, _, h => by cases h
  | .fld _ :: _, _, .arr _ _, _, h => by cases h
  | .fld _ :: _, _, .pair _ _, _, h => by cases h
  | .fld _ :: _, _, .tup _, _, h => by cases h
  | .fld _ :: _, _, .unit, _, h => by cases h
  | .idx _ :: _, _, .int _, _, h => by cases h
  | .idx _ :: _, _, .bool, _, h => by cases h
  | .idx _ :: _, _, .str, _, h => by cases h
  | .idx _ :: _, _, .sl _ _, _, h => by cases h
  | .idx _ :: _, _, .st _, _, h => by cases h
  | .idx _ :: _, _, .pair _ _, _, h => by cases h
  | .idx _ :: _, _, .tup _, _, h => by cases h
  | .idx _ :: _, _, .unit, _, h => by cases h
theorem pathOff_app : ∀ {p q : List PS} {t u : Ty}, pathTy p t = some u → pathOff (p ++ q) t = pathOff p t + pathOff q u
  | [], q, t, u, h => by injection h with h; subst h; simp [pathOff]
  | .fld i :: p, q, .st c, u, h => by
    simp only [pathTy, List.cons_append, pathOff] at h ⊢
    split at h
    · rename_i t ht; first | (rw [ht]; simp only; rw [pathOff_app h, Nat.add_assoc]) | rw [pathOff_app h, Nat.add_assoc]
    · cases h
  | .idx i :: p, q, .arr n t, u, h => by
    simp only [List.cons_append, pathOff]
    rw [pathOff_app (p := p) h, Nat.add_assoc]
  | .fld _ :: _, _, .int _, _, h => by cases h
  | .fld _ :: _, _, .bool, _, h => by cases h
  | .fld _ :: _, _, .str, _, h => by cases h
  | .fld _ :: _, _, .sl _ _, _, h => by cases h
  | .fld _ :: _, _, .arr _ _, _, h => by cases h
  | .fld _ :: _, _, .pair _ _, _, h => by cases h
  | .fld _ :: _, _, .tup _, _, h => by cases h
  | .fld _ :: _, _, .unit, _, h => by cases h
  | .idx _ :: _, _, .int _, _, h => by cases h
  | .idx _ :: _, _, .bool, _, h => by cases h
  | .idx _ :: _, _, .str, _, h => by cases h
  | .idx _ :: _, _, .sl _ _, _, h => by cases h
  | .idx _ :: _, _, .st _, _, h => by cases h
  | .idx _ :: _, _, .pair _ _, _, h => by cases h
  | .idx _ :: _, _, .tup _, _, h => by cases h
  | .idx _ :: _, _, .unit, _, h => by cases h
theorem pathIn_app : ∀ {p q : List PS} {t u : Ty}, pathTy p t = some u → PathIn p t → PathIn q u → PathIn (p ++ q) t
  | [], q, t, u, h, _, hq => by injection h with h; subst h; exact hq
  | .fld i :: p, q, .st c, u, h, ⟨t, ht, hp⟩, hq => by
    simp only [pathTy, ht] at h
    exact ⟨t, ht, pathIn_app h hp hq⟩
  | .idx i :: p, q, .arr n t, u, h, ⟨h0, h1, hp⟩, hq => ⟨h0, h1, pathIn_app (p := p) h hp hq⟩
  | .fld _ :: _, _, .int _, _, _, hp, _ => hp.elim
  | .fld _ :: _, _, .bool, _, _, hp, _ => hp.elim
  | .fld _ :: _, _, .str, _, _, hp, _ => hp.elim
  | .fld _ :: _, _, .sl _ _, _, _, hp, _ => hp.elim
  | .fld _ :: _, _, .arr _ _, _, _, hp, _ => hp.elim
  | .fld _ :: _, _, .pair _ _, _, _, hp, _ => hp.elim
  | .fld _ :: _, _, .tup _, _, _, hp, _ => hp.elim
  | .fld _ :: _, _, .unit, _, _, hp, _ => hp.elim
  | .idx _ :: _, _, .int _, _, _, hp, _ => hp.elim
  | .idx _ :: _, _, .bool, _, _, hp, _ => hp.elim
  | .idx _ :: _, _, .str, _, _, hp, _ => hp.elim
  | .idx _ :: _, _, .sl _ _, _, _, hp, _ => hp.elim
  | .idx _ :: _, _, .st _, _, _, hp, _ => hp.elim
  | .idx _ :: _, _, .pair _ _, _, _, hp, _ => hp.elim
  | .idx _ :: _, _, .tup _, _, _, hp, _ => hp.elim
  | .idx _ :: _, _, .unit, _, _, hp, _ => hp.elim

section
variable {P : Program} {T : Tab} {E : Env}

def Goes (P : Program) (E : Env) (c : Cx) (ρ' : Operand → Value) (o : Oper) (v : V) (m' : Mem) : Prop :=
  ∃ c' u, c'.m = m' ∧ Rel E c' ∧ Ext c c' ∧ RelV P E c' v u ∧ ((execOp ρ' o).run P c.w = .ok (.value u) c'.w ∨ ((execOp ρ' o).run P c.w = .ok .skip c'.w ∧ u = undef))
theorem Goes.pure {c : Cx} {ρ' : Operand → Value} {o : Oper} {v : V} (hr : Rel E c) {u : Value} (hv : RelV P E c v u) (h : (execOp ρ' o).run P c.w = .ok (.value u) c.w) : Goes P E c ρ' o v c.m :=
  ⟨c, u, rfl, hr, Ext.refl c, hv, .inl h⟩

variable {c : Cx}
theorem relV_int {k : IntKind} {n : Int} {v : Value} (h : RelV P E c (.dat ⟨.int k, n⟩) v) : v = .int k n := by simpa [RelV, RelD, RelV1, RelC] using h
theorem relV_bool {b : Bool} {v : Value} (h : RelV P E c (.dat ⟨.bool, b⟩) v) : v = .bool b := by simpa [RelV, RelD, RelV1, RelC] using h
theorem relV_str {s : ByteArray} {v : Value} (h : RelV P E c (.dat ⟨.str, s⟩) v) : v = .string s := by simpa [RelV, RelD, RelV1, RelC] using h
theorem relV_intV {k : IntKind} {n : Int} : RelV P E c (intV k n) (.int k n) := rfl
theorem relV_boolV {b : Bool} : RelV P E c (boolV b) (.bool b) := rfl
theorem relV_strV {s : ByteArray} : RelV P E c (strV s) (.string s) := rfl

theorem eqGuard_int (op : BinOp) (t : TypeId) (x y : Operand) (k k' : IntKind) (a b : Int) (w : World) : (eqGuard op t x y (.int k a) (.int k' b)).run P w = .ok () w := by
  cases op <;> simp [eqGuard]
theorem eqGuard_str (op : BinOp) (t : TypeId) (x y : Operand) (a b : ByteArray) (w : World) : (eqGuard op t x y (.string a) (.string b)).run P w = .ok () w := by
  cases op <;> simp [eqGuard]
theorem eqGuard_bool (op : BinOp) (t : TypeId) (x y : Operand) (a b : Bool) (w : World) : (eqGuard op t x y (.bool a) (.bool b)).run P w = .ok () w := by
  cases op <;> simp [eqGuard]
theorem eqGuard_agg (op : BinOp) (t : TypeId) (x y : Operand) (a b : Array Value) (w : World) (h : P.eqGuardType P.depth t = false) : (eqGuard op t x y (.agg a) (.agg b)).run P w = .ok () w := by
  cases op <;> simp [eqGuard, h]

theorem binInt_ok {op : BinOp} {t : TypeId} {k : IntKind} {a b : Int} {w : World} {v : V} {m m' : Mem} {fp fp' : FP} (hs : op ≠ .shl) (hs' : op ≠ .shr) (h : (binInt op k a b).ev m fp = some (v, m', fp')) :
    m' = m ∧ ∃ u, (∀ c : Cx, RelV P E c v u) ∧ (binOp op t (.int k a) (.int k b)).run P w = .ok u w := by
  cases op <;> simp only [binInt] at h
  case add => obtain ⟨rfl, rfl⟩ := ok_inj h; exact ⟨rfl, _, fun _ => relV_intV, by simp [binOp, Op.intArith]⟩
  case sub => obtain ⟨rfl, rfl⟩ := ok_inj h; exact ⟨rfl, _, fun _ => relV_intV, by simp [binOp, Op.intArith]⟩
  case mul => obtain ⟨rfl, rfl⟩ := ok_inj h; exact ⟨rfl, _, fun _ => relV_intV, by simp [binOp, Op.intArith]⟩
  case quo =>
    obtain ⟨hb, h⟩ := Res.chk_some h
    obtain ⟨rfl, rfl⟩ := ok_inj h
    have hb' : b ≠ 0 := by simpa using hb
    exact ⟨rfl, _, fun _ => relV_intV, by simp [binOp, Op.intDiv, hb']⟩
  case rem =>
    obtain ⟨hb, h⟩ := Res.chk_some h
    obtain ⟨rfl, rfl⟩ := ok_inj h
    have hb' : b ≠ 0 := by simpa using hb
    exact ⟨rfl, _, fun _ => relV_intV, by simp [binOp, Op.intDiv, hb']⟩
  case and => obtain ⟨rfl, rfl⟩ := ok_inj h; exact ⟨rfl, _, fun _ => relV_intV, by simp [binOp, Op.intBits, bitsI]⟩
  case or => obtain ⟨rfl, rfl⟩ := ok_inj h; exact ⟨rfl, _, fun _ => relV_intV, by simp [binOp, Op.intBits, bitsI]⟩
  case xor => obtain ⟨rfl, rfl⟩ := ok_inj h; exact ⟨rfl, _, fun _ => relV_intV, by simp [binOp, Op.intBits, bitsI]⟩
  case andNot => obtain ⟨rfl, rfl⟩ := ok_inj h; exact ⟨rfl, _, fun _ => relV_intV, by simp [binOp, Op.intBits, bitsI]⟩
  case eql => obtain ⟨rfl, rfl⟩ := ok_inj h; exact ⟨rfl, _, fun _ => relV_boolV, by simp [binOp, Op.intCmp]⟩
  case neq => obtain ⟨rfl, rfl⟩ := ok_inj h; exact ⟨rfl, _, fun _ => relV_boolV, by simp [binOp, Op.intCmp]⟩
  case lss => obtain ⟨rfl, rfl⟩ := ok_inj h; exact ⟨rfl, _, fun _ => relV_boolV, by simp [binOp, Op.intCmp]⟩
  case leq => obtain ⟨rfl, rfl⟩ := ok_inj h; exact ⟨rfl, _, fun _ => relV_boolV, by simp [binOp, Op.intCmp]⟩
  case gtr => obtain ⟨rfl, rfl⟩ := ok_inj h; exact ⟨rfl, _, fun _ => relV_boolV, by simp [binOp, Op.intCmp]⟩
  case geq => obtain ⟨rfl, rfl⟩ := ok_inj h; exact ⟨rfl, _, fun _ => relV_boolV, by simp [binOp, Op.intCmp]⟩
  case shl => exact absurd rfl hs
  case shr => exact absurd rfl hs'
theorem binStr_ok {op : BinOp} {t : TypeId} {a b : ByteArray} {w : World} {v : V} {m m' : Mem} {fp fp' : FP} (h : (binStr op a b).ev m fp = some (v, m', fp')) :
    m' = m ∧ ∃ u, (∀ c : Cx, RelV P E c v u) ∧ (binOp op t (.string a) (.string b)).run P w = .ok u w := by
  cases op <;> simp only [binStr] at h
  case add =>
    obtain ⟨hb, h⟩ := Res.chk_some h
    obtain ⟨rfl, rfl⟩ := ok_inj h
    have hb' : a.size + b.size < 4294967296 := of_decide_eq_true hb
    refine ⟨rfl, _, fun _ => relV_strV, ?_⟩
    have : ¬ (((a.size + b.size : Nat) : Int) > IntKind.i64.max) := by
      have : IntKind.i64.max = 9223372036854775807 := by decide
      rw [this]; omega
    simp only [binOp, Op.stringOp]
    rw [if_neg this]
    rfl
  case eql => obtain ⟨rfl, rfl⟩ := ok_inj h; exact ⟨rfl, _, fun _ => relV_boolV, by simp [binOp, Op.stringOp, str_eq]⟩
  case neq => obtain ⟨rfl, rfl⟩ := ok_inj h; exact ⟨rfl, _, fun _ => relV_boolV, by simp [binOp, Op.stringOp, str_eq]⟩
  case lss => obtain ⟨rfl, rfl⟩ := ok_inj h; exact ⟨rfl, _, fun _ => relV_boolV, by simp [binOp, Op.stringOp, strLt]⟩
  case leq => obtain ⟨rfl, rfl⟩ := ok_inj h; exact ⟨rfl, _, fun _ => relV_boolV, by simp [binOp, Op.stringOp, str_eq, strLt]⟩
  case gtr => obtain ⟨rfl, rfl⟩ := ok_inj h; exact ⟨rfl, _, fun _ => relV_boolV, by simp [binOp, Op.stringOp, str_eq, strLt]⟩
  case geq => obtain ⟨rfl, rfl⟩ := ok_inj h; exact ⟨rfl, _, fun _ => relV_boolV, by simp [binOp, Op.stringOp, strLt]⟩
  all_goals exact (fail_ne h).elim

theorem eq_any (hT : TabOk P T) {op : BinOp} {xt : TypeId} {ty : Ty} {x y : ty.den} {w : World} {S : Nat → Prop} {u v : Value} (px py : Operand) (hxt : T xt = some ty) (hfl : ty.flat = true) (hu : RelV1 w S ty x u) (hv : RelV1 w S ty y v)
    (hop : op = .eql ∨ op = .neq) (hint : ∀ k, ty ≠ .int k) (hstr : ty ≠ .str) :
    (eqGuard op xt px py u v).run P w = .ok () w ∧ (binOp op xt u v).run P w = .ok (.bool (if op = .eql then ty.beq x y else !ty.beq x y)) w := by
  have hok := hT xt ty hxt
  have heq : (Op.equal xt u v).run P w = .ok (ty.beq x y) w := eq_ok hT ty.dep ty (Nat.le_refl _) xt Op.maxDepth w S S x y u v w hxt (by have := hok.dep; unfold Op.maxDepth; omega) hfl hu hv
  have hund := hok.und
  cases ty with
  | int k => exact absurd rfl (hint k)
  | str => exact absurd rfl hstr
  | bool =>
    have e1 : u = .bool x := by simpa [RelV1, RelC] using hu
    have e2 : v = .bool y := by simpa [RelV1, RelC] using hv
    subst e1 e2
    refine ⟨eqGuard_bool _ _ _ _ _ _ _, ?_⟩
    rcases hop with rfl | rfl <;> simp [binOp, heq]
  | sl e t => simp [Ty.flat] at hfl
  | arr n t =>
    obtain ⟨e, _, _, _, hg⟩ := hund
    obtain ⟨xs, rfl, _⟩ := hu
    obtain ⟨ys, rfl, _⟩ := hv
    refine ⟨eqGuard_agg _ _ _ _ _ _ _ hg, ?_⟩
    rcases hop with rfl | rfl <;> simp [binOp, heq]
  | st c =>
    obtain ⟨fs, _, _, _, hg⟩ := hund
    obtain ⟨xs, rfl, _⟩ := hu
    obtain ⟨ys, rfl, _⟩ := hv
    refine ⟨eqGuard_agg _ _ _ _ _ _ _ hg, ?_⟩
    rcases hop with rfl | rfl <;> simp [binOp, heq]
  | pair a b => exact hu.elim
  | tup c => exact hu.elim
  | unit => exact hu.elim

theorem binD_ok (hT : TabOk P T) {op : BinOp} {xt : TypeId} {x y : D} {px py : Operand} {u1 u2 : Value} (h1 : RelV P E c (.dat x) u1) (h2 : RelV P E c (.dat y) u2) {v : V} {m m' : Mem} {fp fp' : FP}
    (h : (binD T xt op x y).ev m fp = some (v, m', fp')) :
    m' = m ∧ ∃ u, RelV P E c v u ∧ (do eqGuard op xt px py u1 u2; binOp op xt u1 u2 : Sem Value).run P c.w = .ok u c.w := by
  unfold binD at h
  split at h
  · rename_i k a k' b
    have e1 := relV_int h1
    have e2 := relV_int h2
    subst e1 e2
    simp only [Sem.run_bind, eqGuard_int, Result.andThen_ok]
    split at h
    · obtain ⟨hb, h⟩ := Res.chk_some h
      obtain ⟨rfl, rfl⟩ := ok_inj h
      have hb' : ¬ (b : Int) < 0 := Int.not_lt.2 (of_decide_eq_true hb)
      exact ⟨rfl, _, relV_intV, by simp [binOp, Op.shift, hb', shlI]⟩
    · obtain ⟨hb, h⟩ := Res.chk_some h
      obtain ⟨rfl, rfl⟩ := ok_inj h
      have hb' : ¬ (b : Int) < 0 := Int.not_lt.2 (of_decide_eq_true hb)
      exact ⟨rfl, _, relV_intV, by simp [binOp, Op.shift, hb', shrI]⟩
    · rename_i hn1 hn2
      split at h
      · rename_i hk
        subst hk
        obtain ⟨e, u, hu, hrun⟩ := binInt_ok (P := P) (E := E) (t := xt) (w := c.w) (fun e => hn1 (by rw [e])) (fun e => hn2 (by rw [e])) h
        exact ⟨e, u, hu c, hrun⟩
      · exact (fail_ne h).elim
  · rename_i a b
    have e1 := relV_str h1
    have e2 := relV_str h2
    subst e1 e2
    simp only [Sem.run_bind, eqGuard_str, Result.andThen_ok]
    obtain ⟨e, u, hu, hrun⟩ := binStr_ok (P := P) (E := E) (t := xt) (w := c.w) h
    exact ⟨e, u, hu c, hrun⟩
  · rename_i hni hns
    split at h
    · rename_i he
      obtain ⟨ty, a⟩ := x
      obtain ⟨ty', b⟩ := y
      simp only at he
      subst he
      have hint : ∀ k, ty' ≠ .int k := fun k e => by subst e; exact hni _ _ _ _ rfl rfl
      have hstr : ty' ≠ .str := fun e => by subst e; exact hns _ _ rfl rfl
      have key : ∀ op', (op' = .eql ∨ op' = .neq) → (decide (T xt = some ty') && ty'.flat) = true → (do eqGuard op' xt px py u1 u2; binOp op' xt u1 u2 : Sem Value).run P c.w = .ok (.bool (if op' = .eql then ty'.beq a b else !ty'.beq a b)) c.w := by
        intro op' hop hc
        simp only [Bool.and_eq_true, decide_eq_true_eq] at hc
        have hg := (hT _ _ hc.1).good
        have hr := eq_any hT (x := a) (y := b) (u := u1) (v := u2) px py hc.1 hc.2 (RelD.v1 (t := ty') (x := a) hg h1) (RelD.v1 (t := ty') (x := b) hg h2) hop hint hstr
        simp only [Sem.run_bind, hr.1, Result.andThen_ok, hr.2]
      split at h
      · rename_i hc
        obtain ⟨rfl, rfl⟩ := ok_inj h
        exact ⟨rfl, _, relV_boolV, key .eql (.inl rfl) hc⟩
      · rename_i hc
        obtain ⟨rfl, rfl⟩ := ok_inj h
        exact ⟨rfl, _, relV_boolV, key .neq (.inr rfl) hc⟩
      · exact (fail_ne h).elim
    · exact (fail_ne h).elim
end
end Go.Vm
end
section
namespace Go.Vm
open Go.RowKit
set_option linter.unusedVariables false
set_option linter.unusedSimpArgs false
section
variable {P : Program} {T : Tab} {E : Env} {c : Cx}

theorem convD_ok (hT : TabOk P T) {src dst : TypeId} {ts td : Ty} (h1 : T src = some ts) (h2 : T dst = some td) {x : D} {u0 : Value} (hx : RelV P E c (.dat x) u0) {v : V} {m m' : Mem} {fp fp' : FP}
    (h : (convD td x).ev m fp = some (v, m', fp')) : m' = m ∧ ∃ u, RelV P E c v u ∧ (convert src dst u0).run P c.w = .ok u c.w := by
  have hs : ∃ d, P.underlying src = some d := by
    have := (hT _ _ h1).und
    cases ts with
    | int k => exact ⟨_, this⟩
    | bool => exact ⟨_, this⟩
    | str => exact ⟨_, this⟩
    | sl e t => exact ⟨_, this.1⟩
    | arr n t => obtain ⟨e, h, _⟩ := this; exact ⟨_, h⟩
    | st c => obtain ⟨fs, h, _⟩ := this; exact ⟨_, h⟩
    | pair a b => exact this.elim
    | tup c => exact this.elim
    | unit => exact this.elim
  obtain ⟨d, hd⟩ := hs
  have hu := (hT _ _ h2).und
  unfold convD at h
  split at h
  · rename_i k n
    have := relV_int hx
    subst this
    split at h
    · obtain ⟨rfl, rfl⟩ := ok_inj h
      exact ⟨rfl, _, relV_intV, by simp [convert, run_underlying hd, run_underlying hu, Conv.intToInt]⟩
    · exact (fail_ne h).elim
  · rename_i s
    have := relV_str hx
    subst this
    split at h
    · obtain ⟨rfl, rfl⟩ := ok_inj h
      exact ⟨rfl, _, relV_strV, by simp [convert, run_underlying hd, run_underlying hu]⟩
    · exact (fail_ne h).elim
  · exact (fail_ne h).elim

theorem loadV_ok (hT : TabOk P T) {tid : TypeId} {ty : Ty} (ht : T tid = some ty) (hr : Rel E c) {x : V} {u0 : Value} (hx : RelV P E c x u0) {v : V} {m' : Mem} {fp fp' : FP}
    (h : (loadV ty x).ev c.m fp = some (v, m', fp')) : m' = c.m ∧ ∃ u, RelV P E c v u ∧ (Instr.loadAt tid u0).run P c.w = .ok u c.w := by
  have hok := hT _ _ ht
  unfold loadV at h
  split at h
  · rename_i b p t
    split at h
    · rename_i hty
      subst hty
      obtain ⟨B, hB, hpt, hp, rfl⟩ := hx
      simp only [Res.ev, hB] at h
      split at h
      · rename_i d hd
        split at h
        · rename_i hdt
          obtain ⟨rfl, rfl⟩ := ok_inj h
          obtain ⟨cs, tid', hh, hc⟩ := hr.box b B hB
          obtain ⟨a, m, b', e, hl, hm⟩ := getP_rel hc hp hd
          obtain ⟨dt, dx⟩ := d
          simp only at hdt
          subst hdt
          have hca := cells_in hh e
          rw [hl] at hca
          obtain ⟨u, hu, hru⟩ := load_ok hok hm hca hok.np
          exact ⟨rfl, u, RelD.of_v1 hru, by simp [Instr.loadAt, Instr.sureAddr, hu]⟩
        · exact (fail_ne h).elim
      · exact (fail_ne h).elim
    · exact (fail_ne h).elim
  · rename_i d
    split at h
    · rename_i hdt
      obtain ⟨rfl, rfl⟩ := ok_inj h
      obtain ⟨dt, dx⟩ := d
      simp only at hdt
      subst hdt
      obtain ⟨ad, cs, rfl, hs, hm, hca⟩ := hx
      obtain ⟨u, hu, hru⟩ := load_ok hok hm hca hok.np
      exact ⟨rfl, u, RelD.of_v1 hru, by simp [Instr.loadAt, Instr.sureAddr, hu]⟩
    · exact (fail_ne h).elim
  · exact (fail_ne h).elim

theorem storeV_ok (hT : TabOk P T) {tid : TypeId} {ty : Ty} (ht : T tid = some ty) (hr : Rel E c) {x y : V} {u0 u1 : Value} (hx : RelV P E c x u0) (hy : RelV P E c y u1) {v : V} {m' : Mem} {fp fp' : FP}
    (h : (storeV ty x y).ev c.m fp = some (v, m', fp')) : ∃ c', c'.m = m' ∧ Rel E c' ∧ Ext c c' ∧ RelV P E c' v undef ∧ (Instr.storeAt tid u0 u1).run P c.w = .ok () c'.w := by
  have hok := hT _ _ ht
  unfold storeV at h
  split at h
  · rename_i b p t
    split at h
    · rename_i hty
      subst hty
      obtain ⟨z, m1, fp1, h1, h2⟩ := Res.bind_some h
      obtain ⟨S1, r1, e1, hz⟩ := asDat_ok hr hy h1
      obtain ⟨B, hB, hpt, hp, rfl⟩ := RelV.ext e1 hx
      simp only [Res.ev] at h2
      have hB' : m1.box b = some B := hB
      rw [hB'] at h2
      simp only at h2
      split at h2
      · rename_i y' hy'
        simp only [Res.ev] at h2
        obtain ⟨rfl, rfl⟩ := ok_inj h2
        obtain ⟨cs, tid', hh, hc⟩ := r1.box b B hB
        have hv1 := (hz.v1 hok.good).cells
        obtain ⟨a, m, b', e, hl, hm, hs⟩ := setP_rel hc hp hy'
        have hnew := hs _ hv1
        have hcl := hv1.len
        have hst := run_storeCells_at P (c.bx b) (pathOff p B.t) tid' u1.cells.toList 0 cs c.w hh (by
          rw [Nat.add_zero, ← Array.length_toList (xs := cs), e, List.length_append, List.length_append, hl, hcl, hm]
          exact Nat.le_add_right _ _) (fun v hv => hv1.one v hv)
        have hcs : (cs.toList.take (pathOff p B.t + 0) ++ u1.cells.toList ++ cs.toList.drop (pathOff p B.t + 0 + u1.cells.toList.length)) = a ++ u1.cells.toList ++ b' := by
          rw [e, Nat.add_zero, ← hl, hcl, ← hm]
          simp [List.append_assoc, List.take_append, List.drop_append]
        rw [hcs] at hst
        obtain ⟨r2, e2⟩ := setBox_ok r1 hB (x := y') (w' := c.w.setRow (c.bx b) (a ++ u1.cells.toList ++ b').toArray) (cs := (a ++ u1.cells.toList ++ b').toArray) (tid := tid') rfl rfl rfl (setRow_size _ _ _)
          (fun g hg => setRow_other _ _ _ _ hg) (setRow_heap _ _ _ _ _ _ hh) (by simpa using hnew)
        refine ⟨_, rfl, r2, e1.trans e2, trivial, ?_⟩
        have hsz : ¬ (u1.cells.size ≠ t.size) := by rw [← Array.length_toList, hcl]; simp
        simp only [Instr.storeAt, Instr.sureAddr, Sem.run_bind, Sem.run_pure, Result.andThen_ok, storeVar, hok.sizeOf c.w, if_neg hsz]
        exact hst
      · exact (fail_ne h2).elim
    · exact (fail_ne h).elim
  · exact (fail_ne h).elim

theorem chainGet_tup : ∀ {cc : Ty} {x : cc.den} {vs : List Value} {i : Nat} {d : D} {w : World} {S : Nat → Prop}, RelT w S cc x vs → chainGet cc x i = some d → ∃ v, vs[i]? = some v ∧ RelV1 w S d.t d.x v
  | .pair a b, x, _, 0, d, w, S, ⟨v, l, e, h0, h1⟩, h => by
    injection h with h; subst h
    exact ⟨v, by rw [e]; rfl, h0⟩
  | .pair a b, x, _, i + 1, d, w, S, ⟨v, l, e, h0, h1⟩, h => by
    obtain ⟨u, hu, hr⟩ := chainGet_tup (i := i) h1 h
    exact ⟨u, by rw [e]; simpa using hu, hr⟩
  | .int _, _, _, 0, d, w, S, ⟨v, e, h0⟩, h => by injection h with h; subst h; exact ⟨v, by rw [e]; rfl, h0⟩
  | .bool, _, _, 0, d, w, S, ⟨v, e, h0⟩, h => by injection h with h; subst h; exact ⟨v, by rw [e]; rfl, h0⟩
  | .str, _, _, 0, d, w, S, ⟨v, e, h0⟩, h => by injection h with h; subst h; exact ⟨v, by rw [e]; rfl, h0⟩
  | .sl _ _, _, _, 0, d, w, S, ⟨v, e, h0⟩, h => by injection h with h; subst h; exact ⟨v, by rw [e]; rfl, h0⟩
  | .arr _ _, _, _, 0, d, w, S, ⟨v, e, h0⟩, h => by injection h with h; subst h; exact ⟨v, by rw [e]; rfl, h0⟩
  | .st _, _, _, 0, d, w, S, ⟨v, e, h0⟩, h => by injection h with h; subst h; exact ⟨v, by rw [e]; rfl, h0⟩
  | .tup _, _, _, 0, d, w, S, ⟨v, e, h0⟩, h => by injection h with h; subst h; exact ⟨v, by rw [e]; rfl, h0⟩
  | .unit, _, _, 0, d, w, S, ⟨v, e, h0⟩, h => by injection h with h; subst h; exact ⟨v, by rw [e]; rfl, h0⟩
  | .int _, _, _, _ + 1, d, w, S, _, h => by cases h
  | .bool, _, _, _ + 1, d, w, S, _, h => by cases h
  | .str, _, _, _ + 1, d, w, S, _, h => by cases h
  | .sl _ _, _, _, _ + 1, d, w, S, _, h => by cases h
  | .arr _ _, _, _, _ + 1, d, w, S, _, h => by cases h
  | .st _, _, _, _ + 1, d, w, S, _, h => by cases h
  | .tup _, _, _, _ + 1, d, w, S, _, h => by cases h
  | .unit, _, _, _ + 1, d, w, S, _, h => by cases h

theorem toCaps_ok {ρ : Operand → V} {ρ' : Operand → Value} (hρ : ∀ x, RelV P E c (ρ x) (ρ' x)) : ∀ (l : List Operand) (ks : List Cap), toCaps (l.map ρ) = some ks → RelCaps c ks (l.map ρ')
  | [], ks, h => by injection h with h; subst h; rfl
  | x :: l, ks, h => by
    simp only [List.map_cons, toCaps] at h
    split at h
    · rename_i k ks' hk hks
      injection h with h
      subst h
      refine ⟨ρ' x, l.map ρ', rfl, ?_, toCaps_ok hρ l ks' hks⟩
      have hx := hρ x
      unfold toCap at hk
      split at hk
      · rename_i b t hv
        injection hk with hk; subst hk
        rw [hv] at hx
        obtain ⟨B, hB, hpt, _, he⟩ := hx
        exact ⟨⟨B, hB, by injection hpt⟩, by rw [he]; rfl⟩
      · rename_i d hv
        injection hk with hk; subst hk
        rw [hv] at hx
        exact hx
      · cases hk
    · cases h

theorem strAt_ok {s : ByteArray} {i : Int} (h : inI i s.size = true) : ∃ b, s[i.toNat]? = some b ∧ (b.toNat : Int) = strAt s i := by
  simp only [inI, Bool.and_eq_true, decide_eq_true_eq] at h
  have hlt : i.toNat < s.size := by omega
  refine ⟨s[i.toNat], by simp [hlt], ?_⟩
  unfold strAt
  have hl : i.toNat < s.data.toList.length := by simpa using hlt
  rw [List.getD_eq_getElem?_getD, List.getElem?_eq_getElem hl]
  simp
  rfl

theorem cut_ok {w : World} {S : Nat → Prop} {e : TypeId} {t : Ty} {xs : List t.den} {A : Option Addr} {n cap : Nat} (h : RelC w S (.sl e t) xs [.slice A n cap]) {l h' : Nat} (h1 : l ≤ h') (h2 : h' ≤ xs.length) :
    n = xs.length ∧ xs.length ≤ cap ∧ RelC w S (.sl e t) ((xs.take h').drop l) [.slice (if cap = l then A else A.map (·.add (l * t.size))) (h' - l) (cap - l)] := by
  obtain ⟨A', c', e1, hl, hc⟩ := h
  injection e1 with e1
  injection e1 with e1 e2 e3
  subst e1 e2 e3
  refine ⟨rfl, hl, (if cap = l then A else A.map (·.add (l * t.size))), cap - l, ?_, ?_, ?_⟩
  · rw [List.length_drop, List.length_take, Nat.min_eq_left h2]
  · rw [List.length_drop, List.length_take, Nat.min_eq_left h2]; omega
  · intro hp
    rw [List.length_drop, List.length_take, Nat.min_eq_left h2] at hp
    obtain ⟨ad, inner, rfl, hs, hil, hca, hr⟩ := hc (by omega)
    have hne : ¬ cap = l := by omega
    rw [if_neg hne]
    have hr2 := (hr.take (fun _ _ h => RelC.len h) h').drop (fun _ _ h => RelC.len h) l
    refine ⟨ad.add (l * t.size), (inner.take (h' * t.size)).drop (l * t.size), rfl, by rw [add_block']; exact hs, hr2.len (fun _ _ h => RelC.len h), ?_, hr2⟩
    intro i u hu
    rw [add_add']
    refine hca _ u ?_
    rw [List.getElem?_drop] at hu
    have hlt : l * t.size + i < h' * t.size := by
      have := (List.getElem?_eq_some_iff.1 hu).1
      rw [List.length_take] at this
      omega
    rw [List.getElem?_take_of_lt hlt] at hu
    exact hu

theorem intOf_ok {ρ : Operand → V} {ρ' : Operand → Value} (hρ : ∀ x, RelV P E c (ρ x) (ρ' x)) {o : Option Operand} {d n : Int} (h : intOf d (o.map ρ) = some n) :
    (o = none ∧ n = d) ∨ ∃ x k, o = some x ∧ ρ' x = .int k n := by
  cases o with
  | none => injection h with h; exact .inl ⟨rfl, h.symm⟩
  | some x =>
    simp only [Option.map_some, intOf] at h
    split at h
    · rename_i heq; simp at heq
    · rename_i k m heq
      injection heq with heq
      injection h with h
      subst h
      have := hρ x
      rw [heq] at this
      exact .inr ⟨x, k, rfl, relV_int this⟩
    · cases h

theorem foldInt_ok {ρ : Operand → V} {ρ' : Operand → Value} (hρ : ∀ x, RelV P E c (ρ x) (ρ' x)) {f : Int → Int → Int} {g : Value → Value → Sem Value} (hg : ∀ k x y w, (g (.int k x) (.int k y)).run P w = .ok (.int k (f x y)) w) {k : IntKind} :
    ∀ (l : List Operand) (n : Int) (v : V) (m m' : Mem) (fp fp' : FP), (foldInt f k n (l.map ρ)).ev m fp = some (v, m', fp') → m' = m ∧ ∃ u, RelV P E c v u ∧ ((l.map ρ').foldlM g (.int k n)).run P c.w = .ok u c.w
  | [], n, v, m, m', fp, fp', h => by
    obtain ⟨rfl, rfl⟩ := ok_inj h
    exact ⟨rfl, _, relV_intV, rfl⟩
  | x :: l, n, v, m, m', fp, fp', h => by
    rw [List.map_cons, foldInt.eq_def] at h
    split at h
    · rename_i heq; simp at heq
    · rename_i n' k' b l' heq
      injection heq with h1 h2
      subst h2
      split at h
      · rename_i hk
        subst hk
        have := hρ x
        rw [h1] at this
        have hx := relV_int this
        obtain ⟨e, u, hu, hrun⟩ := foldInt_ok hρ hg l _ v m m' fp fp' h
        exact ⟨e, u, hu, by simp only [List.map_cons, List.foldlM_cons, hx, Sem.run_bind, hg, Result.andThen_ok]; exact hrun⟩
      · exact (fail_ne h).elim
    · exact (fail_ne h).elim

theorem baseV_ok (hr : Rel E c) {e : TypeId} {t : Ty} {x : V} {u : Value} (hx : RelV P E c x u) {xs : List t.den} {m' : Mem} {fp fp' : FP} (h : (baseV e t x).ev c.m fp = some (xs, m', fp')) :
    Rel E { c with m := m' } ∧ Ext c { c with m := m' } ∧ Loose E { c with m := m' } e t xs u := by
  unfold baseV at h
  split at h
  · obtain ⟨rfl, rfl⟩ := ok_inj h
    have : u = .slice none 0 0 := hx
    subst this
    exact ⟨hr, Ext.refl c, ⟨[], World.ownsRow_nil _ _ _ _, rfl⟩, fun g hg => by simp [Value.ownBlock] at hg⟩
  · rename_i a
    simp only [Res.ev] at h
    cases ha : c.m.arr a with
    | no => rw [ha] at h; exact (fail_ne h).elim
    | dead => rw [ha] at h; exact (fail_ne h).elim
    | at_ A =>
      rw [ha] at h
      simp only at h
      split at h
      · rename_i ho
        split at h
        · rename_i he
          simp only [Res.ev] at h
          obtain ⟨rfl, rfl⟩ := ok_inj h
          obtain ⟨Ae, At, Ax, Ao⟩ := A
          simp only [Ty.sl.injEq] at he
          obtain ⟨h1, h2⟩ := he
          subst h1 h2
          obtain ⟨r, e1, hl⟩ := dead_ok hr ha ho
          have hu : u = c.ar a := hx.2 _ ha
          rw [hu]
          exact ⟨r, e1, hl⟩
        · exact (fail_ne h).elim
      · exact (fail_ne h).elim
  · exact (fail_ne h).elim

theorem asDat_loose (hr : Rel E c) {t : Ty} {x : V} {y : t.den} {m' : Mem} {fp fp' : FP} (h : (asDat t x).ev c.m fp = some (y, m', fp')) {u : Value} (hv : RelV P E c x u) :
    ∃ S', Rel E { c with S := S', m := m' } ∧ Ext c { c with S := S', m := m' } ∧ RelD c.w S' t y u ∧ ∀ (e : TypeId) (t' : Ty) (xs : List t'.den) (v : Value), Loose E c e t' xs v → Loose E { c with S := S', m := m' } e t' xs v := by
  have same : ∀ (e : TypeId) (t' : Ty) (xs : List t'.den) (v : Value), Loose E c e t' xs v → Loose E c e t' xs v := fun _ _ _ _ h => h
  cases x with
  | own a =>
    have h0 := h
    simp only [asDat, Res.ev] at h
    cases ha : c.m.arr a with
    | no => rw [ha] at h; exact (fail_ne h).elim
    | dead => rw [ha] at h; exact (fail_ne h).elim
    | at_ A =>
      rw [ha] at h
      simp only at h
      split at h
      · rename_i he
        subst he
        have hu : u = c.ar a := hv.2 A ha
        cases ho : A.open_ with
        | true =>
          rw [ho] at h
          simp only [Res.ev] at h
          obtain ⟨rfl, rfl⟩ := ok_inj h
          subst hu
          obtain ⟨S', hS2, r1', r2', r3'⟩ := freeze_ok hr ha ho
          subst hS2
          refine ⟨_, r1', r2', r3', fun e t' xs v hl => ?_⟩
          obtain ⟨⟨inner, h1, h2⟩, h3⟩ := hl
          refine ⟨⟨inner, h1, h2.imp (fun _ _ h => h.move r2'.w r2'.S)⟩, fun g hg => ?_⟩
          obtain ⟨k1, k2, k3⟩ := h3 g hg
          refine ⟨?_, k2, fun b B hB hBo => ?_⟩
          · rintro (hs | hs)
            · exact k1 hs
            · exact k3 a A ha ho hs
          · simp only [Mem.setA, upd] at hB
            cases hb : Nat.beq b a with
            | true => rw [hb] at hB; injection hB with hB; subst hB; simp at hBo
            | false => rw [hb] at hB; exact k3 b B hB hBo
        | false =>
          rw [ho] at h
          simp only [Res.ev] at h
          obtain ⟨rfl, rfl⟩ := ok_inj h
          subst hu
          have := hr.arr a A ha
          unfold RelA at this
          rw [if_neg (by simp [ho])] at this
          exact ⟨c.S, hr, Ext.refl c, this, same⟩
      · exact (fail_ne h).elim
  | dat d =>
    simp only [asDat] at h
    split at h
    · rename_i he
      obtain ⟨dt, dx⟩ := d
      simp only at he
      subst he
      obtain ⟨rfl, rfl⟩ := ok_inj h
      exact ⟨c.S, hr, Ext.refl c, hv, same⟩
    · exact (fail_ne h).elim
  | nils =>
    cases t with
    | sl e t =>
      simp only [asDat] at h
      obtain ⟨rfl, rfl⟩ := ok_inj h
      have : u = .slice none 0 0 := hv
      subst this
      exact ⟨c.S, hr, Ext.refl c, ⟨none, 0, rfl, Nat.le_refl _, fun hp => absurd hp (Nat.lt_irrefl 0)⟩, same⟩
    | _ => exact (fail_ne h).elim
  | _ => exact (fail_ne h).elim

theorem append_run (hT : TabOk P T) {tid e : TypeId} {t : Ty} (ht : T tid = some (.sl e t)) (ty : TypeId) (hr : Rel E c) {xs ys : List t.den} {u1 u2 : Value} (hl : Loose E c e t xs u1) (hy : RelD c.w c.S (.sl e t) ys u2)
    (hlen : xs.length + ys.length < appMax) : ∃ v' w', (Builtin.append_ #[tid, tid] ty #[u1, u2]).run P c.w = .ok v' w' ∧ ∃ c', c'.m = c.m ∧ c'.w = w' ∧ Rel E c' ∧ Ext c c' ∧ Loose E c' e t (xs ++ ys) v' := by
  obtain ⟨hund, hte, hpos⟩ := (hT _ _ ht).und
  obtain ⟨i, z, hi, hsz, hz, hzc, hby⟩ := (hT _ _ hte).info
  obtain ⟨⟨inner, ho, hR⟩, hg⟩ := hl
  obtain ⟨A, cap, he, hcap, hc⟩ := hy
  have he2 : u2 = .slice A ys.length cap := by simpa using he
  subst he2
  have step : ∀ (v' : Value) (w' : World) (news : List Value), (w'.ownsRow E.w0.heap.size e t.size v' (xs.length + ys.length) (inner ++ news)) → c.w.grownBy w' u1.ownBlock → RelL (RelC c.w c.S t) ys news →
      (∀ g, v'.ownBlock = some g → some g = u1.ownBlock ∨ c.w.heap.size ≤ g) →
      ∃ c', c'.m = c.m ∧ c'.w = w' ∧ Rel E c' ∧ Ext c c' ∧ Loose E c' e t (xs ++ ys) v' := by
    intro v' w' news hown hgr hn hnew
    have hsame : SameOn c.S c.w w' := fun b hb => hgr.block b (hr.lt b hb) (fun e => (hg b e.symm).1 hb)
    have hbase : ∀ g, u1.ownBlock = some g → E.w0.heap.size ≤ g := fun g hgg => (ho.lt g hgg).1
    refine ⟨{ c with w := w' }, rfl, rfl, ?_, ⟨fun _ h => h, hsame, fun b B hB => ⟨B, hB, rfl, rfl⟩, fun a ha => ⟨ha, fun A hA => ⟨⟨A, hA⟩, rfl⟩⟩⟩, ⟨inner ++ news, by rw [List.length_append]; exact hown, ?_⟩, ?_⟩
    · refine ⟨hgr.os.trans hr.os, hgr.tape.trans hr.tape, hgr.output.trans hr.output, Nat.le_trans hr.size hgr.size, ?_, hr.old, fun b hb => Nat.lt_of_lt_of_le (hr.lt b hb) hgr.size, hr.new, ?_, hr.priv, ?_, hr.bb, hr.aa, hr.ba⟩
      · intro b hlt hnw
        rw [hgr.block b (Nat.lt_of_lt_of_le hlt hr.size) (fun e => by have := hbase b e.symm; omega)]
        exact hr.keep b hlt hnw
      · intro b B hB
        obtain ⟨cs, tid', hh, hcc⟩ := hr.box b B hB
        exact ⟨cs, tid', (hgr.block _ (hr.boxLt hB) (fun e => (hg _ e.symm).2.1 b (by rw [hB]; simp) rfl)).trans hh, hcc.move hsame (fun _ h => h)⟩
      · intro a A hA
        refine (hr.arr a A hA).move hsame (fun _ h => h) (fun hop g hgg => ⟨hgr.block g (hr.arrLt hA hop hgg) (fun e => (hg g e.symm).2.2 a A hA hop hgg), ?_⟩)
        have := hr.arr a A hA
        unfold RelA at this
        rw [if_pos hop] at this
        obtain ⟨_, _, _, h5⟩ := this
        exact h5 g hgg
    · exact (hR.imp (fun _ _ h => h.move hsame (fun _ h => h))).append (hn.imp (fun _ _ h => h.move hsame (fun _ h => h)))
    · intro g hgg
      rcases hnew g hgg with h | h
      · exact hg g h.symm
      · refine ⟨fun hs => by have := hr.lt g hs; omega, fun b hb e => ?_, fun a A hA hop hga => ?_⟩
        · cases hB : c.m.box b with
          | none => exact hb hB
          | some B => have := hr.boxLt hB; simp only at e; omega
        · have := hr.arrLt hA hop hga; omega
  have hmax : xs.length + ys.length ≤ maxLen := by unfold appMax at hlen; simp only [maxLen]; omega
  have hbytes : (xs.length + ys.length) * i.bytes ≤ 140737488355328 := by
    unfold appMax at hlen
    calc (xs.length + ys.length) * i.bytes ≤ 4294967296 * 16384 := Nat.mul_le_mul (by omega) hby
      _ ≤ 140737488355328 := by decide
  cases A with
  | some ad =>
    obtain ⟨news, hnl, hca, hn⟩ : ∃ news, news.length = ys.length * t.size ∧ CellsAt c.w ad news ∧ RelL (RelC c.w c.S t) ys news := by
      by_cases hp : 0 < ys.length
      · obtain ⟨ad', inner', hA, hs, hil, hca, hr'⟩ := hc hp
        injection hA with hA
        subst hA
        exact ⟨inner', hil, hca, hr'⟩
      · have : ys = [] := List.eq_nil_of_length_eq_zero (by omega)
        subst this
        exact ⟨[], by simp, fun i u hu => by simp at hu, rfl⟩
    have hzs : z.cells.size = t.size := by
      have := (relC_zero c.w c.S t (hT _ _ hte).good).len
      rw [← Array.length_toList, hzc, this]
    obtain ⟨v', w', hrun, hown, hgr, hnil, hat⟩ := run_append_own_at (P := P) c.w E.w0.heap.size tid ty e i z t.size i.bytes hund hi hz hsz rfl hzs hpos u1 xs.length inner ho ad ys.length cap news hnl hca (hn.one (fun _ _ h => RelC.one h)) hmax hbytes hr.size
    refine ⟨v', w', hrun, step v' w' news hown hgr hn (fun g hgg => ?_)⟩
    rcases hat with h | h
    · exact .inl (by rw [← h, hgg])
    · rw [h] at hgg; injection hgg with hgg; exact .inr (Nat.le_of_eq hgg)
  | none =>
    have hy0 : ys.length = 0 := by
      by_cases hp : 0 < ys.length
      · obtain ⟨ad', inner', hA, _⟩ := hc hp
        cases hA
      · omega
    have : ys = [] := List.eq_nil_of_length_eq_zero hy0
    subst this
    refine ⟨u1, c.w, ?_, ?_⟩
    · rcases ho.2 with ⟨rfl, hn⟩ | ⟨g, cap', cur, rfl, hb, hh, hle, hm, hcs, ht'⟩
      · simp [Builtin.append_, run_underlying hund, (hT _ _ hte).sizeOf c.w, Builtin.lenOf, Builtin.firstCells]
      · simp [Builtin.append_, run_underlying hund, (hT _ _ hte).sizeOf c.w, Builtin.lenOf, Builtin.firstCells, hle, storeCells]
    · have := step u1 c.w [] (by simpa using ho) ⟨rfl, rfl, rfl, Nat.le_refl _, fun _ _ _ => rfl⟩ rfl (fun g hgg => .inl hgg.symm)
      exact this
end
end Go.Vm
end
section
namespace Go.Vm
open Go.RowKit
set_option linter.unusedVariables false
set_option linter.unusedSimpArgs false

def RelArgs (P : Program) (w : World) (S S1 : Nat → Prop) (flat : Bool) : (ps : List PK) → dens ps → List Value → Prop
  | [], _, vs => vs = []
  | .val t :: ps, a, vs => ∃ v l, vs = v :: l ∧ RelD w S t a.1 v ∧ RelArgs P w S S1 flat ps a.2 l
  | .ro t :: ps, a, vs => ∃ v l, vs = v :: l ∧ flat = true ∧ RelP w S1 t a.1 v ∧ RelArgs P w S S1 flat ps a.2 l
  | .rw _ :: _, _, _ => False
  | .fn x r :: ps, a, vs => ∃ v l, vs = v :: l ∧ RelFn P w S S1 x r a.1 v ∧ RelArgs P w S S1 flat ps a.2 l

def RetO (w : World) (S : Nat → Prop) (e : TypeId) (t : Ty) (ys : List t.den) (en : Ending) (w' : World) : Prop :=
  ∃ v inner S', en = .returned v ∧ w'.ownsRow w.heap.size e t.size v ys.length inner ∧ RelL (RelC w' S' t) ys inner ∧ (∀ g, v.ownBlock = some g → ¬ S' g) ∧ (∀ b, S' b → Ext' S w w' b) ∧ Below w.heap.size w w'
def SpecOk (P : Program) (f : FuncId) : Spec → Prop
  | .pu ps r fn => Enters P f ∧ ∀ (w : World) (S S1 : Nat → Prop) (as : dens ps) (vs : List Value) (y : r.den), (∀ b, S b → S1 b) → (∀ b, S1 b → b < w.heap.size) →
      RelArgs P w S S1 r.flat ps as vs → app ps fn as = some y → Calls P f vs.toArray w (Ret w S r y)
  | .fr ps e t fn => Enters P f ∧ ∀ (w : World) (S S1 : Nat → Prop) (as : dens ps) (vs : List Value) (ys : List t.den), (∀ b, S b → S1 b) → (∀ b, S1 b → b < w.heap.size) →
      RelArgs P w S S1 false ps as vs → app ps fn as = some ys → Calls P f vs.toArray w (RetO w S e t ys)

section
variable {P : Program} {T : Tab} {E : Env}

theorem RelFn.move {w w' : World} {S S' S1 S1' : Nat → Prop} (hs : SameOn S1 w w') (hS : ∀ b, S b → S' b) (hS1 : ∀ b, S1 b → S1' b) (hsz : w.heap.size ≤ w'.heap.size) {a r : Ty} {g : a.den → Option r.den} {v : Value}
    (h : RelFn P w S S1 a r g v) : RelFn P w' S' S1' a r g v := by
  obtain ⟨f, cv, e, hen, hh⟩ := h
  exact ⟨f, cv, e, hen, fun w2 S2 h1 h2 h3 h4 => hh w2 S2 (fun b hb => (h1 b (hS1 b hb)).trans (hs b hb)) (fun b hb => h2 b (hS b hb)) h3 (Nat.le_trans hsz h4)⟩
theorem RelArgs.move {w w' : World} {S S' S1 S1' : Nat → Prop} (hs : SameOn S1 w w') (h01 : ∀ b, S b → S1 b) (hS : ∀ b, S b → S' b) (hS1 : ∀ b, S1 b → S1' b) (hsz : w.heap.size ≤ w'.heap.size) {flat : Bool} :
    ∀ {ps : List PK} {as : dens ps} {vs : List Value}, RelArgs P w S S1 flat ps as vs → RelArgs P w' S' S1' flat ps as vs
  | [], _, _, h => h
  | .val t :: ps, _, _, ⟨v, l, e, h0, h1⟩ => ⟨v, l, e, h0.move (fun b hb => hs b (h01 b hb)) hS, RelArgs.move hs h01 hS hS1 hsz h1⟩
  | .ro t :: ps, _, _, ⟨v, l, e, hf, h0, h1⟩ => ⟨v, l, e, hf, h0.move hs hS1, RelArgs.move hs h01 hS hS1 hsz h1⟩
  | .rw _ :: _, _, _, h => h.elim
  | .fn x r :: ps, _, _, ⟨v, l, e, h0, h1⟩ => ⟨v, l, e, h0.move hs hS hS1 hsz, RelArgs.move hs h01 hS hS1 hsz h1⟩

def S1 (E : Env) (c : Cx) : Nat → Prop := fun b => c.S b ∨ (∃ i, c.m.box i ≠ none ∧ c.bx i = b) ∨ (b < E.w0.heap.size ∧ ¬ E.W0 b)
theorem S1.lt {c : Cx} (hr : Rel E c) {b : Nat} (h : S1 E c b) : b < c.w.heap.size := by
  rcases h with h | ⟨i, hi, rfl⟩ | h
  · exact hr.lt b h
  · cases hB : c.m.box i with
    | none => exact absurd hB hi
    | some B => exact hr.boxLt hB
  · exact Nat.lt_of_lt_of_le h.1 hr.size
theorem S1.ext {c c' : Cx} (h : Ext c c') {b : Nat} (hb : S1 E c b) : S1 E c' b := by
  rcases hb with hb | ⟨i, hi, rfl⟩ | hb
  · exact .inl (h.S b hb)
  · cases hB : c.m.box i with
    | none => exact absurd hB hi
    | some B =>
      obtain ⟨B', e, _, x⟩ := h.box i B hB
      exact .inr (.inl ⟨i, by rw [e]; simp, x⟩)
  · exact .inr (.inr hb)

theorem box_p {c : Cx} (hr : Rel E c) {b : Nat} {B : Box} (hB : c.m.box b = some B) : RelP c.w (S1 E c) B.t B.x (.pointer (some ⟨c.bx b, 0, none⟩)) := by
  obtain ⟨cs, tid, hh, hc⟩ := hr.box b B hB
  refine ⟨⟨c.bx b, 0, none⟩, cs.toList, rfl, .inr (.inl ⟨b, by rw [hB]; simp, rfl⟩), hc.move (fun _ _ => rfl) (fun _ h => .inl h), ?_⟩
  have := cells_in hh (a := []) (m := cs.toList) (b := []) (by simp)
  exact this
theorem peekD_ok {c : Cx} (hr : Rel E c) {t : Ty} {x : V} {u : Value} (hx : RelV P E c x u) {y : t.den} {m' : Mem} {fp fp' : FP} (h : (peekD t x).ev c.m fp = some (y, m', fp')) :
    m' = c.m ∧ RelP c.w (S1 E c) t y u := by
  unfold peekD at h
  split at h
  · rename_i b t'
    obtain ⟨B, hB, hpt, _, rfl⟩ := hx
    simp only [Res.ev, hB] at h
    split at h
    · rename_i he
      subst he
      obtain ⟨rfl, rfl⟩ := ok_inj h
      exact ⟨rfl, box_p hr hB⟩
    · exact (fail_ne h).elim
  · rename_i d
    split at h
    · rename_i he
      obtain ⟨dt, dx⟩ := d
      simp only at he
      subst he
      obtain ⟨rfl, rfl⟩ := ok_inj h
      exact ⟨rfl, RelP.move (S := c.S) (fun _ _ => rfl) (fun _ h => .inl h) hx⟩
    · exact (fail_ne h).elim
  · exact (fail_ne h).elim
theorem relCap_v {c : Cx} {k : Cap} {v : Value} (h : RelCap c k v) : RelV P E c (capV k) v := by
  cases k with
  | ptr b t =>
    obtain ⟨⟨B, hB, ht⟩, e⟩ := h
    exact ⟨B, hB, by rw [pathTy, ht], trivial, by rw [e]; rfl⟩
  | dat d => exact h
theorem capsOf_ok {c : Cx} (hr : Rel E c) {flat : Bool} : ∀ {ps : List PK} {ks : List Cap} {vs : List Value}, RelCaps c ks vs → ∀ {l : dens ps} {m' : Mem} {fp fp' : FP}, (capsOf flat ps ks).ev c.m fp = some (l, m', fp') →
    m' = c.m ∧ RelArgs P c.w c.S (S1 E c) flat ps l vs
  | [], [], vs, hk, l, m', fp, fp', h => by
    simp only [capsOf] at h
    obtain ⟨rfl, rfl⟩ := ok_inj h
    exact ⟨rfl, hk⟩
  | .val t :: ps, k :: ks, vs, ⟨v, l', e, hk, hks⟩, l, m', fp, fp', h => by
    cases k with
    | ptr b t => simp only [capsOf] at h; exact (fail_ne h).elim
    | dat d =>
      simp only [capsOf] at h
      split at h
      · rename_i he
        obtain ⟨dt, dx⟩ := d
        simp only at he
        subst he
        obtain ⟨l2, m1, fp1, h1, h2⟩ := Res.bind_some h
        obtain ⟨rfl, hl⟩ := capsOf_ok hr hks h1
        obtain ⟨rfl, rfl⟩ := ok_inj h2
        exact ⟨rfl, v, l', e, hk, hl⟩
      · exact (fail_ne h).elim
  | .ro t :: ps, k :: ks, vs, ⟨v, l', e, hk, hks⟩, l, m', fp, fp', h => by
    cases flat with
    | false => simp only [capsOf] at h; exact (fail_ne h).elim
    | true =>
      simp only [capsOf] at h
      obtain ⟨x, m1, fp1, h1, h2⟩ := Res.bind_some h
      obtain ⟨rfl, hx⟩ := peekD_ok (P := P) hr (relCap_v hk) h1
      obtain ⟨l2, m2, fp2, h3, h4⟩ := Res.bind_some h2
      obtain ⟨rfl, hl⟩ := capsOf_ok hr hks h3
      obtain ⟨rfl, rfl⟩ := ok_inj h4
      exact ⟨rfl, v, l', e, rfl, hx, hl⟩
  | .rw _ :: _, _ :: _, _, _, _, _, _, _, h => by simp only [capsOf] at h; exact (fail_ne h).elim
  | .fn _ _ :: _, _ :: _, _, _, _, _, _, _, h => by simp only [capsOf] at h; exact (fail_ne h).elim
  | [], _ :: _, _, _, _, _, _, _, h => by simp only [capsOf] at h; exact (fail_ne h).elim
  | .val _ :: _, [], _, _, _, _, _, _, h => by simp only [capsOf] at h; exact (fail_ne h).elim
  | .ro _ :: _, [], _, _, _, _, _, _, h => by simp only [capsOf] at h; exact (fail_ne h).elim
  | .rw _ :: _, [], _, _, _, _, _, _, h => by simp only [capsOf] at h; exact (fail_ne h).elim
  | .fn _ _ :: _, [], _, _, _, _, _, _, h => by simp only [capsOf] at h; exact (fail_ne h).elim

variable {G : Gam} (hG : ∀ f s, G f = some s → SpecOk P f s)
include hG
theorem fnOf_ok {c : Cx} (hr : Rel E c) {a r : Ty} {x : V} {u : Value} (hx : RelV P E c x u) {g : a.den → Option r.den} {m' : Mem} {fp fp' : FP} (h : (fnOf G a r x).ev c.m fp = some (g, m', fp')) :
    m' = c.m ∧ RelFn P c.w c.S (S1 E c) a r g u := by
  unfold fnOf at h
  split at h
  · rename_i a' r' g'
    split at h
    · rename_i he
      obtain ⟨he1, he2⟩ := he
      subst he1 he2
      obtain ⟨rfl, rfl⟩ := ok_inj h
      obtain ⟨S2, hS2, f, cv, e, hen, hh⟩ := hx
      refine ⟨rfl, f, cv, e, hen, fun w' S' h1 h2 h3 h4 y vy z hy hz => ?_⟩
      refine hh w' S' (fun b hb => ?_) (fun b hb => h2 b (hr.old b hb)) h3 (Nat.le_trans hr.size h4) y vy z hy ?_
      · obtain ⟨k1, k2⟩ := hS2 b hb
        exact (h1 b (.inr (.inr ⟨k1, k2⟩))).trans (hr.keep b k1 k2)
      · exact hz
    · exact (fail_ne h).elim
  · rename_i f caps
    split at h
    · rename_i a' ps r' fn hf
      split at h
      · rename_i he
        obtain ⟨he1, he2⟩ := he
        subst he1 he2
        obtain ⟨l, m1, fp1, h1, h2⟩ := Res.bind_some h
        obtain ⟨cv, e, hk⟩ := hx
        obtain ⟨rfl, hl⟩ := capsOf_ok (P := P) hr hk h1
        obtain ⟨rfl, rfl⟩ := ok_inj h2
        obtain ⟨hen, hs⟩ := hG f _ hf
        refine ⟨rfl, f, cv, e, hen, fun w' S' k1 k2 k3 k4 y vy z hy hz => ?_⟩
        have hz' : app (.val a' :: ps) fn (y, l) = some z := hz
        have := hs w' S' (fun b => S' b ∨ S1 E c b) (y, l) (vy :: cv.toList) z (fun b hb => .inl hb) (fun b hb => by
          rcases hb with hb | hb
          · exact k3 b hb
          · exact Nat.lt_of_lt_of_le (S1.lt hr hb) k4) ⟨vy, cv.toList, rfl, hy, hl.move k1 (fun b hb => .inl hb) k2 (fun b hb => .inr hb) k4⟩ hz'
        have e3 : (vy :: cv.toList).toArray = #[vy] ++ cv := by apply Array.ext'; simp
        rw [← e3]
        exact this
      · exact (fail_ne h).elim
    · exact (fail_ne h).elim
  · exact (fail_ne h).elim

def RelVs (P : Program) (E : Env) (c : Cx) : List V → List Value → Prop
  | [], us => us = []
  | v :: vs, us => ∃ u l, us = u :: l ∧ RelV P E c v u ∧ RelVs P E c vs l
omit hG in
theorem RelVs.ext {c c' : Cx} (h : Ext c c') : ∀ {vs : List V} {us : List Value}, RelVs P E c vs us → RelVs P E c' vs us
  | [], _, e => e
  | _ :: _, _, ⟨u, l, e, h0, h1⟩ => ⟨u, l, e, h0.ext h, h1.ext h⟩
omit hG in
theorem RelVs.map {c : Cx} {ρ : Operand → V} {ρ' : Operand → Value} (hρ : ∀ x, RelV P E c (ρ x) (ρ' x)) : ∀ (l : List Operand), RelVs P E c (l.map ρ) (l.map ρ')
  | [] => rfl
  | x :: l => ⟨ρ' x, l.map ρ', rfl, hρ x, RelVs.map hρ l⟩
omit hG in
theorem RelVs.append {c : Cx} : ∀ {vs ws : List V} {us xs : List Value}, RelVs P E c vs us → RelVs P E c ws xs → RelVs P E c (vs ++ ws) (us ++ xs)
  | [], _, _, _, h, k => by cases h; exact k
  | _ :: _, _, _, _, ⟨u, l, e, h0, h1⟩, k => ⟨u, l ++ _, by rw [e]; rfl, h0, h1.append k⟩
omit hG in
theorem RelVs.caps {c : Cx} : ∀ {ks : List Cap} {us : List Value}, RelCaps c ks us → RelVs P E c (ks.map capV) us
  | [], _, e => e
  | _ :: _, _, ⟨v, l, e, h0, h1⟩ => ⟨v, l, e, relCap_v h0, RelVs.caps h1⟩

theorem argsOf_ok {flat : Bool} : ∀ {ps : List PK} {vs : List V} {us : List Value} {c : Cx}, Rel E c → RelVs P E c vs us → ∀ {as : dens ps} {m' : Mem} {fp fp' : FP}, (argsOf G flat ps vs).ev c.m fp = some (as, m', fp') →
    ∃ S', Rel E { c with S := S', m := m' } ∧ Ext c { c with S := S', m := m' } ∧ RelArgs P c.w S' (S1 E { c with S := S', m := m' }) flat ps as us
  | [], [], us, c, hr, hv, as, m', fp, fp', h => by
    simp only [argsOf] at h
    obtain ⟨rfl, rfl⟩ := ok_inj h
    exact ⟨c.S, hr, Ext.refl c, hv⟩
  | .val t :: ps, v :: vs, us, c, hr, ⟨u, l, e, hv, hvs⟩, as, m', fp, fp', h => by
    simp only [argsOf] at h
    obtain ⟨x, m1, fp1, h1, h2⟩ := Res.bind_some h
    obtain ⟨S', r1, e1, hx⟩ := asDat_ok hr hv h1
    obtain ⟨l2, m2, fp2, h3, h4⟩ := Res.bind_some h2
    obtain ⟨S'', r2, e2, hl⟩ := argsOf_ok (c := { c with S := S', m := m1 }) r1 (hvs.ext e1) h3
    obtain ⟨rfl, rfl⟩ := ok_inj h4
    exact ⟨S'', r2, e1.trans e2, u, l, e, hx.move e2.w e2.S, hl⟩
  | .ro t :: ps, v :: vs, us, c, hr, ⟨u, l, e, hv, hvs⟩, as, m', fp, fp', h => by
    cases flat with
    | false => simp only [argsOf] at h; exact (fail_ne h).elim
    | true =>
      simp only [argsOf] at h
      obtain ⟨x, m1, fp1, h1, h2⟩ := Res.bind_some h
      obtain ⟨rfl, hx⟩ := peekD_ok (P := P) hr hv h1
      obtain ⟨l2, m2, fp2, h3, h4⟩ := Res.bind_some h2
      obtain ⟨S'', r2, e2, hl⟩ := argsOf_ok hr hvs h3
      obtain ⟨rfl, rfl⟩ := ok_inj h4
      exact ⟨S'', r2, e2, u, l, e, rfl, hx.move (fun _ _ => rfl) (fun b hb => S1.ext e2 hb), hl⟩
  | .fn a r :: ps, v :: vs, us, c, hr, ⟨u, l, e, hv, hvs⟩, as, m', fp, fp', h => by
    simp only [argsOf] at h
    obtain ⟨x, m1, fp1, h1, h2⟩ := Res.bind_some h
    obtain ⟨rfl, hx⟩ := fnOf_ok hG hr hv h1
    obtain ⟨l2, m2, fp2, h3, h4⟩ := Res.bind_some h2
    obtain ⟨S'', r2, e2, hl⟩ := argsOf_ok hr hvs h3
    obtain ⟨rfl, rfl⟩ := ok_inj h4
    exact ⟨S'', r2, e2, u, l, e, hx.move (fun _ _ => rfl) e2.S (fun b hb => S1.ext e2 hb) (Nat.le_refl _), hl⟩
  | .rw _ :: _, _ :: _, _, _, _, _, _, _, _, _, h => by simp only [argsOf] at h; exact (fail_ne h).elim
  | [], _ :: _, _, _, _, _, _, _, _, _, h => by simp only [argsOf] at h; exact (fail_ne h).elim
  | .val _ :: _, [], _, _, _, _, _, _, _, _, h => by simp only [argsOf] at h; exact (fail_ne h).elim
  | .ro _ :: _, [], _, _, _, _, _, _, _, _, h => by simp only [argsOf] at h; exact (fail_ne h).elim
  | .rw _ :: _, [], _, _, _, _, _, _, _, _, h => by simp only [argsOf] at h; exact (fail_ne h).elim
  | .fn _ _ :: _, [], _, _, _, _, _, _, _, _, h => by simp only [argsOf] at h; exact (fail_ne h).elim

theorem callF_ok {c : Cx} (hr : Rel E c) {f : FuncId} {vs : List V} {us : List Value} (hv : RelVs P E c vs us) {v : V} {m' : Mem} {fp fp' : FP} {dst : Option Tmp} (h : (callF G dst f vs).ev c.m fp = some (v, m', fp')) :
    Enters P f ∧ Calls P f us.toArray c.w fun e w' => ∃ u, e = .returned u ∧ ∃ c', c'.m = m' ∧ c'.w = w' ∧ Rel E c' ∧ Ext c c' ∧ RelV P E c' v u := by
  unfold callF at h
  split at h
  · rename_i ps r fn hf
    obtain ⟨as, m1, fp1, h1, h2⟩ := Res.bind_some h
    obtain ⟨S', r1, e1, hargs⟩ := argsOf_ok hG hr hv h1
    simp only [Res.ev] at h2
    cases hy : app ps fn as with
    | none => rw [hy] at h2; cases h2
    | some y =>
      rw [hy] at h2
      obtain ⟨rfl, rfl⟩ := ok_inj h2
      obtain ⟨hen, hs⟩ := hG f _ hf
      refine ⟨hen, (hs c.w S' _ as us y (fun b hb => .inl hb) (fun b hb => S1.lt r1 hb) hargs hy).mono fun e w' hret => ?_⟩
      obtain ⟨u, he, hru, hb⟩ := hret
      obtain ⟨r2, e2⟩ := below_ok r1 hb (S' := Ext' S' c.w w') (fun _ h => .inl h) (fun _ h => h)
      exact ⟨u, he, _, rfl, rfl, r2, e1.trans e2, hru⟩
  · rename_i ps el t fn hf
    split at h
    · rename_i d
      obtain ⟨as, m1, fp1, h1, h2⟩ := Res.bind_some h
      obtain ⟨S', r1, e1, hargs⟩ := argsOf_ok hG hr hv h1
      have h2' : (app ps fn as).bind (fun u => (newArr d el t u).ev m1 fp1) = some (v, m', fp') := h2
      cases hy : app ps fn as with
      | none => rw [hy] at h2'; cases h2'
      | some ys =>
        rw [hy] at h2'
        have h3 : (newArr d el t ys).ev m1 fp1 = some (v, m', fp') := h2'
        obtain ⟨hen, hs⟩ := hG f _ hf
        refine ⟨hen, (hs c.w S' _ as us ys (fun b hb => .inl hb) (fun b hb => S1.lt r1 hb) hargs hy).mono fun e w' hret => ?_⟩
        obtain ⟨u, inner, S2, he, ho, hrl, hno, hS2, hb⟩ := hret
        obtain ⟨r2, e2⟩ := below_ok r1 hb (S' := fun b => S' b ∨ S2 b) (fun _ h => .inl h) (fun b hb' => by
          rcases hb' with hb' | hb'
          · exact .inl hb'
          · exact hS2 b hb')
        have hloose : Loose E { c with S := fun b => S' b ∨ S2 b, m := m1, w := w' } el t ys u := by
          have hge : ∀ g, u.ownBlock = some g → c.w.heap.size ≤ g := fun g hg => by
            rcases ho.2 with ⟨rfl, _⟩ | ⟨g', cap, cur, rfl, hb', _⟩
            · simp [Value.ownBlock] at hg
            · have : g' = g := by simpa [Value.ownBlock] using hg
              omega
          refine ⟨⟨inner, ⟨ho.1, ?_⟩, hrl.imp fun _ _ hh => hh.move (fun _ _ => rfl) (fun b hb' => .inr hb')⟩, fun g hg => ⟨fun hh => ?_, fun b hb' e => ?_, fun a A hA hop hg' => ?_⟩⟩
          · rcases ho.2 with h | ⟨g', cap, cur, he', hb', hr'⟩
            · exact .inl h
            · exact .inr ⟨g', cap, cur, he', Nat.le_trans hr.size hb', hr'⟩
          · rcases hh with hh | hh
            · have h1 : g < c.w.heap.size := r1.lt g hh; have := hge g hg; omega
            · exact hno g hg hh
          · cases hB : m1.box b with
            | none => exact hb' hB
            | some B => have h1 : c.bx b < c.w.heap.size := r1.boxLt (b := b) (B := B) hB; have h2 : c.bx b = g := e; have := hge g hg; omega
          · have h1 : g < c.w.heap.size := r1.arrLt (a := a) (A := A) hA hop hg'; have := hge g hg; omega
        obtain ⟨c4, hm4, hw4, r4, e4, hv4⟩ := newArr_ok (P := P) r2 h3 hloose
        exact ⟨u, he, c4, hm4, hw4, r4, e1.trans (e2.trans e4), hv4⟩
    · exact (fail_ne h).elim
  · exact (fail_ne h).elim
end
end Go.Vm
end
section
namespace Go.Vm
open Go.RowKit
set_option linter.unusedVariables false
set_option linter.unusedSimpArgs false
section
variable {P : Program} {T : Tab} {E : Env} {G : Gam}

theorem constV_ok {c : Cx} (v : Value) : RelV P E c (constV v) v := by
  unfold constV
  split
  · rfl
  · rfl
  · rfl
  · rfl
  · exact ⟨#[], rfl, rfl⟩
  · trivial
theorem evalV_ok {c : Cx} {tmp : Nat → V} {a : Act} (h : ∀ t, RelV P E c (tmp t) (a.tmps.getD t undef)) (x : Operand) : RelV P E c (evalV tmp x) (a.eval x) := by
  cases x with
  | tmp t => exact h t
  | const v => exact constV_ok v
  | global g => trivial
  | func f => exact ⟨#[], rfl, rfl⟩

theorem goes_wp {c : Cx} {o : Oper} {a : Act} {v : V} {m' : Mem} {K : Act → World → Prop} {Q : Exit → Act → World → Prop}
    (hK : ∀ (c' : Cx) (u : Value), c'.m = m' → Rel E c' → Ext c c' → RelV P E c' v u → K (a.put o.dst u) c'.w) (h : Goes P E c a.eval o v m') : o.wp P a c.w K Q := by
  obtain ⟨c', u, hm, hr, he, hv, hrun⟩ := h
  unfold Oper.wp
  rcases hrun with hrun | ⟨hrun, hu⟩
  · rw [hrun]; exact hK c' u hm hr he hv
  · rw [hrun]; subst hu; exact hK c' undef hm hr he hv

theorem maxI (x y : Int) : (if y > x then y else x) = max x y := by omega
theorem minI (x y : Int) : (if y < x then y else x) = min x y := by omega
theorem max2_run (k : IntKind) (x y : Int) (w : World) : (Builtin.max2 (.int k x) (.int k y)).run P w = .ok (.int k (max x y)) w := by
  simp only [Builtin.max2, Sem.run_pure, maxI]
theorem min2_run (k : IntKind) (x y : Int) (w : World) : (Builtin.min2 (.int k x) (.int k y)).run P w = .ok (.int k (min x y)) w := by
  simp only [Builtin.min2, Sem.run_pure, minI]

theorem flat_rep (l : List Value) : ∀ (n i : Nat), i < n * l.length → (List.replicate n l).flatten[i]? = l[i % l.length]?
  | 0, i, h => by omega
  | n + 1, i, h => by
    rw [List.replicate_succ, List.flatten_cons]
    by_cases hi : i < l.length
    · rw [List.getElem?_append_left hi, Nat.mod_eq_of_lt hi]
    · rw [List.getElem?_append_right (by omega), flat_rep l n (i - l.length) (by rw [Nat.add_mul] at h; omega)]
      rw [← Nat.mod_eq_sub_mod (by omega)]
theorem zero_cells {z : Value} {t : Ty} (hsz : z.cells.size = t.size) (hzc : z.cells.toList = t.zc) (n : Nat) : ((Array.range (n * t.size)).map (fun i => z.cells[i % z.cells.size]!)) = (List.replicate n t.zc).flatten.toArray := by
  have hl : t.zc.length = t.size := by rw [← hzc, Array.length_toList, hsz]
  apply Array.ext
  · simp [hl]
  · intro i h1 h2
    have hi : i < n * t.size := by simpa using h1
    have hpos : 0 < t.size := by
      rcases Nat.eq_zero_or_pos t.size with h | h
      · rw [h] at hi; omega
      · exact h
    have hm : i % t.size < z.cells.size := by rw [hsz]; exact Nat.mod_lt _ hpos
    have e1 := flat_rep t.zc n i (by rw [hl]; exact hi)
    have e2 : t.zc[i % t.size]? = some z.cells[i % t.size] := by rw [← hzc, Array.getElem?_toList, Array.getElem?_eq_getElem hm]
    rw [hl, e2] at e1
    simp only [Array.getElem_map, Array.getElem_range, hsz]
    rw [getElem!_pos z.cells _ hm]
    have e3 : (List.replicate n t.zc).flatten.toArray[i]? = some z.cells[i % t.size] := by rw [List.getElem?_toArray]; exact e1
    rw [Array.getElem?_eq_getElem h2] at e3
    exact (Option.some.inj e3).symm
theorem builtV_ok (hT : TabOk P T) {c : Cx} (hr : Rel E c) {ρ : Operand → V} {ρ' : Operand → Value} (hρ : ∀ x, RelV P E c (ρ x) (ρ' x)) {dst : Option Tmp} {b : Builtin} {ats : Array TypeId} {args : Array Operand} {ty : TypeId} {cons : Array Bool}
    {v : V} {m' : Mem} {fp fp' : FP} (h : (builtV T dst b ats.toList (args.toList.map ρ)).ev c.m fp = some (v, m', fp')) :
    ∃ c' u, c'.m = m' ∧ Rel E c' ∧ Ext c c' ∧ RelV P E c' v u ∧ (builtin b ats ty cons (args.map ρ')).run P c.w = .ok (.value u) c'.w := by
  obtain ⟨args⟩ := args
  obtain ⟨ats⟩ := ats
  simp only at h
  unfold builtV at h
  split at h
  · -- len
    rename_i t x hargs
    cases args with
    | nil => simp at hargs
    | cons p args =>
      cases args with
      | cons q r => simp at hargs
      | nil =>
        simp only [List.map_cons, List.map_nil, List.cons.injEq, and_true] at hargs
        have hx := hρ p
        rw [hargs] at hx
        unfold lenV at h
        split at h
        · rename_i e t' ht
          obtain ⟨rfl, rfl⟩ := ok_inj h
          have : ρ' p = .slice none 0 0 := hx
          have hund := ((hT _ _ ht).und).1
          exact ⟨c, _, rfl, hr, Ext.refl c, relV_intV, by simp [builtin, Builtin.len_, run_underlying hund, this, goInt]⟩
        · rename_i e t' e2 t2 xs ht
          obtain ⟨rfl, rfl⟩ := ok_inj h
          obtain ⟨A, cap, he, _⟩ := hx
          have : ρ' p = .slice A (List.length (α := t2.den) xs) cap := by simpa using he
          have hund := ((hT _ _ ht).und).1
          exact ⟨c, _, rfl, hr, Ext.refl c, relV_intV, by simp [builtin, Builtin.len_, run_underlying hund, this, goInt]⟩
        · rename_i s ht
          obtain ⟨rfl, rfl⟩ := ok_inj h
          have := relV_str hx
          have hund := (hT _ _ ht).und
          exact ⟨c, _, rfl, hr, Ext.refl c, relV_intV, by simp [builtin, Builtin.len_, run_underlying (show P.underlying t = some .string from hund), this, goInt]⟩
        · rename_i e t' a ht
          simp only [Res.ev] at h
          cases ha : c.m.arr a with
          | no => rw [ha] at h; exact (fail_ne h).elim
          | dead => rw [ha] at h; exact (fail_ne h).elim
          | at_ A =>
            rw [ha] at h
            obtain ⟨rfl, rfl⟩ := ok_inj h
            have hu := hx.2 A ha
            have hund := ((hT _ _ ht).und).1
            obtain ⟨B, cap, he⟩ : ∃ B cap, c.ar a = .slice B A.xs.length cap := by
              have := hr.arr a A ha
              unfold RelA at this
              split at this
              · obtain ⟨_, ho, _⟩ := this
                rcases ho.2 with ⟨e1, e2⟩ | ⟨g, cap, cur, e1, _⟩
                · exact ⟨none, 0, by rw [e1, e2]⟩
                · exact ⟨_, _, e1⟩
              · obtain ⟨B, cap, he, _⟩ := this
                exact ⟨B, cap, by simpa using he⟩
            rw [he] at hu
            exact ⟨c, _, rfl, hr, Ext.refl c, relV_intV, by simp [builtin, Builtin.len_, run_underlying hund, hu, goInt]⟩
        · exact (fail_ne h).elim
  · -- max
    rename_i k n l hargs
    cases args with
    | nil => simp at hargs
    | cons p args =>
      simp only [List.map_cons, List.cons.injEq] at hargs
      obtain ⟨h1, rfl⟩ := hargs
      have hx := hρ p
      rw [h1] at hx
      have hp := relV_int hx
      obtain ⟨e, u, hu, hrun⟩ := foldInt_ok (P := P) hρ (f := fun a b => max a b) (g := Builtin.max2) (fun k x y w => max2_run k x y w) args n v c.m m' fp fp' h
      refine ⟨c, u, e.symm, hr, Ext.refl c, hu, ?_⟩
      simp only [builtin, Builtin.max_, List.map_toArray, List.map_cons, hp, Sem.run_bind]
      rw [hrun]; rfl
  · -- min
    rename_i k n l hargs
    cases args with
    | nil => simp at hargs
    | cons p args =>
      simp only [List.map_cons, List.cons.injEq] at hargs
      obtain ⟨h1, rfl⟩ := hargs
      have hx := hρ p
      rw [h1] at hx
      have hp := relV_int hx
      obtain ⟨e, u, hu, hrun⟩ := foldInt_ok (P := P) hρ (f := fun a b => min a b) (g := Builtin.min2) (fun k x y w => min2_run k x y w) args n v c.m m' fp fp' h
      refine ⟨c, u, e.symm, hr, Ext.refl c, hu, ?_⟩
      simp only [builtin, Builtin.min_, List.map_toArray, List.map_cons, hp, Sem.run_bind]
      rw [hrun]; rfl
  · -- append
    rename_i t t' s x hargs
    split at h
    · rename_i d e tt heq ht
      have htt : t = t' := by simpa using heq
      subst htt
      cases args with
      | nil => simp at hargs
      | cons p args =>
        cases args with
        | nil => simp at hargs
        | cons q args =>
          cases args with
          | cons _ _ => simp at hargs
          | nil =>
            simp only [List.map_cons, List.map_nil, List.cons.injEq, and_true] at hargs
            obtain ⟨hp, hq⟩ := hargs
            have hxp := hρ p
            have hxq := hρ q
            rw [hp] at hxp
            rw [hq] at hxq
            obtain ⟨xs, m1, fp1, h1, h2⟩ := Res.bind_some h
            obtain ⟨r1, e1, hl1⟩ := baseV_ok hr hxp h1
            obtain ⟨ys, m2, fp2, h3, h4⟩ := Res.bind_some h2
            obtain ⟨S2, r2, e2, hy, hlo⟩ := asDat_loose r1 h3 (hxq.ext e1)
            have hl2 := hlo _ _ _ _ hl1
            obtain ⟨hlen, h5⟩ := Res.chk_some h4
            obtain ⟨v', w', hrun, c3, hm3, hw3, r3, e3, hl3⟩ := append_run hT ht ty r2 hl2 hy (of_decide_eq_true hlen)
            subst hw3
            have h6 : (newArr d e tt (xs ++ ys)).ev c3.m fp2 = some (v, m', fp') := by rw [hm3]; exact h5
            obtain ⟨c4, hm4, hw4, r4, e4, hv4⟩ := newArr_ok (P := P) r3 h6 hl3
            refine ⟨c4, v', hm4, r4, ((e1.trans e2).trans e3).trans e4, hv4, ?_⟩
            rw [hw4]
            simp only [builtin, List.map_toArray, List.map_cons, List.map_nil, Sem.run_bind, hrun, Result.andThen_ok, Sem.run_pure]
    · exact (fail_ne h).elim
  · exact (fail_ne h).elim

theorem vop_ok (hT : TabOk P T) (hG : ∀ f s, G f = some s → SpecOk P f s) {o : Oper} {a : Act} {c : Cx} {ρ : Operand → V} (hr : Rel E c) (hρ : ∀ x, RelV P E c (ρ x) (a.eval x))
    {v : V} {m' : Mem} {fp fp' : FP} (h : (vop G T o.dst ρ o.op).ev c.m fp = some (v, m', fp')) {K : Act → World → Prop} {Q : Exit → Act → World → Prop}
    (hK : ∀ (c' : Cx) (u : Value), c'.m = m' → Rel E c' → Ext c c' → RelV P E c' v u → K (a.put o.dst u) c'.w) : o.wp P a c.w K Q := by
  obtain ⟨dst, op, type, pos, after, guard⟩ := o
  simp only at h
  cases op with
  | move x =>
    obtain ⟨rfl, rfl⟩ := ok_inj h
    exact goes_wp hK (Goes.pure hr (hρ x) (by simp [execOp]))
  | assign x =>
    obtain ⟨rfl, rfl⟩ := ok_inj h
    exact goes_wp hK (Goes.pure hr (hρ x) (by simp [execOp]))
  | pick p x y =>
    simp only [vop] at h
    split at h
    · rename_i b hb
      have hp := hρ p
      rw [hb] at hp
      have hpv := relV_bool hp
      split at h
      · rename_i dx dy hx hy
        split at h
        · rename_i he
          obtain ⟨rfl, rfl⟩ := ok_inj h
          have h1 := hρ x
          have h2 := hρ y
          rw [hx] at h1
          rw [hy] at h2
          obtain ⟨tx, vx⟩ := dx
          obtain ⟨ty, vy⟩ := dy
          simp only at he
          subst he
          refine goes_wp hK (Goes.pure hr (u := if b then a.eval x else a.eval y) ?_ (by simp [execOp, hpv, asBool]))
          cases b
          · exact h2
          · exact h1
        · exact (fail_ne h).elim
      · cases b
        · obtain ⟨rfl, rfl⟩ := ok_inj (show (Res.ok (ρ y)).ev c.m fp = some (v, m', fp') from h)
          exact goes_wp hK (Goes.pure hr (hρ y) (by simp [execOp, hpv, asBool]))
        · obtain ⟨rfl, rfl⟩ := ok_inj (show (Res.ok (ρ x)).ev c.m fp = some (v, m', fp') from h)
          exact goes_wp hK (Goes.pure hr (hρ x) (by simp [execOp, hpv, asBool]))
    · exact (fail_ne h).elim
  | alloc e =>
    simp only [vop] at h
    split at h
    · rename_i d t ht
      obtain ⟨z, hz, hzc⟩ := (hT _ _ ht).zero c.w
      obtain ⟨c', hm, hw, r', e', hv⟩ := newBox_ok (P := P) hr h z.cells e (by rw [hzc]; exact relC_zero _ _ _ (hT _ _ ht).good)
      refine goes_wp hK ⟨c', _, hm, r', e', hv, .inl ?_⟩
      rw [hw]
      simp [execOp, Instr.alloc, hz, newVar, newRow]
    · exact (fail_ne h).elim
  | box e x =>
    simp only [vop] at h
    split at h
    · rename_i d t ht
      obtain ⟨y, m1, fp1, h1, h2⟩ := Res.bind_some h
      obtain ⟨S', r1, e1, hy⟩ := asDat_ok hr (hρ x) h1
      obtain ⟨c', hm, hw, r', e', hv⟩ := newBox_ok (P := P) r1 h2 (a.eval x).cells e (hy.v1 (hT _ _ ht).good).cells
      refine goes_wp hK ⟨c', _, hm, r', e1.trans e', hv, .inl ?_⟩
      rw [hw]
      simp [execOp, Instr.box, newVar, newRow]
    · exact (fail_ne h).elim
  | build t ps =>
    simp only [vop] at h
    split at h
    · rename_i cc ht
      obtain ⟨y, m1, fp1, h1, h2⟩ := Res.bind_some h
      obtain ⟨rfl, rfl⟩ := ok_inj h2
      have hok := hT _ _ ht
      obtain ⟨z, hz, hzc⟩ := hok.zero c.w
      obtain ⟨fs, hund, hfl, _⟩ := hok.und
      obtain ⟨l, hl, hli⟩ := run_places hT fs.toList c.w hfl.mem
      have hgd := hok.good
      obtain ⟨S', cs', r', e', hfill, hR⟩ := buildC_ok (P := P) (E := E) (ct := cc) (place := fun i => l[i]?) (fun i t' hi => by
        obtain ⟨f, hf, hft, hfo, _⟩ := hfl.at_ hi
        exact ⟨by rw [hli i f t' hf hft, hfo, Nat.zero_add], (hT _ _ hft).good⟩) ps.toList c cc.zero cc.zc y m' fp fp1 hr hρ (relC_zero _ _ (.st cc) hgd) h1
      refine goes_wp hK ⟨_, .agg cs'.toArray, rfl, r', e', ⟨cs'.toArray, rfl, by show RelC c.w S' cc y _; simpa using hR⟩, .inl ?_⟩
      have hmap : (fs.mapM fun f => (do pure (f.offset, ← sizeOf f.type) : Sem (Nat × Nat))).run P c.w = .ok l.toArray c.w := by
        rw [Array.mapM_eq_mapM_toList, Sem.run_map, hl]; rfl
      have hzz : z.cells = (Ty.zc (.st cc)).toArray := by apply Array.ext'; rw [hzc]
      have hps : (ps.map fun (i, x) => (i, a.eval x)).toList = ps.toList.map fun p => (p.1, a.eval p.2) := by simp
      simp only [execOp, Instr.build, Sem.run_bind, hz, Result.andThen_ok, run_underlying hund, hmap, hps, hzz]
      have hfill' : Instr.fill (fun i => l.toArray[i]?) (Ty.zc (.st cc)).toArray (ps.toList.map fun p => (p.1, a.eval p.2)) = some cs'.toArray := by simpa [Ty.zc] using hfill
      rw [hfill']
      rfl
    · rename_i n tt ht
      obtain ⟨y, m1, fp1, h1, h2⟩ := Res.bind_some h
      obtain ⟨rfl, rfl⟩ := ok_inj h2
      have hok := hT _ _ ht
      obtain ⟨z, hz, hzc⟩ := hok.zero c.w
      obtain ⟨e, hund, hte, _⟩ := hok.und
      have hgd := hok.good
      have hz0 : RelC c.w c.S (.arr n tt) (List.replicate n tt.zero) (Ty.zc (.arr n tt)) := relC_zero _ _ (.arr n tt) hgd
      obtain ⟨S', cs', r', e', hfill, hR, hlen⟩ := buildL_ok (P := P) (E := E) (t := tt) (hT _ _ hte).good (place := fun i => some (i * tt.size, tt.size)) (fun i => rfl) ps.toList c (List.replicate n tt.zero) _ y m' fp fp1 hr hρ hz0.2 h1
      refine goes_wp hK ⟨_, .agg cs'.toArray, rfl, r', e', ⟨cs'.toArray, rfl, by rw [hlen, List.length_replicate], by simpa using hR⟩, .inl ?_⟩
      have hzz : z.cells = (Ty.zc (.arr n tt)).toArray := by apply Array.ext'; rw [hzc]
      have hps : (ps.map fun (i, x) => (i, a.eval x)).toList = ps.toList.map fun p => (p.1, a.eval p.2) := by simp
      simp only [execOp, Instr.build, Sem.run_bind, hz, Result.andThen_ok, run_underlying hund, (hT _ _ hte).sizeOf c.w, hps, hzz, hfill, Sem.run_pure]
    · exact (fail_ne h).elim
  | buildSlice t n ps =>
    simp only [vop] at h
    split at h
    · rename_i d e tt ht hn
      have hn' : n ≤ 4096 := of_decide_eq_true hn
      obtain ⟨y, m1, fp1, h1, h2⟩ := Res.bind_some h
      obtain ⟨hund, hte, hpos⟩ := (hT _ _ ht).und
      have hok := hT _ _ hte
      obtain ⟨z, hz, hzc⟩ := hok.zero c.w
      have hz0 : RelL (RelC c.w c.S tt) (List.replicate n tt.zero) (List.replicate n tt.zc).flatten := by
        have : RelC c.w c.S (.arr n tt) (Ty.zero (.arr n tt)) (Ty.zc (.arr n tt)) := relC_zero _ _ (.arr n tt) hok.good
        exact this.2
      obtain ⟨S', cs', r', e', hfill, hR, hlen⟩ := buildL_ok (P := P) (E := E) (t := tt) hok.good (place := fun i => some (i * tt.size, tt.size)) (fun i => rfl) ps.toList c (List.replicate n tt.zero) _ y m1 fp fp1 hr hρ hz0 h1
      rw [List.length_replicate] at hlen
      obtain ⟨c2, hm2, hw2, r2, e2, hl2⟩ := fresh_loose r' (e := e) (cells := cs'.toArray) (by simpa using hR) (by rw [hlen]; simp only [maxLen]; omega)
      have h3 : (newArr d e tt y).ev c2.m fp1 = some (v, m', fp') := by rw [hm2]; exact h2
      obtain ⟨c3, hm3, hw3, r3, e3, hv3⟩ := newArr_ok (P := P) r2 h3 hl2
      refine goes_wp hK ⟨c3, _, hm3, r3, (e'.trans e2).trans e3, hv3, .inl ?_⟩
      rw [hw3, hw2]
      have hps : (ps.map fun (i, x) => (i, a.eval x)).toList = ps.toList.map fun p => (p.1, a.eval p.2) := by simp
      have hsz : z.cells.size = tt.size := by
        have := (relC_zero c.w c.S tt hok.good).len
        rw [← Array.length_toList, hzc, this]
      have hzz : ((Array.range (n * tt.size)).map (fun i => z.cells[i % z.cells.size]!)) = (List.replicate n tt.zc).flatten.toArray := zero_cells hsz hzc n
      have hbig : ¬ (n * tt.size > 2 ^ 24) := by
        have := hok.small
        have : n * tt.size ≤ 4096 * 4096 := Nat.mul_le_mul hn' this
        omega
      simp only [execOp, Instr.buildSlice, Sem.run_bind, run_underlying hund, Result.andThen_ok, hok.sizeOf c.w, if_neg hbig, Sem.run_pure, Sem.run_ite]
      by_cases h0 : n * tt.size = 0
      · have hn0 : n = 0 := by
          rcases Nat.mul_eq_zero.1 h0 with h | h
          · exact h
          · omega
        subst hn0
        simp only [Nat.zero_mul, if_true, Result.andThen_ok, hps]
        have : ((Array.range 0).map (fun i => (#[] : Array Value)[i % (#[] : Array Value).size]!)) = (List.replicate 0 tt.zc).flatten.toArray := by simp
        rw [this, hfill]
        simp [newRow, hlen]
      · simp only [if_neg h0, hz, Result.andThen_ok, hps, hzz, hfill]
        simp [newRow, hlen]
    · exact (fail_ne h).elim
  | load t p =>
    simp only [vop] at h
    split at h
    · rename_i ty ht
      obtain ⟨rfl, u, hu, hrun⟩ := loadV_ok hT ht hr (hρ p) h
      exact goes_wp hK (Goes.pure hr hu (by simp [execOp, hrun]))
    · exact (fail_ne h).elim
  | store t p x =>
    simp only [vop] at h
    split at h
    · rename_i ty ht
      obtain ⟨c', hm, r', e', hv, hrun⟩ := storeV_ok hT ht hr (hρ p) (hρ x) h
      exact goes_wp hK ⟨c', undef, hm, r', e', hv, .inr ⟨by simp [execOp, hrun], rfl⟩⟩
    · exact (fail_ne h).elim
  | nilCheck x =>
    simp only [vop] at h
    have hx := hρ x
    split at h
    · rename_i b p t hv
      obtain ⟨rfl, rfl⟩ := ok_inj h
      rw [hv] at hx
      have hx' := hx
      obtain ⟨B, _, _, _, he⟩ := hx'
      exact goes_wp hK (Goes.pure hr hx (by simp [execOp, he]))
    · rename_i d hv
      obtain ⟨rfl, rfl⟩ := ok_inj h
      rw [hv] at hx
      have hx' := hx
      obtain ⟨ad, cs, he, _⟩ := hx'
      exact goes_wp hK (Goes.pure hr hx (by simp [execOp, he]))
    · rename_i f cs hv
      obtain ⟨rfl, rfl⟩ := ok_inj h
      rw [hv] at hx
      have hx' := hx
      obtain ⟨cv, he, _⟩ := hx'
      exact goes_wp hK (Goes.pure hr hx (by simp [execOp, he]))
    · rename_i x' r' g hv
      obtain ⟨rfl, rfl⟩ := ok_inj h
      rw [hv] at hx
      have hx' := hx
      obtain ⟨S1, _, f, cv, he, _⟩ := hx'
      exact goes_wp hK (Goes.pure hr hx (by simp [execOp, he]))
    · exact (fail_ne h).elim
  | binOp op xt x y yt =>
    simp only [vop] at h
    split at h
    · rename_i d1 d2 h1 h2
      have hx := hρ x
      have hy := hρ y
      rw [h1] at hx
      rw [h2] at hy
      obtain ⟨rfl, u, hu, hrun⟩ := binD_ok hT (px := x) (py := y) hx hy h
      refine goes_wp hK (Goes.pure hr hu ?_)
      simp only [execOp, Sem.run_bind] at hrun ⊢
      rw [hrun]; rfl
    · exact (fail_ne h).elim
  | unOp op xt x =>
    simp only [vop] at h
    split at h
    · rename_i d hd
      have hx := hρ x
      rw [hd] at hx
      unfold unD at h
      split at h
      · rename_i b
        have := relV_bool hx
        split at h
        · obtain ⟨rfl, rfl⟩ := ok_inj h
          exact goes_wp hK (Goes.pure hr relV_boolV (by simp [execOp, Op.unary, this]))
        · exact (fail_ne h).elim
      · rename_i k n
        have := relV_int hx
        split at h
        · obtain ⟨rfl, rfl⟩ := ok_inj h
          exact goes_wp hK (Goes.pure hr relV_intV (by simp [execOp, Op.unary, Op.intArith, this]))
        · exact (fail_ne h).elim
      · exact (fail_ne h).elim
    · exact (fail_ne h).elim
  | convert src d x =>
    simp only [vop] at h
    split at h
    · rename_i ts td dx h1 h2 h3
      have hx := hρ x
      rw [h3] at hx
      obtain ⟨rfl, u, hu, hrun⟩ := convD_ok hT h1 h2 hx h
      exact goes_wp hK (Goes.pure hr hu (by simp [execOp, hrun]))
    · exact (fail_ne h).elim
  | makeFunc fn first caps =>
    simp only [vop] at h
    split at h
    · rename_i f l hfi hl
      obtain ⟨rfl, rfl⟩ := ok_inj h
      have hf0 : first = #[] := by apply Array.ext'; exact hfi
      subst hf0
      refine goes_wp hK (Goes.pure hr (u := .func (.func f) #[] (caps.map a.eval)) ⟨_, rfl, ?_⟩ (by simp [execOp, Instr.makeFunc]))
      rw [Array.toList_map]
      exact toCaps_ok hρ _ _ hl
    · exact (fail_ne h).elim
  | slice t x lo hi mx =>
    cases mx with
    | some _ => exact (fail_ne h).elim
    | none =>
    simp only [vop] at h
    split at h
    · rename_i e tt ht
      obtain ⟨xs, m1, fp1, h1, h2⟩ := Res.bind_some h
      obtain ⟨S', r1, e1, hx⟩ := asDat_ok hr (hρ x) h1
      split at h2
      · rename_i l hh hl hhi
        obtain ⟨hc, h3⟩ := Res.chk_some h2
        obtain ⟨rfl, rfl⟩ := ok_inj h3
        simp only [Bool.and_eq_true, decide_eq_true_eq] at hc
        obtain ⟨⟨c1, c2⟩, c3⟩ := hc
        obtain ⟨hund, hte, hpos⟩ := (hT _ _ ht).und
        obtain ⟨A, cap, he, hcap, hcc⟩ := hx
        have he2 : a.eval x = .slice A (List.length (α := tt.den) xs) cap := by simpa using he
        have hx2 : RelC c.w S' (.sl e tt) xs [.slice A (List.length (α := tt.den) xs) cap] := ⟨A, cap, rfl, hcap, hcc⟩
        obtain ⟨_, _, hcut⟩ := cut_ok hx2 (l := l.toNat) (h' := hh.toNat) (by omega) (by omega)
        have hsz := (hT _ _ hte).sizeOf c.w
        refine goes_wp hK ⟨_, .slice (if cap = l.toNat then A else A.map (·.add (l.toNat * tt.size))) (hh.toNat - l.toNat) (cap - l.toNat), rfl, r1, e1, hcut, .inl ?_⟩
        simp only [execOp, Instr.sliceAt, Sem.run_bind, run_underlying hund, Result.andThen_ok, Option.map_none]
        rcases intOf_ok hρ hl with ⟨rfl, el⟩ | ⟨ol, kl, rfl, el⟩ <;> rcases intOf_ok hρ hhi with ⟨rfl, eh⟩ | ⟨oh, kh, rfl, eh⟩
        · subst el eh
          simp [Instr.slice, Instr.sliceBounds, run_underlying hund, he2, hsz]
        · subst el
          have g1 : hh ≤ (cap : Int) := by omega
          simp [Instr.slice, Instr.sliceBounds, Instr.sliceBound, run_underlying hund, he2, hsz, eh, asIntOf, g1, c2]
        · subst eh
          have g1 : l ≤ ((List.length (α := tt.den) xs : Nat) : Int) := c2
          simp [Instr.slice, Instr.sliceBounds, Instr.sliceBound, run_underlying hund, he2, hsz, el, asIntOf, c1, g1]
        · have g1 : hh ≤ (cap : Int) := by omega
          have g0 : 0 ≤ hh := by omega
          have g2 : l ≤ ((hh.toNat : Nat) : Int) := by omega
          simp [Instr.slice, Instr.sliceBounds, Instr.sliceBound, run_underlying hund, he2, hsz, el, eh, asIntOf, g1, g0, g2, c1]
          intro hlt; exact absurd hlt (by omega)
      · exact (fail_ne h2).elim
    · rename_i ht
      have hund : P.underlying t = some .string := (hT _ _ ht).und
      split at h
      · rename_i s hs
        split at h
        · rename_i l hh hl hhi
          obtain ⟨hc, h3⟩ := Res.chk_some h
          obtain ⟨rfl, rfl⟩ := ok_inj h3
          simp only [Bool.and_eq_true, decide_eq_true_eq] at hc
          obtain ⟨⟨c1, c2⟩, c3⟩ := hc
          have hx := hρ x
          rw [hs] at hx
          have he2 := relV_str hx
          refine goes_wp hK (Goes.pure hr relV_strV ?_)
          simp only [execOp, Instr.sliceAt, Sem.run_bind, run_underlying hund, Result.andThen_ok, Option.map_none]
          rcases intOf_ok hρ hl with ⟨rfl, el⟩ | ⟨ol, kl, rfl, el⟩ <;> rcases intOf_ok hρ hhi with ⟨rfl, eh⟩ | ⟨oh, kh, rfl, eh⟩
          · subst el eh
            simp [Instr.slice, Instr.sliceBounds, run_underlying hund, he2]
          · subst el
            simp [Instr.slice, Instr.sliceBounds, Instr.sliceBound, run_underlying hund, he2, eh, asIntOf, c3, c2]
          · subst eh
            simp [Instr.slice, Instr.sliceBounds, Instr.sliceBound, run_underlying hund, he2, el, asIntOf, c1, c2]
          · have g0 : 0 ≤ hh := by omega
            have g2 : l ≤ ((hh.toNat : Nat) : Int) := by omega
            simp [Instr.slice, Instr.sliceBounds, Instr.sliceBound, run_underlying hund, he2, el, eh, asIntOf, c3, g0, g2, c1]
            intro hlt; exact absurd hlt (by omega)
        · exact (fail_ne h).elim
      · exact (fail_ne h).elim
    · exact (fail_ne h).elim
  | fieldAddr s x f =>
    simp only [vop] at h
    split at h
    · rename_i cc b p c' ht hv
      split at h
      · rename_i hcc
        subst hcc
        split at h
        · rename_i t' ht'
          obtain ⟨rfl, rfl⟩ := ok_inj h
          have hx := hρ x
          rw [hv] at hx
          obtain ⟨B, hB, hpt, hp, he⟩ := hx
          obtain ⟨fs, hund, hfl, _⟩ := (hT _ _ ht).und
          obtain ⟨fd, hf, hft, hfo, hfp⟩ := hfl.at_ ht'
          have hf2 : fs[f]? = some fd := by rw [← Array.getElem?_toList]; exact hf
          refine goes_wp hK (Goes.pure hr (u := .pointer (some ⟨c.bx b, pathOff (p ++ [.fld f]) B.t, none⟩)) ⟨B, hB, ?_, pathIn_app hpt hp ⟨t', ht', trivial⟩, rfl⟩ ?_)
          · rw [pathTy_app hpt]; simp [pathTy, ht']
          · have hsz := (hT _ _ hft).sizeOf c.w
            have hne : ¬ t'.size = 0 := by omega
            have hoff : pathOff (p ++ [.fld f]) B.t = pathOff p B.t + fd.offset := by
              rw [pathOff_app hpt, hfo]; simp [pathOff, ht']
            simp only [execOp, Instr.fieldAt, Sem.run_bind, run_underlying hund, Result.andThen_ok, hf2, he, Instr.sureAddr, Sem.run_pure, fieldPlace, hsz, Sem.run_ite, if_neg hne, Addr.add_mid, hoff]
        · exact (fail_ne h).elim
      · exact (fail_ne h).elim
    · rename_i cc c' y ht hv
      split at h
      · rename_i hcc
        subst hcc
        split at h
        · rename_i d hd
          obtain ⟨rfl, rfl⟩ := ok_inj h
          have hx := hρ x
          rw [hv] at hx
          obtain ⟨ad, cs, he, hs, hc, hca⟩ := hx
          obtain ⟨hty, p, m, q, e2, hl, hm⟩ := chainGet_rel (c := c') (show RelC c.w c.S c' y cs from hc) hd
          obtain ⟨fs, hund, hfl, _⟩ := (hT _ _ ht).und
          obtain ⟨fd, hf, hft, hfo, hfp⟩ := hfl.at_ hty
          have hf2 : fs[f]? = some fd := by rw [← Array.getElem?_toList]; exact hf
          rw [e2] at hca
          refine goes_wp hK (Goes.pure hr (u := .pointer (some (ad.add p.length))) ⟨ad.add p.length, m, rfl, by rw [add_block']; exact hs, hm, hca.mid⟩ ?_)
          have hsz := (hT _ _ hft).sizeOf c.w
          have hne : ¬ d.t.size = 0 := by omega
          have ho : fd.offset = p.length := by rw [hfo, hl]; omega
          simp only [execOp, Instr.fieldAt, Sem.run_bind, run_underlying hund, Result.andThen_ok, hf2, he, Instr.sureAddr, Sem.run_pure, fieldPlace, hsz, Sem.run_ite, if_neg hne, ho]
        · exact (fail_ne h).elim
      · exact (fail_ne h).elim
    · exact (fail_ne h).elim
  | field s x f =>
    simp only [vop] at h
    split at h
    · rename_i cc c' y ht hv
      split at h
      · rename_i hcc
        subst hcc
        split at h
        · rename_i d hd
          obtain ⟨rfl, rfl⟩ := ok_inj h
          have hx := hρ x
          rw [hv] at hx
          obtain ⟨cs, he, hc⟩ := (show ∃ cs, a.eval x = .agg cs ∧ RelC c.w c.S (.st c') y cs.toList from hx)
          obtain ⟨hty, p, m, q, e2, hl, hm⟩ := chainGet_rel (c := c') (show RelC c.w c.S c' y cs.toList from hc) hd
          obtain ⟨fs, hund, hfl, _⟩ := (hT _ _ ht).und
          obtain ⟨fd, hf, hft, hfo, hfp⟩ := hfl.at_ hty
          have hf2 : fs[f]? = some fd := by rw [← Array.getElem?_toList]; exact hf
          obtain ⟨u, hu, hru⟩ := part_ok (hT _ _ hft) e2 (off := fd.offset) (by rw [hfo, hl]; omega) hm c.w
          refine goes_wp hK (Goes.pure hr (RelD.of_v1 hru) ?_)
          simp only [execOp, Instr.field, Sem.run_bind, run_underlying hund, Result.andThen_ok, hf2, he, asAgg, Sem.run_pure, hu]
        · exact (fail_ne h).elim
      · exact (fail_ne h).elim
    · exact (fail_ne h).elim
  | indexAddr t x i =>
    simp only [vop] at h
    split at h
    · rename_i k n hi
      have hiv := hρ i
      rw [hi] at hiv
      have hin := relV_int hiv
      split at h
      · rename_i len tt ht
        obtain ⟨e, hund, hte, hpos, _⟩ := (hT _ _ ht).und
        have hsz := (hT _ _ hte).sizeOf c.w
        split at h
        · rename_i b p n' t' hv
          split at h
          · rename_i hc
            obtain ⟨rfl, rfl⟩ := hc
            obtain ⟨hb, h2⟩ := Res.chk_some h
            obtain ⟨rfl, rfl⟩ := ok_inj h2
            simp only [inI, Bool.and_eq_true, decide_eq_true_eq] at hb
            have hx := hρ x
            rw [hv] at hx
            obtain ⟨B, hB, hpt, hp, he⟩ := hx
            refine goes_wp hK (Goes.pure hr (u := .pointer (some ⟨c.bx b, pathOff (p ++ [.idx n]) B.t, none⟩)) ⟨B, hB, ?_, pathIn_app hpt hp ⟨hb.1, hb.2, trivial⟩, rfl⟩ ?_)
            · rw [pathTy_app hpt]; rfl
            · have hoff : pathOff (p ++ [.idx n]) B.t = pathOff p B.t + n.toNat * t'.size := by
                rw [pathOff_app hpt]; simp [pathOff]
              simp only [execOp, Instr.indexAt, Sem.run_bind, hin, asIntOf, Sem.run_pure, Result.andThen_ok, run_underlying hund, he, Instr.sureAddr, hsz, Sem.run_ite, if_pos hb, Addr.add_mid, hoff]
          · exact (fail_ne h).elim
        · rename_i n' t' xs hv
          split at h
          · rename_i hc
            obtain ⟨rfl, rfl⟩ := hc
            obtain ⟨hb, h2⟩ := Res.chk_some h
            obtain ⟨rfl, rfl⟩ := ok_inj h2
            simp only [inI, Bool.and_eq_true, decide_eq_true_eq] at hb
            have hx := hρ x
            rw [hv] at hx
            obtain ⟨ad, cs, he, hs, ⟨hn, hrl⟩, hca⟩ := hx
            obtain ⟨p, m, q, e2, hl, hm⟩ := getD_rel (fun _ _ h => RelC.len h) hrl (j := n.toNat) (by rw [hn]; omega) t'.zero
            rw [e2] at hca
            refine goes_wp hK (Goes.pure hr (u := .pointer (some (ad.add p.length))) ⟨ad.add p.length, m, rfl, by rw [add_block']; exact hs, hm, hca.mid⟩ ?_)
            simp only [execOp, Instr.indexAt, Sem.run_bind, hin, asIntOf, Sem.run_pure, Result.andThen_ok, run_underlying hund, he, Instr.sureAddr, hsz, Sem.run_ite, if_pos hb, hl]
          · exact (fail_ne h).elim
        · exact (fail_ne h).elim
      · rename_i e tt ht
        obtain ⟨hund, hte, hpos⟩ := (hT _ _ ht).und
        have hsz := (hT _ _ hte).sizeOf c.w
        obtain ⟨xs, m1, fp1, h1, h2⟩ := Res.bind_some h
        obtain ⟨S', r1, e1, hx⟩ := asDat_ok hr (hρ x) h1
        obtain ⟨hb, h3⟩ := Res.chk_some h2
        obtain ⟨rfl, rfl⟩ := ok_inj h3
        simp only [inI, Bool.and_eq_true, decide_eq_true_eq] at hb
        obtain ⟨A, cap, he, hcap, hcc⟩ := hx
        have he2 : a.eval x = .slice A (List.length (α := tt.den) xs) cap := by simpa using he
        obtain ⟨ad, inner, rfl, hs, hil, hca, hrl⟩ := hcc (by omega)
        obtain ⟨p, m, q, e2, hl, hm⟩ := getD_rel (fun _ _ h => RelC.len h) hrl (j := n.toNat) (by omega) tt.zero
        rw [e2] at hca
        refine goes_wp hK ⟨_, .pointer (some (ad.add p.length)), rfl, r1, e1, ⟨ad.add p.length, m, rfl, by rw [add_block']; exact hs, hm, hca.mid⟩, .inl ?_⟩
        simp only [execOp, Instr.indexAt, Sem.run_bind, hin, asIntOf, Sem.run_pure, Result.andThen_ok, run_underlying hund, he2, hsz, Sem.run_ite, if_pos hb, hl]
      · exact (fail_ne h).elim
    · exact (fail_ne h).elim
  | index t x i =>
    simp only [vop] at h
    split at h
    · rename_i k n len tt n' t' xs hi ht hv
      have hiv := hρ i
      rw [hi] at hiv
      have hin := relV_int hiv
      split at h
      · rename_i hc
        obtain ⟨rfl, rfl⟩ := hc
        obtain ⟨hb, h2⟩ := Res.chk_some h
        obtain ⟨rfl, rfl⟩ := ok_inj h2
        simp only [inI, Bool.and_eq_true, decide_eq_true_eq] at hb
        obtain ⟨e, hund, hte, hpos, _⟩ := (hT _ _ ht).und
        have hsz := (hT _ _ hte).sizeOf c.w
        have hx := hρ x
        rw [hv] at hx
        obtain ⟨cs, he, hn, hrl⟩ := (show ∃ cs, a.eval x = .agg cs ∧ RelC c.w c.S (.arr n' t') xs cs.toList from hx)
        obtain ⟨p, m, q, e2, hl, hm⟩ := getD_rel (fun _ _ h => RelC.len h) hrl (j := n.toNat) (by rw [hn]; omega) t'.zero
        obtain ⟨u, hu, hru⟩ := part_ok (hT _ _ hte) e2 (off := n.toNat * t'.size) hl hm c.w
        refine goes_wp hK (Goes.pure hr (RelD.of_v1 hru) ?_)
        simp only [execOp, Instr.index, Sem.run_bind, hin, asIntOf, Sem.run_pure, Result.andThen_ok, run_underlying hund, he, hsz, Sem.run_ite, if_pos hb, hu]
      · exact (fail_ne h).elim
    · rename_i k n s hi ht hv
      have hiv := hρ i
      rw [hi] at hiv
      have hin := relV_int hiv
      obtain ⟨hb, h2⟩ := Res.chk_some h
      obtain ⟨rfl, rfl⟩ := ok_inj h2
      have hund : P.underlying t = some .string := (hT _ _ ht).und
      have hx := hρ x
      rw [hv] at hx
      have he := relV_str hx
      obtain ⟨b, hb1, hb2⟩ := strAt_ok hb
      simp only [inI, Bool.and_eq_true, decide_eq_true_eq] at hb
      refine goes_wp hK (Goes.pure hr relV_intV ?_)
      simp only [execOp, Instr.index, Sem.run_bind, hin, asIntOf, Sem.run_pure, Result.andThen_ok, run_underlying hund, he, if_pos hb.1, hb1, hb2]
    · exact (fail_ne h).elim
  | extract x i =>
    simp only [vop] at h
    split at h
    · rename_i cc y hv
      split at h
      · rename_i d hd
        obtain ⟨rfl, rfl⟩ := ok_inj h
        have hx := hρ x
        rw [hv] at hx
        obtain ⟨vs, he, ht⟩ := (show ∃ vs, a.eval x = .tuple vs ∧ RelT c.w c.S cc y vs.toList from hx)
        obtain ⟨u, hu, hru⟩ := chainGet_tup ht hd
        have hu2 : vs[i]? = some u := by rw [← Array.getElem?_toList]; exact hu
        exact goes_wp hK (Goes.pure hr (RelD.of_v1 hru) (by simp [execOp, Instr.extract, he, hu2]))
      · exact (fail_ne h).elim
    · exact (fail_ne h).elim
  | call cl =>
    obtain ⟨callee, args, ats⟩ := cl
    simp only [vop, callV] at h
    cases callee with
    | builtin b =>
      obtain ⟨c', u, hm, r', e', hv, hrun⟩ := builtV_ok hT hr hρ (ty := type) (cons := args.map fun | .const _ => true | _ => false) h
      refine goes_wp hK ⟨c', u, hm, r', e', hv, .inl ?_⟩
      simp only [execOp, resolve, invoke, Sem.run_bind, Sem.run_pure, Result.andThen_ok]
      exact hrun
    | invoke r m => exact (fail_ne h).elim
    | value f =>
      simp only at h
      split at h
      · rename_i g caps hf
        have hfv := hρ f
        rw [hf] at hfv
        obtain ⟨cv, he, hk⟩ := hfv
        obtain ⟨hen, hc⟩ := callF_ok hG hr ((RelVs.map hρ args.toList).append (RelVs.caps hk)) h
        have harr : (args.toList.map a.eval ++ cv.toList).toArray = args.map a.eval ++ cv := by apply Array.ext'; simp
        unfold Oper.wp
        have hrun : (execOp a.eval ⟨dst, .call { callee := .value f, args := args, argTypes := ats }, type, pos, after, guard⟩).run P c.w = .ok (.enter g (args.map a.eval ++ cv)) c.w := by
          simp [execOp, resolve, he, Deferred.ofValue, invoke, hen _ _]
        rw [hrun]
        show Calls P g _ c.w _
        rw [← harr]
        refine hc.mono fun e w' hh => ?_
        obtain ⟨u, rfl, c', hm, rfl, r', e', hv⟩ := hh
        exact hK c' u hm r' e' hv
      · rename_i a' r' g hf
        split at h
        · rename_i x hx
          have hfv := hρ f
          rw [hf] at hfv
          obtain ⟨y, m1, fp1, h1, h2⟩ := Res.bind_some h
          obtain ⟨S', r1, e1, hy⟩ := asDat_ok hr (hρ x) h1
          simp only [Res.ev] at h2
          cases hz : g y with
          | none => rw [hz] at h2; cases h2
          | some z =>
            rw [hz] at h2
            obtain ⟨rfl, rfl⟩ := ok_inj h2
            obtain ⟨S2, hS2, f', cv, he, hen, hh⟩ := hfv
            have hc := hh c.w S' (fun b hb => hr.keep b (hS2 b hb).1 (hS2 b hb).2) (fun b hb => r1.old b hb) (fun b hb => r1.lt b hb) hr.size y (a.eval x) z hy hz
            have hargs : args = #[x] := by apply Array.ext'; exact hx
            subst hargs
            unfold Oper.wp
            have hrun : (execOp a.eval ⟨dst, .call { callee := .value f, args := #[x], argTypes := ats }, type, pos, after, guard⟩).run P c.w = .ok (.enter f' (#[a.eval x] ++ cv)) c.w := by
              simp [execOp, resolve, he, Deferred.ofValue, invoke, hen _ _]
            rw [hrun]
            show Calls P f' _ c.w _
            refine hc.mono fun e w' hret => ?_
            obtain ⟨u, rfl, hru, hb⟩ := hret
            obtain ⟨r2, e2⟩ := below_ok r1 hb (S' := Ext' S' c.w w') (fun _ h => .inl h) (fun _ h => h)
            exact hK _ u rfl r2 (e1.trans e2) hru
        · exact (fail_ne h).elim
      · exact (fail_ne h).elim
  | _ => exact (fail_ne h).elim
end
end Go.Vm
end
section
namespace Go.Vm
open Go.RowKit
set_option linter.unusedVariables false
set_option linter.unusedSimpArgs false

def oneEv (G : Gam) (T : Tab) (o : Oper) (st : St) : Option (St × FP) :=
  ((vop G T o.dst (evalV st.tmp) o.op).ev st.mem ⟨[], []⟩).map fun p => (⟨putV st.tmp o.dst p.1, p.2.1⟩, p.2.2)
def guardEv (G : Gam) (T : Tab) (ops : Array Oper) (o : Oper) (st : St) : Option (St × FP) :=
  match o.guard with
  | none => oneEv G T o st
  | some (j, want) => match dstAt ops j with
    | some t => match st.tmp t with
      | .dat ⟨.bool, b⟩ => if b = want then oneEv G T o st else some (skipOp o st, ⟨[], []⟩)
      | .und => some (skipOp o st, ⟨[], []⟩)
      | _ => none
    | none => none
theorem oneOp_std {R : Type} (G : Gam) (T : Tab) (o : Oper) (st : St) (k : St → FP → Option R) : oneOp (Alg.std R) G T o st k = (oneEv G T o st).bind fun p => k p.1 p.2 := by
  unfold oneOp oneEv
  rw [Res.run_std]
  cases (vop G T o.dst (evalV st.tmp) o.op).ev st.mem ⟨[], []⟩ <;> rfl
theorem upd_same {α : Type} {f : Nat → α} {t : Nat} {v : α} (h : f t = v) : upd f t v = f := by
  funext i
  unfold upd
  cases hb : Nat.beq i t with
  | true => rw [Nat.eq_of_beq_eq_true hb, h]; rfl
  | false => rfl
theorem guardOp_std {R : Type} (G : Gam) (T : Tab) (ops : Array Oper) (o : Oper) (st : St) (k : St → FP → Option R) : guardOp (Alg.std R) G T ops o st k = (guardEv G T ops o st).bind fun p => k p.1 p.2 := by
  unfold guardOp guardEv
  cases o.guard with
  | none => exact oneOp_std G T o st k
  | some jw =>
    obtain ⟨j, want⟩ := jw
    simp only
    cases dstAt ops j with
    | none => rfl
    | some t =>
      simp only
      generalize hb : st.tmp t = tv
      split
      · rename_i b
        cases b <;> cases want
        · show oneOp (Alg.std R) G T o ⟨upd st.tmp t (boolV false), st.mem⟩ k = _
          rw [upd_same (show st.tmp t = boolV false from hb)]
          show _ = Option.bind (if false = false then _ else _) _
          rw [if_pos rfl]
          exact oneOp_std G T o st k
        · show k (skipOp o ⟨upd st.tmp t (boolV false), st.mem⟩) _ = _
          rw [upd_same (show st.tmp t = boolV false from hb)]
          rfl
        · show k (skipOp o ⟨upd st.tmp t (boolV true), st.mem⟩) _ = _
          rw [upd_same (show st.tmp t = boolV true from hb)]
          rfl
        · show oneOp (Alg.std R) G T o ⟨upd st.tmp t (boolV true), st.mem⟩ k = _
          rw [upd_same (show st.tmp t = boolV true from hb)]
          show _ = Option.bind (if true = true then _ else _) _
          rw [if_pos rfl]
          exact oneOp_std G T o st k
      · rfl
      · rename_i hne hne2
        first
          | rfl
          | (split
             · rename_i b
               exact (hne b rfl).elim
             · exact (hne2 rfl).elim
             · rfl)

section
variable (G : Gam) (T : Tab) (ops : Array Oper)
def Run (F : Nat → FP) : List Nat → St → St → Prop
  | [], s, s' => s = s'
  | i :: l, s, s' => ∃ o s1, ops[i]? = some o ∧ guardEv G T ops o s = some (s1, F i) ∧ Run F l s1 s'

theorem runOps_run {R : Type} (k : St → List FP → Option R) (r : R) : ∀ (os : List Oper) (n : Nat) (st : St) (acc : List FP), (∀ i o, os[i]? = some o → ops[n + i]? = some o) → acc.length = n →
    runOps (Alg.std R) G T ops os st acc k = some r → ∃ st' fps, k st' (acc.reverse ++ fps) = some r ∧ fps.length = os.length ∧
      ∀ F : Nat → FP, (∀ i f, fps[i]? = some f → F (n + i) = f) → Run G T ops F (List.range' n os.length) st st'
  | [], n, st, acc, _, _, h => ⟨st, [], by simpa [runOps] using h, rfl, fun _ _ => rfl⟩
  | o :: os, n, st, acc, ho, hn, h => by
    unfold runOps at h
    rw [guardOp_std] at h
    cases hg : guardEv G T ops o st with
    | none => rw [hg] at h; cases h
    | some p =>
      obtain ⟨s1, f⟩ := p
      rw [hg] at h
      obtain ⟨st', fps, hk, hl, hr⟩ := runOps_run k r os (n + 1) s1 (f :: acc) (fun i o' hi => by
        have := ho (i + 1) o' (by simpa using hi)
        rwa [← Nat.add_assoc, Nat.add_right_comm] at this) (by simp [hn]) h
      refine ⟨st', f :: fps, by simpa [List.reverse_cons, List.append_assoc] using hk, by simp [hl], fun F hF => ?_⟩
      rw [List.length_cons, List.range'_succ]
      refine ⟨o, s1, by simpa using ho 0 o rfl, ?_, hr F (fun i f' hi => ?_)⟩
      · rw [hg, ← hF 0 f rfl]; rfl
      · have := hF (i + 1) f' (by simpa using hi)
        rwa [← Nat.add_assoc, Nat.add_right_comm] at this
end

def SameAt (i : Nat) (m m' : Mem) : Prop := (∀ b, i = idB b → m.box b = m'.box b) ∧ ∀ a, i = idA a → m.arr a = m'.arr a
theorem SameAt.refl (i : Nat) (m : Mem) : SameAt i m m := ⟨fun _ _ => rfl, fun _ _ => rfl⟩
theorem SameAt.symm {i : Nat} {m m' : Mem} (h : SameAt i m m') : SameAt i m' m := ⟨fun b e => (h.1 b e).symm, fun a e => (h.2 a e).symm⟩
theorem SameAt.trans {i : Nat} {m m' m'' : Mem} (h : SameAt i m m') (k : SameAt i m' m'') : SameAt i m m'' := ⟨fun b e => (h.1 b e).trans (k.1 b e), fun a e => (h.2 a e).trans (k.2 a e)⟩
theorem idB_inj {a b : Nat} (h : idB a = idB b) : a = b := by unfold idB at h; omega
theorem idA_inj {a b : Nat} (h : idA a = idA b) : a = b := by unfold idA at h; omega
theorem idB_ne_idA {a b : Nat} (h : idB a = idA b) : False := by unfold idA idB at h; omega
theorem Mem.ext_same {m m' : Mem} (h : ∀ i, SameAt i m m') : m = m' := by
  obtain ⟨b, a⟩ := m
  obtain ⟨b', a'⟩ := m'
  have h1 : b = b' := funext fun i => (h (idB i)).1 i rfl
  have h2 : a = a' := funext fun i => (h (idA i)).2 i rfl
  rw [h1, h2]
theorem setB_at {m m' : Mem} {b : Nat} {x : Box} {i : Nat} (h : i ≠ idB b → SameAt i m m') : SameAt i (m.setB b x) (m'.setB b x) := by
  by_cases hi : i = idB b
  · subst hi
    exact ⟨fun b' e => by rw [← idB_inj e]; simp [Mem.setB, upd], fun a e => (idB_ne_idA e).elim⟩
  · obtain ⟨h1, h2⟩ := h hi
    refine ⟨fun b' e => ?_, h2⟩
    simp only [Mem.setB, upd]
    cases hb : Nat.beq b' b with
    | true => rfl
    | false => exact h1 b' e
theorem setA_at {m m' : Mem} {b : Nat} {x : AS} {i : Nat} (h : i ≠ idA b → SameAt i m m') : SameAt i (m.setA b x) (m'.setA b x) := by
  by_cases hi : i = idA b
  · subst hi
    exact ⟨fun a e => (idB_ne_idA e.symm).elim, fun b' e => by rw [← idA_inj e]; simp [Mem.setA, upd]⟩
  · obtain ⟨h1, h2⟩ := h hi
    refine ⟨h1, fun b' e => ?_⟩
    simp only [Mem.setA, upd]
    cases hb : Nat.beq b' b with
    | true => rfl
    | false => exact h2 b' e
theorem setB_off {m : Mem} {b : Nat} {x : Box} {i : Nat} (h : i ≠ idB b) : SameAt i m (m.setB b x) :=
  ⟨fun b' e => by
    simp only [Mem.setB, upd]
    cases hb : Nat.beq b' b with
    | true => exact absurd (by rw [e, Nat.eq_of_beq_eq_true hb]) h
    | false => rfl, fun _ _ => rfl⟩
theorem setA_off {m : Mem} {b : Nat} {x : AS} {i : Nat} (h : i ≠ idA b) : SameAt i m (m.setA b x) :=
  ⟨fun _ _ => rfl, fun b' e => by
    simp only [Mem.setA, upd]
    cases hb : Nat.beq b' b with
    | true => exact absurd (by rw [e, Nat.eq_of_beq_eq_true hb]) h
    | false => rfl⟩

theorem Res.reads {α : Type} : ∀ (r : Res α) (m : Mem) (fp : FP) (v : α) (m' : Mem) (fp' : FP), r.ev m fp = some (v, m', fp') → ∀ i, i ∈ fp.r → i ∈ fp'.r
  | .fail, _, _, _, _, _, h, _, _ => by cases h
  | .ok a, m, fp, v, m', fp', h, i, hi => by
    injection h with h; injection h with h1 h2; injection h2 with h2 h3; subst h3; exact hi
  | .br b x y, m, fp, v, m', fp', h, i, hi => by
    cases b
    · exact Res.reads y m fp v m' fp' h i hi
    · exact Res.reads x m fp v m' fp' h i hi
  | .call o f, m, fp, v, m', fp', h, i, hi => by
    cases o with
    | none => cases h
    | some u => exact Res.reads (f u) m fp v m' fp' h i hi
  | .getB b f, m, fp, v, m', fp', h, i, hi => Res.reads (f (m.box b)) m _ v m' fp' h i (List.mem_cons_of_mem _ hi)
  | .setB b x r, m, fp, v, m', fp', h, i, hi => Res.reads r _ _ v m' fp' h i hi
  | .getA a f, m, fp, v, m', fp', h, i, hi => Res.reads (f (m.arr a)) m _ v m' fp' h i (List.mem_cons_of_mem _ hi)
  | .setA a x r, m, fp, v, m', fp', h, i, hi => Res.reads r _ _ v m' fp' h i hi

theorem Res.frame {α : Type} : ∀ (r : Res α) (m m2 : Mem) (fp : FP) (v : α) (m' : Mem) (fp' : FP), r.ev m fp = some (v, m', fp') → (∀ i, i ∈ fp'.r → SameAt i m m2) →
    ∃ m2' nw, r.ev m2 fp = some (v, m2', fp') ∧ fp'.w = nw ++ fp.w ∧ (∀ i, i ∉ nw → SameAt i m m' ∧ SameAt i m2 m2') ∧ ∀ i, i ∈ nw → SameAt i m' m2'
  | .fail, _, _, _, _, _, _, h, _ => by cases h
  | .ok a, m, m2, fp, v, m', fp', h, hs => by
    injection h with h; injection h with h1 h2; injection h2 with h2 h3; subst h1 h2 h3
    exact ⟨m2, [], rfl, rfl, fun i _ => ⟨SameAt.refl i _, SameAt.refl i _⟩, fun i hi => by simp at hi⟩
  | .br b x y, m, m2, fp, v, m', fp', h, hs => by
    cases b
    · exact Res.frame y m m2 fp v m' fp' h hs
    · exact Res.frame x m m2 fp v m' fp' h hs
  | .call o f, m, m2, fp, v, m', fp', h, hs => by
    cases o with
    | none => cases h
    | some u => exact Res.frame (f u) m m2 fp v m' fp' h hs
  | .getB b f, m, m2, fp, v, m', fp', h, hs => by
    have hb : m.box b = m2.box b := (hs (idB b) (Res.reads (f (m.box b)) m ⟨idB b :: fp.r, fp.w⟩ v m' fp' h (idB b) List.mem_cons_self)).1 b rfl
    obtain ⟨m2', nw, h1, h2, h3, h4⟩ := Res.frame (f (m.box b)) m m2 _ v m' fp' h hs
    exact ⟨m2', nw, by simp only [Res.ev]; rw [← hb]; exact h1, h2, h3, h4⟩
  | .getA b f, m, m2, fp, v, m', fp', h, hs => by
    have hb : m.arr b = m2.arr b := (hs (idA b) (Res.reads (f (m.arr b)) m ⟨idA b :: fp.r, fp.w⟩ v m' fp' h (idA b) List.mem_cons_self)).2 b rfl
    obtain ⟨m2', nw, h1, h2, h3, h4⟩ := Res.frame (f (m.arr b)) m m2 _ v m' fp' h hs
    exact ⟨m2', nw, by simp only [Res.ev]; rw [← hb]; exact h1, h2, h3, h4⟩
  | .setB b x r, m, m2, fp, v, m', fp', h, hs => by
    obtain ⟨m2', nw, h1, h2, h3, h4⟩ := Res.frame r (m.setB b x) (m2.setB b x) _ v m' fp' h (fun i hi => setB_at fun _ => hs i hi)
    refine ⟨m2', nw ++ [idB b], h1, by rw [h2]; simp, fun i hi => ?_, fun i hi => ?_⟩
    · simp only [List.mem_append, List.mem_singleton, not_or] at hi
      exact ⟨(setB_off hi.2).trans (h3 i hi.1).1, (setB_off hi.2).trans (h3 i hi.1).2⟩
    · by_cases hn : i ∈ nw
      · exact h4 i hn
      · have hb : i = idB b := by simpa [hn] using hi
        exact ((h3 i hn).1.symm.trans (setB_at fun hne => absurd hb hne)).trans (h3 i hn).2
  | .setA b x r, m, m2, fp, v, m', fp', h, hs => by
    obtain ⟨m2', nw, h1, h2, h3, h4⟩ := Res.frame r (m.setA b x) (m2.setA b x) _ v m' fp' h (fun i hi => setA_at fun _ => hs i hi)
    refine ⟨m2', nw ++ [idA b], h1, by rw [h2]; simp, fun i hi => ?_, fun i hi => ?_⟩
    · simp only [List.mem_append, List.mem_singleton, not_or] at hi
      exact ⟨(setA_off hi.2).trans (h3 i hi.1).1, (setA_off hi.2).trans (h3 i hi.1).2⟩
    · by_cases hn : i ∈ nw
      · exact h4 i hn
      · have hb : i = idA b := by simpa [hn] using hi
        exact ((h3 i hn).1.symm.trans (setA_at fun hne => absurd hb hne)).trans (h3 i hn).2

section
variable {G : Gam} {T : Tab} {ops : Array Oper}
theorem vop_congr {dst : Option Tmp} {ρ ρ' : Operand → V} : ∀ (op : Op), (∀ x ∈ op.operands, ρ x = ρ' x) → vop G T dst ρ op = vop G T dst ρ' op := by
  have opt : ∀ (o : Option Operand), (∀ x ∈ o.toArray, ρ x = ρ' x) → o.map ρ = o.map ρ' := fun o h => by
    cases o with
    | none => rfl
    | some x => simp only [Option.map_some]; rw [h x (by simp)]
  have pairs : ∀ ps : Array (Nat × Operand), (∀ x ∈ (ps.toList.map (·.2)).toArray, ρ x = ρ' x) → (ps.toList.map fun p => (p.1, ρ p.2)) = ps.toList.map fun p => (p.1, ρ' p.2) := fun ps h =>
    List.map_congr_left fun p hp => by rw [h p.2 (by simpa using ⟨p.1, by simpa using hp⟩)]
  have arr : ∀ xs : Array Operand, (∀ x ∈ xs, ρ x = ρ' x) → xs.toList.map ρ = xs.toList.map ρ' := fun xs h => List.map_congr_left fun x hx => h x (by simpa using hx)
  intro op h
  cases op with
  | move x => simp only [vop]; rw [h x (by simp [Op.operands])]
  | assign x => simp only [vop]; rw [h x (by simp [Op.operands])]
  | pick c a b => simp only [vop]; rw [h c (by simp [Op.operands]), h a (by simp [Op.operands]), h b (by simp [Op.operands])]
  | alloc e => rfl
  | box e x => simp only [vop]; rw [h x (by simp [Op.operands])]
  | build t ps => simp only [vop]; rw [pairs ps (by simpa [Op.operands] using h)]
  | buildSlice t n ps => simp only [vop]; rw [pairs ps (by simpa [Op.operands] using h)]
  | load t x => simp only [vop]; rw [h x (by simp [Op.operands])]
  | store t a x => simp only [vop]; rw [h a (by simp [Op.operands]), h x (by simp [Op.operands])]
  | nilCheck x => simp only [vop]; rw [h x (by simp [Op.operands])]
  | binOp o t x y t' => simp only [vop]; rw [h x (by simp [Op.operands]), h y (by simp [Op.operands])]
  | unOp o t x => simp only [vop]; rw [h x (by simp [Op.operands])]
  | convert s d x => simp only [vop]; rw [h x (by simp [Op.operands])]
  | makeFunc fn first caps => simp only [vop]; rw [arr caps (fun x hx => h x (by simp [Op.operands, hx]))]
  | slice t x lo hi mx =>
    cases mx with
    | some _ => rfl
    | none =>
      simp only [vop]
      rw [h x (by simp [Op.operands]), opt lo (fun x hx => h x (by simp [Op.operands] at hx ⊢; simp [hx])), opt hi (fun x hx => h x (by simp [Op.operands] at hx ⊢; simp [hx]))]
  | fieldAddr s x f => simp only [vop]; rw [h x (by simp [Op.operands])]
  | field s x f => simp only [vop]; rw [h x (by simp [Op.operands])]
  | indexAddr t x i => simp only [vop]; rw [h x (by simp [Op.operands]), h i (by simp [Op.operands])]
  | index t x i => simp only [vop]; rw [h x (by simp [Op.operands]), h i (by simp [Op.operands])]
  | extract x i => simp only [vop]; rw [h x (by simp [Op.operands])]
  | call cl =>
    obtain ⟨callee, args, ats⟩ := cl
    simp only [vop, callV]
    have hargs : args.toList.map ρ = args.toList.map ρ' := arr args (fun x hx => h x (by simp [Op.operands, Call.operands, hx]))
    cases callee with
    | builtin b => simp only; rw [hargs]
    | invoke r m => rfl
    | value f =>
      simp only
      rw [h f (by simp [Op.operands, Call.operands]), hargs]
      split
      · rfl
      · split
        · rename_i x hx
          rw [h x (by
            have : args = #[x] := by apply Array.ext'; exact hx
            simp [Op.operands, Call.operands, this])]
        · rfl
      · rfl
  | _ => rfl

theorem evalV_put {tmp : Nat → V} {dst : Option Tmp} {v : V} {x : Operand} (h : ∀ d, dst = some d → x ≠ .tmp d) : evalV (putV tmp dst v) x = evalV tmp x := by
  cases dst with
  | none => rfl
  | some d =>
    cases x with
    | tmp t =>
      simp only [evalV, putV, upd]
      cases hb : Nat.beq t d with
      | true => exact absurd (by rw [Nat.eq_of_beq_eq_true hb]) (h d rfl)
      | false => rfl
    | _ => rfl
theorem putV_comm {tmp : Nat → V} {x y : Option Tmp} {u v : V} (h : ∀ d, x = some d → y ≠ some d) : putV (putV tmp x u) y v = putV (putV tmp y v) x u := by
  cases x with
  | none => rfl
  | some d =>
    cases y with
    | none => rfl
    | some e =>
      have hne : d ≠ e := fun he => h d rfl (by rw [he])
      funext i
      simp only [putV, upd]
      cases h1 : Nat.beq i e with
      | true =>
        cases h2 : Nat.beq i d with
        | true => exact absurd ((Nat.eq_of_beq_eq_true h2).symm.trans (Nat.eq_of_beq_eq_true h1)) hne
        | false => rfl
      | false => rfl
theorem putV_at {tmp : Nat → V} {dst : Option Tmp} {v : V} {t : Tmp} (h : ∀ d, dst = some d → d ≠ t) : putV tmp dst v t = tmp t := by
  cases dst with
  | none => rfl
  | some d =>
    simp only [putV, upd]
    cases hb : Nat.beq t d with
    | true => exact absurd (Nat.eq_of_beq_eq_true hb).symm (h d rfl)
    | false => rfl

theorem guardEv_some {o : Oper} {st s1 : St} {f : FP} (h : guardEv G T ops o st = some (s1, f)) :
    (∃ v, s1.tmp = putV st.tmp o.dst v ∧ (vop G T o.dst (evalV st.tmp) o.op).ev st.mem ⟨[], []⟩ = some (v, s1.mem, f) ∧
      ∀ st' : St, (∀ d ∈ o.looksAt ops, st'.tmp d = st.tmp d) → guardEv G T ops o st' = oneEv G T o st') ∨
    (s1 = skipOp o st ∧ f = ⟨[], []⟩ ∧ ∀ st' : St, (∀ d ∈ o.looksAt ops, st'.tmp d = st.tmp d) → guardEv G T ops o st' = some (skipOp o st', ⟨[], []⟩)) := by
  have one : oneEv G T o st = some (s1, f) → ∃ v, s1.tmp = putV st.tmp o.dst v ∧ (vop G T o.dst (evalV st.tmp) o.op).ev st.mem ⟨[], []⟩ = some (v, s1.mem, f) := by
    intro h
    unfold oneEv at h
    cases he : (vop G T o.dst (evalV st.tmp) o.op).ev st.mem ⟨[], []⟩ with
    | none => rw [he] at h; cases h
    | some p =>
      rw [he] at h
      injection h with h
      injection h with h1 h2
      subst h1 h2
      exact ⟨p.1, rfl, rfl⟩
  unfold guardEv at h
  cases hg : o.guard with
  | none =>
    rw [hg] at h
    obtain ⟨v, h1, h2⟩ := one h
    exact .inl ⟨v, h1, h2, fun st' _ => by unfold guardEv; rw [hg]⟩
  | some jw =>
    obtain ⟨j, want⟩ := jw
    rw [hg] at h
    simp only at h
    cases hd : dstAt ops j with
    | none => rw [hd] at h; cases h
    | some t =>
      rw [hd] at h
      simp only at h
      have hlook : t ∈ o.looksAt ops := by
        unfold Oper.looksAt
        rw [hg]
        refine List.mem_append_right _ ?_
        unfold dstAt at hd
        simp only [hd]
        simp
      split at h
      · rename_i b hb
        split at h
        · rename_i hw
          obtain ⟨v, h1, h2⟩ := one h
          refine .inl ⟨v, h1, h2, fun st' hs => ?_⟩
          unfold guardEv
          rw [hg]
          simp only [hd, hs t hlook, hb, if_pos hw]
        · rename_i hw
          injection h with h
          injection h with h1 h2
          refine .inr ⟨h1.symm, h2.symm, fun st' hs => ?_⟩
          unfold guardEv
          rw [hg]
          simp only [hd, hs t hlook, hb, if_neg hw]
      · rename_i hb
        injection h with h
        injection h with h1 h2
        refine .inr ⟨h1.symm, h2.symm, fun st' hs => ?_⟩
        unfold guardEv
        rw [hg]
        simp only [hd, hs t hlook, hb]
      · cases h

def Ind (ops : Array Oper) (F : Nat → FP) (i j : Nat) : Prop := ∀ x y, ops[i]? = some x → ops[j]? = some y → x.apart ops y = true ∧ fpOk (F i) (F j) = true
theorem disj_spec {l m : List Nat} (h : disj l m = true) : ∀ i, i ∈ l → i ∉ m := fun i hi hm => by
  unfold disj at h
  have := List.all_eq_true.1 h i hi
  simp only [Bool.not_eq_true'] at this
  have h2 : (m.any fun y => Nat.beq i y) = true := List.any_eq_true.2 ⟨i, hm, Nat.beq_refl i⟩
  rw [h2] at this
  cases this
theorem operand_look {o : Oper} {x : Operand} (hx : x ∈ o.op.operands) {d : Tmp} (hd : d ∉ o.looksAt ops) : x ≠ .tmp d := fun e => by
  subst e
  exact hd (List.mem_append_left _ (List.mem_filterMap.2 ⟨.tmp d, by simpa using hx, rfl⟩))

theorem swap {F : Nat → FP} {i j : Nat} {s s2 : St} {l : List Nat} (hi : Ind ops F i j) (h : Run G T ops F (i :: j :: l) s s2) : Run G T ops F (j :: i :: l) s s2 := by
  obtain ⟨x, s1, hx, hgx, y, s3, hy, hgy, hrest⟩ := h
  obtain ⟨hap, hfp⟩ := hi x y hx hy
  obtain ⟨hax, hay, haz⟩ := Oper.apart_spec hap
  simp only [fpOk, Bool.and_eq_true] at hfp
  have dwr := disj_spec hfp.1.1
  have dww := disj_spec hfp.1.2
  have dwr' := disj_spec hfp.2
  have ytmp : ∀ v, ∀ d ∈ y.looksAt ops, putV s.tmp x.dst v d = s.tmp d := fun v d hd => putV_at fun d' hd' e => hax d' hd' (e ▸ hd)
  have xtmp : ∀ v, ∀ d ∈ x.looksAt ops, putV s.tmp y.dst v d = s.tmp d := fun v d hd => putV_at fun d' hd' e => haz d' hd' (e ▸ hd)
  have yop : ∀ v, vop G T y.dst (evalV (putV s.tmp x.dst v)) y.op = vop G T y.dst (evalV s.tmp) y.op := fun v => vop_congr _ fun z hz => evalV_put fun d hd => operand_look hz (hax d hd)
  have xop : ∀ v, vop G T x.dst (evalV (putV s.tmp y.dst v)) x.op = vop G T x.dst (evalV s.tmp) x.op := fun v => vop_congr _ fun z hz => evalV_put fun d hd => operand_look hz (haz d hd)
  rcases guardEv_some hgx with ⟨vx, ex, hvx, cx⟩ | ⟨ex, fx, cx⟩
  · rcases guardEv_some hgy with ⟨vy, ey, hvy, cy⟩ | ⟨ey, fy, cy⟩
    · -- both run
      rw [ex, yop] at hvy
      obtain ⟨_, nwx, _, hwx, hoffx, _⟩ := Res.frame _ s.mem s.mem ⟨[], []⟩ vx s1.mem (F i) hvx (fun i _ => SameAt.refl i _)
      simp only [List.append_nil] at hwx
      obtain ⟨my, nwy, hy1, hwy, hoffy, hony⟩ := Res.frame _ s1.mem s.mem ⟨[], []⟩ vy s3.mem (F j) hvy (fun k hk => (hoffx k (fun hn => dwr k (by rw [hwx]; exact hn) hk)).1.symm)
      simp only [List.append_nil] at hwy
      obtain ⟨mx, nwx2, hx1, hwx2, hoffx2, honx2⟩ := Res.frame _ s.mem my ⟨[], []⟩ vx s1.mem (F i) hvx (fun k hk => (hoffy k (fun hn => dwr' k (by rw [hwy]; exact hn) hk)).2)
      simp only [List.append_nil] at hwx2
      have hmem : mx = s3.mem := Mem.ext_same fun k => by
        by_cases hkx : k ∈ (F i).w
        · have hky : k ∉ nwy := by rw [← hwy]; exact dww k hkx
          exact (honx2 k (by rw [← hwx2]; exact hkx)).symm.trans (hoffy k hky).1
        · have hkx2 : k ∉ nwx2 := by rw [← hwx2]; exact hkx
          have hkx3 : k ∉ nwx := by rw [← hwx]; exact hkx
          by_cases hky : k ∈ (F j).w
          · exact (hoffx2 k hkx2).2.symm.trans (hony k (by rw [← hwy]; exact hky)).symm
          · have hky2 : k ∉ nwy := by rw [← hwy]; exact hky
            exact ((hoffx2 k hkx2).2.symm.trans (hoffy k hky2).2.symm).trans ((hoffx k hkx3).1.trans (hoffy k hky2).1)
      have e1 : oneEv G T y s = some (⟨putV s.tmp y.dst vy, my⟩, F j) := by unfold oneEv; rw [hy1]; rfl
      have e2 : oneEv G T x ⟨putV s.tmp y.dst vy, my⟩ = some (⟨putV (putV s.tmp y.dst vy) x.dst vx, mx⟩, F i) := by unfold oneEv; rw [xop, hx1]; rfl
      have g1 : guardEv G T ops y s = oneEv G T y s := cy s (fun d hd => by rw [ex]; exact (ytmp vx d hd).symm)
      have g2 : guardEv G T ops x ⟨putV s.tmp y.dst vy, my⟩ = oneEv G T x _ := cx _ (fun d hd => xtmp vy d hd)
      refine ⟨y, _, hy, g1.trans e1, x, _, hx, g2.trans e2, ?_⟩
      have hs3 : (⟨putV (putV s.tmp y.dst vy) x.dst vx, mx⟩ : St) = s3 := by
        obtain ⟨t3, m3⟩ := s3
        simp only at hmem ey
        rw [hmem, ey, ex, putV_comm hay]
      rw [hs3]
      exact hrest
    · -- y is passed by
      subst ey
      have g1 : guardEv G T ops y s = some (skipOp y s, ⟨[], []⟩) := cy s (fun d hd => by rw [ex]; exact (ytmp vx d hd).symm)
      have g2 : guardEv G T ops x (skipOp y s) = oneEv G T x _ := cx _ (fun d hd => xtmp .und d hd)
      have e2 : oneEv G T x (skipOp y s) = some (⟨putV (putV s.tmp y.dst .und) x.dst vx, s1.mem⟩, F i) := by unfold oneEv skipOp; rw [xop, hvx]; rfl
      refine ⟨y, _, hy, by rw [g1, fy], x, _, hx, g2.trans e2, ?_⟩
      have hs3 : (⟨putV (putV s.tmp y.dst .und) x.dst vx, s1.mem⟩ : St) = skipOp y s1 := by
        obtain ⟨t1, m1⟩ := s1
        simp only at ex
        unfold skipOp
        rw [ex, putV_comm hay]
      rw [hs3]
      exact hrest
  · subst ex
    rcases guardEv_some hgy with ⟨vy, ey, hvy, cy⟩ | ⟨ey, fy, cy⟩
    · unfold skipOp at hvy ey
      simp only at hvy ey
      rw [yop] at hvy
      have g1 : guardEv G T ops y s = oneEv G T y s := cy s (fun d hd => (ytmp .und d hd).symm)
      have e1 : oneEv G T y s = some (⟨putV s.tmp y.dst vy, s3.mem⟩, F j) := by unfold oneEv; rw [hvy]; rfl
      have g2 : guardEv G T ops x ⟨putV s.tmp y.dst vy, s3.mem⟩ = some (skipOp x _, ⟨[], []⟩) := cx _ (fun d hd => xtmp vy d hd)
      refine ⟨y, _, hy, g1.trans e1, x, _, hx, by rw [g2, fx], ?_⟩
      have hs3 : skipOp x ⟨putV s.tmp y.dst vy, s3.mem⟩ = s3 := by
        obtain ⟨t3, m3⟩ := s3
        simp only at ey
        unfold skipOp
        rw [ey, putV_comm hay]
      rw [hs3]
      exact hrest
    · subst ey
      have g1 : guardEv G T ops y s = some (skipOp y s, ⟨[], []⟩) := cy s (fun d hd => (ytmp .und d hd).symm)
      have g2 : guardEv G T ops x (skipOp y s) = some (skipOp x (skipOp y s), ⟨[], []⟩) := cx _ (fun d hd => xtmp .und d hd)
      refine ⟨y, _, hy, by rw [g1, fy], x, _, hx, by rw [g2, fx], ?_⟩
      have hs3 : skipOp x (skipOp y s) = skipOp y (skipOp x s) := by
        unfold skipOp
        rw [putV_comm hay]
      rw [hs3]
      exact hrest
theorem front {F : Nat → FP} {i : Nat} {l : List Nat} : ∀ {r : List Nat} {s s' : St}, (∀ k ∈ r, Ind ops F k i) → Run G T ops F (r ++ i :: l) s s' → Run G T ops F (i :: r ++ l) s s'
  | [], _, _, _, h => h
  | k :: r, s, s', hk, h => by
    obtain ⟨o, s1, ho, hg, hr⟩ := h
    have := front (fun k' hk' => hk k' (List.mem_cons_of_mem _ hk')) hr
    exact swap (hk k List.mem_cons_self) ⟨o, s1, ho, hg, this⟩
end
end Go.Vm
end
section
namespace Go.Vm
open Go.RowKit
set_option linter.unusedVariables false
set_option linter.unusedSimpArgs false

structure Inv (P : Program) (E : Env) (n : Nat) (st : St) (c : Cx) (a : Act) : Prop where
  m : c.m = st.mem
  rel : Rel E c
  tmp : ∀ t, RelV P E c (st.tmp t) (a.tmps.getD t undef)
  def_ : a.defers = []
  n : a.tmps.size = n

section
variable {P : Program} {T : Tab} {E : Env} {G : Gam} {n : Nat} {ops : Array Oper} {Q : Exit → Act → World → Prop}

theorem Inv.put {st : St} {c c' : Cx} {a : Act} {dst : Option Tmp} {v : V} {u : Value} {m' : Mem} (h : Inv P E n st c a) (hm : c'.m = m') (hr : Rel E c') (he : Ext c c') (hv : RelV P E c' v u)
    (hd : ∀ d, dst = some d → d < n) : Inv P E n ⟨putV st.tmp dst v, m'⟩ c' (a.put dst u) := by
  refine ⟨hm, hr, fun t => ?_, ?_, ?_⟩
  · cases dst with
    | none => exact (h.tmp t).ext he
    | some d =>
      have hlt : d < a.tmps.size := by rw [h.n]; exact hd d rfl
      simp only [putV, upd, Act.put]
      cases hb : Nat.beq t d with
      | true =>
        have := Nat.eq_of_beq_eq_true hb
        subst this
        simp only [cond_true]
        have : (a.tmps.setIfInBounds t u).getD t undef = u := by simp [hlt]
        rw [this]; exact hv
      | false =>
        simp only [cond_false]
        have hne : d ≠ t := fun e => by subst e; simp at hb
        have : (a.tmps.setIfInBounds d u).getD t undef = a.tmps.getD t undef := by simp [Array.getElem?_setIfInBounds_ne hne]
        rw [this]; exact (h.tmp t).ext he
  · cases dst <;> simp [Act.put, h.def_]
  · cases dst <;> simp [Act.put, h.n]

theorem op_wp (hT : TabOk P T) (hG : ∀ f s, G f = some s → SpecOk P f s) {st s1 : St} {c : Cx} {a : Act} (inv : Inv P E n st c a) {i : Nat} {o : Oper} (hi : ops[i]? = some o) (hd : ∀ d, o.dst = some d → d < n) {f : FP}
    (h : guardEv G T ops o st = some (s1, f)) {K : Act → World → Prop} (hK : ∀ c' a', Inv P E n s1 c' a' → K a' c'.w) : wpOp P ops Q i K a c.w := by
  have one : oneEv G T o st = some (s1, f) → o.wp P a c.w K Q := by
    intro h1
    unfold oneEv at h1
    cases he : (vop G T o.dst (evalV st.tmp) o.op).ev st.mem ⟨[], []⟩ with
    | none => rw [he] at h1; cases h1
    | some p =>
      rw [he] at h1
      injection h1 with h1
      injection h1 with h1 h2
      subst h1 h2
      obtain ⟨v, m', fp'⟩ := p
      rw [← inv.m] at he
      exact vop_ok hT hG inv.rel (fun x => evalV_ok inv.tmp x) he (fun c' u hm hr hx hv => hK c' _ (inv.put hm hr hx hv hd))
  have skip : K (a.put o.dst undef) c.w → True := fun _ => trivial
  unfold wpOp
  simp only [hi]
  unfold guardEv at h
  cases hg : o.guard with
  | none =>
    rw [hg] at h
    have hw : Region.wanted o (yielded ops a.tmps) = true := by unfold Region.wanted; rw [hg]
    rw [if_pos hw]
    exact .inl (one h)
  | some jw =>
    obtain ⟨j, want⟩ := jw
    rw [hg] at h
    simp only at h
    cases hj : dstAt ops j with
    | none => rw [hj] at h; cases h
    | some t =>
      rw [hj] at h
      simp only at h
      split at h
      · rename_i b hb
        have hv := inv.tmp t
        rw [hb] at hv
        have hbv := relV_bool hv
        have hy : yielded ops a.tmps j = some b := by
          unfold yielded
          unfold dstAt at hj
          rw [hj]
          simp only [Option.bind_some]
          have : a.tmps[t]? = some (.bool b) := by
            cases hx : a.tmps[t]? with
            | none =>
              have : a.tmps.getD t undef = undef := by simp [hx]
              rw [this] at hbv
              cases hbv
            | some z =>
              have : a.tmps.getD t undef = z := by simp [hx]
              rw [this] at hbv
              rw [hbv]
          rw [this]
        have hw : Region.wanted o (yielded ops a.tmps) = decide (b = want) := by
          unfold Region.wanted
          rw [hg]
          simp only [hy]
          cases b <;> cases want <;> rfl
        rw [hw]
        split at h
        · rename_i hbw
          rw [if_pos (by simpa using hbw)]
          exact .inl (one h)
        · rename_i hbw
          rw [if_neg (by simpa using hbw)]
          injection h with h
          injection h with h1 h2
          subst h1
          exact hK c _ (inv.put inv.m inv.rel (Ext.refl c) rfl hd)
      · rename_i hb
        have hv := inv.tmp t
        rw [hb] at hv
        have hv' : a.tmps.getD t undef = undef := hv
        have hy : yielded ops a.tmps j = none := by
          unfold yielded
          unfold dstAt at hj
          rw [hj]
          simp only [Option.bind_some]
          cases hx : a.tmps[t]? with
          | none => rfl
          | some z =>
            have : a.tmps.getD t undef = z := by simp [hx]
            rw [this] at hv'
            rw [hv']
            rfl
        have hw : Region.wanted o (yielded ops a.tmps) = false := by
          unfold Region.wanted
          rw [hg]
          simp only [hy]
          rfl
        rw [hw, if_neg (by simp)]
        injection h with h
        injection h with h1 h2
        subst h1
        exact hK c _ (inv.put inv.m inv.rel (Ext.refl c) rfl hd)
      · cases h

theorem run_wp (hT : TabOk P T) (hG : ∀ f s, G f = some s → SpecOk P f s) (hd : ∀ (i : Nat) (o : Oper) (d : Tmp), ops[i]? = some o → o.dst = some d → d < n) {F : Nat → FP} {st' : St} (hQ : ∀ c a, Inv P E n st' c a → Q .normal a c.w) :
    ∀ (l : List Nat) (st : St) (c : Cx) (a : Act), Inv P E n st c a → Run G T ops F l st st' → wpOps P ops Q l a c.w
  | [], st, c, a, inv, h => by
    have : st = st' := h
    subst this
    exact hQ c a inv
  | i :: l, st, c, a, inv, ⟨o, s1, ho, hg, hr⟩ => by
    rw [wpOps_cons]
    exact op_wp hT hG inv ho (fun d hdd => hd i o d ho hdd) hg (fun c' a' inv' => run_wp hT hG hd hQ l s1 c' a' inv' hr)

def foldBits (o : Oper) (pre : List Nat) : Nat := o.after.toList.foldl (fun s e => bif Region.binds .any e then s ||| 2 ^ e.on ||| pre.getD e.on 0 else s) 0
theorem aheadGo_spec : ∀ (os : List Oper) (acc : List Nat), ∃ tail, aheadGo os acc = acc ++ tail ∧ tail.length = os.length ∧ ∀ i o, os[i]? = some o → tail[i]? = some (foldBits o ((acc ++ tail).take (acc.length + i)))
  | [], acc => ⟨[], by simp [aheadGo], rfl, fun i o h => by simp at h⟩
  | o :: os, acc => by
    obtain ⟨tail, h1, h2, h3⟩ := aheadGo_spec os (acc ++ [foldBits o acc])
    refine ⟨foldBits o acc :: tail, ?_, by simp [h2], fun i o' hi => ?_⟩
    · show aheadGo os (acc ++ [foldBits o acc]) = _
      rw [h1]; simp [List.append_assoc]
    · cases i with
      | zero =>
        have : o = o' := by simpa using hi
        subst this
        simp
      | succ i =>
        have := h3 i o' (by simpa using hi)
        simp only [List.getElem?_cons_succ, this, List.length_append, List.length_singleton, List.append_assoc, List.singleton_append]
        congr 3
        omega
theorem foldBits_test (pre : List Nat) : ∀ (l : List Edge) (s : Nat) (i : Nat), (l.foldl (fun s e => bif Region.binds .any e then s ||| 2 ^ e.on ||| pre.getD e.on 0 else s) s).testBit i = true →
    s.testBit i = true ∨ ∃ e ∈ l, Region.binds .any e = true ∧ (e.on = i ∨ (pre.getD e.on 0).testBit i = true)
  | [], s, i, h => .inl h
  | e :: l, s, i, h => by
    rcases foldBits_test pre l _ i h with h1 | ⟨e', he', hb, hh⟩
    · simp only at h1
      cases hb : Region.binds .any e with
      | false => rw [hb] at h1; exact .inl h1
      | true =>
        rw [hb] at h1
        simp only [cond_true, Nat.testBit_or, Bool.or_eq_true, Nat.testBit_two_pow, decide_eq_true_eq] at h1
        rcases h1 with (h1 | h1) | h1
        · exact .inl h1
        · exact .inr ⟨e, List.mem_cons_self, hb, .inl h1⟩
        · exact .inr ⟨e, List.mem_cons_self, hb, .inr h1⟩
    · exact .inr ⟨e', List.mem_cons_of_mem _ he', hb, hh⟩

def bitsOf (ops : Array Oper) : List Nat := aheadGo ops.toList []
def Listed (l : Array Bool) (i : Nat) : Prop := l.getD i false = true
def Closed (ops : Array Oper) (l : Array Bool) : Prop := ∀ i o, ops[i]? = some o → Listed l i → ∀ e ∈ o.after.toList, Region.binds .any e = true → Listed l e.on
theorem back_spec (h : backB ops = true) {i : Nat} {o : Oper} (ho : ops[i]? = some o) {e : Edge} (he : e ∈ o.after.toList) (hb : Region.binds .any e = true) : e.on < i := by
  unfold backB at h
  have hm : (o, i) ∈ ops.toList.zipIdx := by
    rw [List.mem_iff_getElem?]
    exact ⟨i, by simp [List.getElem?_zipIdx, ho]⟩
  have := List.all_eq_true.1 h _ hm
  have := List.all_eq_true.1 this e he
  simpa [hb] using this
theorem ahead_listed (hback : backB ops = true) {l : Array Bool} (hc : Closed ops l) : ∀ (j : Nat) (o : Oper), ops[j]? = some o → (∀ e ∈ o.after.toList, Region.binds .any e = true → Listed l e.on) →
    ∀ i, ((bitsOf ops).getD j 0).testBit i = true → Listed l i := by
  intro j
  induction j using Nat.strongRecOn with
  | _ j ih =>
    intro o ho hall i hi
    obtain ⟨tail, h1, h2, h3⟩ := aheadGo_spec ops.toList []
    have hb : bitsOf ops = tail := by unfold bitsOf; rw [h1]; rfl
    have hj := h3 j o (by rw [Array.getElem?_toList]; exact ho)
    rw [hb, List.getD_eq_getElem?_getD, hj] at hi
    simp only [Option.getD_some, List.nil_append, List.length_nil, Nat.zero_add] at hi
    rcases foldBits_test _ _ _ _ hi with h | ⟨e, he, hbd, hh⟩
    · simp at h
    · rcases hh with rfl | hh
      · exact hall e he hbd
      · have hlt := back_spec hback ho he hbd
        have hl := hall e he hbd
        rw [List.getD_eq_getElem?_getD, List.getElem?_take_of_lt hlt, ← List.getD_eq_getElem?_getD, ← hb] at hh
        cases hoe : ops[e.on]? with
        | none =>
          have : tail.length ≤ e.on := by
            rw [h2, Array.length_toList]
            exact Array.getElem?_eq_none_iff.1 hoe
          rw [hb, List.getD_eq_getElem?_getD, List.getElem?_eq_none this] at hh
          simp at hh
        | some oe => exact ih e.on hlt oe hoe (fun e' he' hb' => hc e.on oe hoe hl e' he' hb') i hh

theorem indep_spec {fps : List FP} (h : indep ops fps = true) {F : Nat → FP} (hF : ∀ i f, fps[i]? = some f → F i = f) (hl : fps.length = ops.size) {i j : Nat} (hij : i < j) (hnb : ((bitsOf ops).getD j 0).testBit i = false) : Ind ops F i j := by
  intro x y hx hy
  unfold indep at h
  simp only at h
  have hjs : j < ops.size := (Array.getElem?_eq_some_iff.1 hy).1
  have his : i < ops.size := by omega
  obtain ⟨fj, hfj⟩ : ∃ f, fps[j]? = some f := ⟨fps[j]'(by omega), List.getElem?_eq_getElem (by omega)⟩
  obtain ⟨fi, hfi⟩ : ∃ f, fps[i]? = some f := ⟨fps[i]'(by omega), List.getElem?_eq_getElem (by omega)⟩
  have hrj : (ops.toList.zip fps)[j]? = some (y, fj) := by
    rw [List.getElem?_zip_eq_some]
    exact ⟨by rw [Array.getElem?_toList]; exact hy, hfj⟩
  have hri : (ops.toList.zip fps)[i]? = some (x, fi) := by
    rw [List.getElem?_zip_eq_some]
    exact ⟨by rw [Array.getElem?_toList]; exact hx, hfi⟩
  have hmj : ((y, fj), j) ∈ (ops.toList.zip fps).zipIdx := by
    rw [List.mem_iff_getElem?]
    exact ⟨j, by simp [List.getElem?_zipIdx, hrj]⟩
  have h1 := List.all_eq_true.1 h _ hmj
  have hmi : ((x, fi), i) ∈ ((ops.toList.zip fps).take j).zipIdx := by
    rw [List.mem_iff_getElem?]
    exact ⟨i, by simp [List.getElem?_zipIdx, List.getElem?_take_of_lt hij, hri]⟩
  have h2 := List.all_eq_true.1 h1 _ hmi
  simp only [Bool.or_eq_true, Bool.and_eq_true] at h2
  rcases h2 with h2 | h2
  · have : ((bitsOf ops).getD j 0).testBit i = true := h2
    rw [hnb] at this; cases this
  · rw [hF i fi hfi, hF j fj hfj]
    exact h2

theorem ready_spec {l : Array Bool} (hs : l.size = ops.size) {i : Nat} (h : i ∈ Region.ready .any ops l) : i < ops.size ∧ ¬ Listed l i ∧ ∃ o, ops[i]? = some o ∧ ∀ e ∈ o.after.toList, Region.binds .any e = true → Listed l e.on := by
  unfold Region.ready at h
  rw [List.mem_filter, List.mem_range] at h
  obtain ⟨hlt, h⟩ := h
  simp only [Bool.and_eq_true, Bool.not_eq_true'] at h
  obtain ⟨h1, h2⟩ := h
  refine ⟨hlt, ?_, ops[i], by simp [hlt], ?_⟩
  · unfold Listed
    have hli : i < l.size := by omega
    simp [hli] at h1 ⊢
    exact h1
  · simp only [Array.getElem?_eq_getElem hlt, Option.map_some, Option.getD_some] at h2
    intro e he hb
    have := Array.all_eq_true_iff_forall_mem.1 h2 e (by simpa using he)
    simpa [hb, Listed] using this

theorem any_wp (hT : TabOk P T) (hG : ∀ f s, G f = some s → SpecOk P f s) (hd : ∀ (i : Nat) (o : Oper) (d : Tmp), ops[i]? = some o → o.dst = some d → d < n) (hback : backB ops = true) {F : Nat → FP}
    (hind : ∀ i j, i < j → ((bitsOf ops).getD j 0).testBit i = false → Ind ops F i j) {st' : St} (hQ : ∀ c a, Inv P E n st' c a → Q .normal a c.w) :
    ∀ (fuel : Nat) (l : Array Bool) (r : List Nat) (st : St) (c : Cx) (a : Act), l.size = ops.size → Closed ops l → (∀ i, i ∈ r ↔ i < ops.size ∧ ¬ Listed l i) → r.Pairwise (· < ·) → r.length ≤ fuel → Inv P E n st c a →
    Run G T ops F r st st' → wpAny P .any ops Q fuel l a c.w := by
  have none_left : ∀ (l : Array Bool) (r : List Nat), l.size = ops.size → (∀ i, i ∈ r ↔ i < ops.size ∧ ¬ Listed l i) → r.Pairwise (· < ·) → Region.ready .any ops l = [] → r = [] := by
    intro l r hs hr hp he
    cases r with
    | nil => rfl
    | cons i r =>
      exfalso
      obtain ⟨hlt, hnl⟩ := (hr i).1 List.mem_cons_self
      have hmem : i ∈ Region.ready .any ops l := by
        unfold Region.ready
        rw [List.mem_filter, List.mem_range]
        refine ⟨hlt, ?_⟩
        simp only [Bool.and_eq_true, Bool.not_eq_true']
        constructor
        · unfold Listed at hnl
          have hli : i < l.size := by omega
          simp [hli] at hnl ⊢
          exact hnl
        · simp only [Array.getElem?_eq_getElem hlt, Option.map_some, Option.getD_some]
          rw [Array.all_eq_true_iff_forall_mem]
          intro e he
          cases hb : Region.binds .any e with
          | false => rfl
          | true =>
            have hlt2 := back_spec hback (i := i) (o := ops[i]) (by simp [hlt]) (e := e) (by simpa using he) hb
            simp only [Bool.not_true, Bool.false_or]
            by_cases hl : Listed l e.on
            · exact hl
            · exfalso
              have hm := (hr e.on).2 ⟨by omega, hl⟩
              rcases List.mem_cons.1 hm with h | h
              · omega
              · have := (List.pairwise_cons.1 hp).1 _ h
                omega
      rw [he] at hmem
      simp at hmem
  intro fuel
  induction fuel with
  | zero =>
    intro l r st c a hs hc hr hp hlen inv hrun
    have : r = [] := List.eq_nil_of_length_eq_zero (by omega)
    subst this
    have : st = st' := hrun
    subst this
    refine ⟨?_, hQ c a inv⟩
    rw [List.eq_nil_iff_forall_not_mem]
    intro i hi
    obtain ⟨h1, h2, _⟩ := ready_spec hs hi
    have := (hr i).2 ⟨h1, h2⟩
    simp at this
  | succ fuel ih =>
    intro l r st c a hs hc hr hp hlen inv hrun
    refine ⟨fun he => ?_, fun i hi => ?_⟩
    · have := none_left l r hs hr hp he
      subst this
      have : st = st' := hrun
      subst this
      exact hQ c a inv
    · obtain ⟨hlt, hnl, o, ho, hall⟩ := ready_spec hs hi
      have hir : i ∈ r := (hr i).2 ⟨hlt, hnl⟩
      obtain ⟨r1, r2, rfl⟩ := List.append_of_mem hir
      have hp1 := List.pairwise_append.1 hp
      have hfront : Run G T ops F (i :: r1 ++ r2) st st' := by
        refine front (fun k hk => ?_) hrun
        have hki : k < i := hp1.2.2 k hk i List.mem_cons_self
        refine hind k i hki ?_
        cases hb : ((bitsOf ops).getD i 0).testBit k with
        | false => rfl
        | true =>
          exfalso
          exact ((hr k).1 (List.mem_append_left _ hk)).2 (ahead_listed hback hc i o ho hall k hb)
      obtain ⟨o', s1, ho', hg, hrest⟩ := hfront
      refine op_wp hT hG inv ho' (fun d hdd => hd i o' d ho' hdd) hg (fun c' a' inv' => ?_)
      have hset : ∀ k, Listed (l.setIfInBounds i true) k ↔ k = i ∨ Listed l k := by
        intro k
        unfold Listed
        by_cases hk : k = i
        · subst hk
          have : k < l.size := by omega
          simp [this]
        · simp [Array.getElem?_setIfInBounds_ne (Ne.symm hk), hk]
      refine ih (l.setIfInBounds i true) (r1 ++ r2) s1 c' a' (by simpa using hs) ?_ ?_ ?_ ?_ inv' hrest
      · intro k ok hok hk e he hb
        rw [hset] at hk ⊢
        rcases hk with rfl | hk
        · rw [ho] at hok
          injection hok with hok
          subst hok
          exact .inr (hall e he hb)
        · exact .inr (hc k ok hok hk e he hb)
      · intro k
        have hk := hr k
        rw [hset]
        simp only [List.mem_append, List.mem_cons] at hk ⊢
        constructor
        · intro hm
          have h1 : k < ops.size ∧ ¬ Listed l k := hk.1 (by rcases hm with h | h <;> simp [h])
          refine ⟨h1.1, ?_⟩
          rintro (rfl | h)
          · rcases hm with h | h
            · have := hp1.2.2 k h k List.mem_cons_self; omega
            · have := (List.pairwise_cons.1 hp1.2.1).1 k h; omega
          · exact h1.2 h
        · rintro ⟨h1, h2⟩
          have := hk.2 ⟨h1, fun h => h2 (.inr h)⟩
          rcases this with h | h | h
          · exact .inl h
          · exact absurd (.inl h) h2
          · exact .inr h
      · rw [List.pairwise_append]
        exact ⟨hp1.1, (List.pairwise_cons.1 hp1.2.1).2, fun x hx y hy => hp1.2.2 x hx y (List.mem_cons_of_mem _ hy)⟩
      · simp only [List.length_append, List.length_cons] at hlen ⊢
        omega

theorem region_ok {R : Type} (hT : TabOk P T) (hG : ∀ f s, G f = some s → SpecOk P f s) (hmix : P.follows .mixedOrders = true) {draw : Bool} {id : Nat} {st : St} {k : St → Option R} {r : R}
    (h : region (Alg.std R) G T n ops draw st k = some r) {c : Cx} {a : Act} (inv : Inv P E n st c a) (hQ : ∀ st' c' a', k st' = some r → Inv P E n st' c' a' → Q .normal a' c'.w) :
    (Code.region id ops draw).wp P Q a c.w := by
  unfold region at h
  split at h
  · cases h
  · rename_i hdb
    have hd : ∀ (i : Nat) (o : Oper) (d : Tmp), ops[i]? = some o → o.dst = some d → d < n := fun i o d ho hdd => by
      unfold dstB at hdb
      have := List.all_eq_true.1 hdb o (by rw [List.mem_iff_getElem?]; exact ⟨i, by rw [Array.getElem?_toList]; exact ho⟩)
      rw [hdd] at this
      exact of_decide_eq_true this
    obtain ⟨st', fps, hk, hl, hrun⟩ := runOps_run G T ops _ r ops.toList 0 st [] (fun i o ho => by rw [Nat.zero_add, ← Array.getElem?_toList]; exact ho) rfl h
    have hF : ∀ i f, fps[i]? = some f → (fun i => fps.getD i ⟨[], []⟩) (0 + i) = f := fun i f hf => by simp [List.getD_eq_getElem?_getD, hf]
    have hr := hrun (fun i => fps.getD i ⟨[], []⟩) hF
    have hrange : List.range' 0 ops.toList.length = List.range ops.size := by rw [Array.length_toList, ← List.range_eq_range']
    rw [hrange] at hr
    simp only [List.reverse_nil, List.nil_append] at hk
    cases draw with
    | false =>
      simp only at hk
      exact wp_region (run_wp hT hG hd (fun c' a' inv' => hQ st' c' a' hk inv') _ st c a inv hr)
    | true =>
      simp only at hk
      split at hk
      · rename_i hc
        simp only [Bool.and_eq_true] at hc
        refine wp_region_any hmix ?_
        have hb := below_ok inv.rel (w' := { c.w with drawn := c.w.drawn + 1 }) ⟨rfl, rfl, rfl, Nat.le_refl _, fun _ _ => rfl⟩ (S' := c.S) (fun _ h => h) (fun _ h => .inl h)
        have inv' : Inv P E n st { c with w := { c.w with drawn := c.w.drawn + 1 } } a := ⟨inv.m, hb.1, fun t => (inv.tmp t).ext hb.2, inv.def_, inv.n⟩
        refine any_wp hT hG hd hc.2 (F := fun i => fps.getD i ⟨[], []⟩) (fun i j hij hnb => indep_spec hc.1 (fun i f hf => by simp [List.getD_eq_getElem?_getD, hf]) (by rw [hl, Array.length_toList]) hij hnb)
          (fun c' a' inv'' => hQ st' c' a' hk inv'') ops.size (Array.replicate ops.size false) (List.range ops.size) st _ a (by simp) ?_ ?_ List.pairwise_lt_range (by simp) inv' hr
        · intro i o ho hl' e he hbd
          unfold Listed at hl'
          have : i < ops.size := (Array.getElem?_eq_some_iff.1 ho).1
          simp [this] at hl'
        · intro i
          rw [List.mem_range]
          refine ⟨fun hi => ⟨hi, fun hl' => ?_⟩, fun hi => hi.1⟩
          unfold Listed at hl'
          simp [hi] at hl'
      · cases hk
end
end Go.Vm
end
