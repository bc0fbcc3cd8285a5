/- What the claim IAT leans on: texts joined by bundle.py, a program of ours; the words cut down to what is used. -/
import Derived.Test.YtklbmdakoeoplaaBIAT5
import Derived.Test.YtklbmdakoeoplaaProg
import Derived.KernelRfl
section
set_option linter.unusedVariables false
namespace Go.Proofs.Ytklbmdakoeoplaa.V
open Go.Vm
def althinglaw05_Few.s2 : List CK := [.tmp 7 (.sl 32 Ty_api_Command), .tmp 8 Ty.i64, .tmp 9 Ty.i64]
def althinglaw05_Few.s5 : List CK := [.ptr 4 4 Ty_api_Command, .tmp 5 Ty.i64, .tmp 7 (.sl 32 Ty_api_Command), .tmp 8 Ty.i64, .tmp 9 Ty.i64, .box 4 Ty_api_Command]
def althinglaw05_Few.s7 : List CK := [.ptr 4 4 Ty_api_Command, .tmp 5 Ty.i64, .tmp 7 (.sl 32 Ty_api_Command), .tmp 8 Ty.i64, .tmp 9 Ty.i64, .box 4 Ty_api_Command]
def althinglaw05_Few.s10 : List CK := [.ptr 4 4 Ty_api_Command, .tmp 6 Ty.i64, .tmp 7 (.sl 32 Ty_api_Command), .tmp 8 Ty.i64, .tmp 9 Ty.i64, .box 4 Ty_api_Command]
def althinglaw05_Few.s12 : List CK := [.ptr 4 4 Ty_api_Command, .tmp 6 Ty.i64, .tmp 7 (.sl 32 Ty_api_Command), .tmp 8 Ty.i64, .tmp 9 Ty.i64, .box 4 Ty_api_Command]
def althinglaw05_Few.s14 : List CK := [.ptr 4 4 Ty_api_Command, .tmp 7 (.sl 32 Ty_api_Command), .tmp 8 Ty.i64, .tmp 9 Ty.i64, .box 4 Ty_api_Command]
def althinglaw05_Few.cuts : List (Nat × List CK) := [(2, althinglaw05_Few.s2), (5, althinglaw05_Few.s5), (7, althinglaw05_Few.s7), (10, althinglaw05_Few.s10), (12, althinglaw05_Few.s12), (14, althinglaw05_Few.s14)]
abbrev althinglaw05_Few.ps : List PK := [.val (.sl 32 Ty_api_Command)]
abbrev althinglaw05_Few.r : Ty := .bool
noncomputable def althinglaw05_Few.raw (k : Nat) (a0 : List Ty_api_Command.den) : Option Bool := runF Alg.std G_index_Against_1 T Try.f11 althinglaw05_Few.cuts althinglaw05_Few.ps althinglaw05_Few.r k a0
noncomputable def althinglaw05_Few (k : Nat) (a0 : List Ty_api_Command.den) : Option Bool := sealed althinglaw05_Few.raw k a0
theorem althinglaw05_Few_raw (k : Nat) (a0 : List Ty_api_Command.den) : althinglaw05_Few k a0 = althinglaw05_Few.raw k a0 := by unfold althinglaw05_Few; rw [sealed_eq]
noncomputable def althinglaw05_Few.c2 (k : Nat) (x7 : List Ty_api_Command.den) (x8 : Int) (x9 : Int) : Option Bool := runC Alg.std G_index_Against_1 T Try.f11 althinglaw05_Few.cuts althinglaw05_Few.r 2 althinglaw05_Few.s2 k (x7, x8, x9, ())
noncomputable def althinglaw05_Few.c5 (k : Nat) (x5 : Int) (x7 : List Ty_api_Command.den) (x8 : Int) (x9 : Int) (b4 : Ty_api_Command.den) : Option Bool := runC Alg.std G_index_Against_1 T Try.f11 althinglaw05_Few.cuts althinglaw05_Few.r 5 althinglaw05_Few.s5 k ((), x5, x7, x8, x9, b4, ())
noncomputable def althinglaw05_Few.c7 (k : Nat) (x5 : Int) (x7 : List Ty_api_Command.den) (x8 : Int) (x9 : Int) (b4 : Ty_api_Command.den) : Option Bool := runC Alg.std G_index_Against_1 T Try.f11 althinglaw05_Few.cuts althinglaw05_Few.r 7 althinglaw05_Few.s7 k ((), x5, x7, x8, x9, b4, ())
noncomputable def althinglaw05_Few.c10 (k : Nat) (x6 : Int) (x7 : List Ty_api_Command.den) (x8 : Int) (x9 : Int) (b4 : Ty_api_Command.den) : Option Bool := runC Alg.std G_index_Against_1 T Try.f11 althinglaw05_Few.cuts althinglaw05_Few.r 10 althinglaw05_Few.s10 k ((), x6, x7, x8, x9, b4, ())
noncomputable def althinglaw05_Few.c12 (k : Nat) (x6 : Int) (x7 : List Ty_api_Command.den) (x8 : Int) (x9 : Int) (b4 : Ty_api_Command.den) : Option Bool := runC Alg.std G_index_Against_1 T Try.f11 althinglaw05_Few.cuts althinglaw05_Few.r 12 althinglaw05_Few.s12 k ((), x6, x7, x8, x9, b4, ())
noncomputable def althinglaw05_Few.c14 (k : Nat) (x7 : List Ty_api_Command.den) (x8 : Int) (x9 : Int) (b4 : Ty_api_Command.den) : Option Bool := runC Alg.std G_index_Against_1 T Try.f11 althinglaw05_Few.cuts althinglaw05_Few.r 14 althinglaw05_Few.s14 k ((), x7, x8, x9, b4, ())
noncomputable def G_althinglaw05_Few (k : Nat) : Gam := ins 11 (.pu althinglaw05_Few.ps althinglaw05_Few.r (althinglaw05_Few k)) (G_index_Against_1 k)
theorem ok_althinglaw05_Few : GOk Try.prog G_althinglaw05_Few := ok_index_Against_1.ins fun k => by rw [show althinglaw05_Few k = althinglaw05_Few.raw k from congrFun (sealed_eq althinglaw05_Few.raw) k]; exact runF_ok tabOk ok_index_Against_1 mix Try.func11 Try.call11 althinglaw05_Few.cuts althinglaw05_Few.ps althinglaw05_Few.r (by rw [Try.ntmps11]; decide) k
def althinglaw11_Few.s2 : List CK := [.tmp 0 (.sl 44 Ty_api_Record), .tmp 3 Ty.i64]
def althinglaw11_Few.s4 : List CK := [.tmp 0 (.sl 44 Ty_api_Record), .tmp 3 Ty.i64]
def althinglaw11_Few.cuts : List (Nat × List CK) := [(2, althinglaw11_Few.s2), (4, althinglaw11_Few.s4)]
abbrev althinglaw11_Few.ps : List PK := [.val (.sl 44 Ty_api_Record)]
abbrev althinglaw11_Few.r : Ty := .bool
noncomputable def althinglaw11_Few.raw (k : Nat) (a0 : List Ty_api_Record.den) : Option Bool := runF Alg.std G_althinglaw05_Few T Try.f10 althinglaw11_Few.cuts althinglaw11_Few.ps althinglaw11_Few.r k a0
noncomputable def althinglaw11_Few (k : Nat) (a0 : List Ty_api_Record.den) : Option Bool := sealed althinglaw11_Few.raw k a0
theorem althinglaw11_Few_raw (k : Nat) (a0 : List Ty_api_Record.den) : althinglaw11_Few k a0 = althinglaw11_Few.raw k a0 := by unfold althinglaw11_Few; rw [sealed_eq]
noncomputable def althinglaw11_Few.c2 (k : Nat) (x0 : List Ty_api_Record.den) (x3 : Int) : Option Bool := runC Alg.std G_althinglaw05_Few T Try.f10 althinglaw11_Few.cuts althinglaw11_Few.r 2 althinglaw11_Few.s2 k (x0, x3, ())
noncomputable def althinglaw11_Few.c4 (k : Nat) (x0 : List Ty_api_Record.den) (x3 : Int) : Option Bool := runC Alg.std G_althinglaw05_Few T Try.f10 althinglaw11_Few.cuts althinglaw11_Few.r 4 althinglaw11_Few.s4 k (x0, x3, ())
noncomputable def G_althinglaw11_Few (k : Nat) : Gam := ins 10 (.pu althinglaw11_Few.ps althinglaw11_Few.r (althinglaw11_Few k)) (G_althinglaw05_Few k)
theorem ok_althinglaw11_Few : GOk Try.prog G_althinglaw11_Few := ok_althinglaw05_Few.ins fun k => by rw [show althinglaw11_Few k = althinglaw11_Few.raw k from congrFun (sealed_eq althinglaw11_Few.raw) k]; exact runF_ok tabOk ok_althinglaw05_Few mix Try.func10 Try.call10 althinglaw11_Few.cuts althinglaw11_Few.ps althinglaw11_Few.r (by rw [Try.ntmps10]; decide) k
def althinglaw11_some.cuts : List (Nat × List CK) := []
abbrev althinglaw11_some.ps : List PK := [.val Ty.i64]
abbrev althinglaw11_some.r : Ty := Ty_api_Command
noncomputable def althinglaw11_some.raw (k : Nat) (a0 : Int) : Option Ty_api_Command.den := runF Alg.std G_althinglaw11_Few T Try.f29 althinglaw11_some.cuts althinglaw11_some.ps althinglaw11_some.r k a0
noncomputable def althinglaw11_some (k : Nat) (a0 : Int) : Option Ty_api_Command.den := sealed althinglaw11_some.raw k a0
theorem althinglaw11_some_raw (k : Nat) (a0 : Int) : althinglaw11_some k a0 = althinglaw11_some.raw k a0 := by unfold althinglaw11_some; rw [sealed_eq]
noncomputable def G_althinglaw11_some (k : Nat) : Gam := ins 29 (.pu althinglaw11_some.ps althinglaw11_some.r (althinglaw11_some k)) (G_althinglaw11_Few k)
theorem ok_althinglaw11_some : GOk Try.prog G_althinglaw11_some := ok_althinglaw11_Few.ins fun k => by rw [show althinglaw11_some k = althinglaw11_some.raw k from congrFun (sealed_eq althinglaw11_some.raw) k]; exact runF_ok tabOk ok_althinglaw11_Few mix Try.func29 Try.call29 althinglaw11_some.cuts althinglaw11_some.ps althinglaw11_some.r (by rw [Try.ntmps29]; decide) k
noncomputable def G_index_Against (k : Nat) : Gam := ins 15 (index_Against.spec k) (G_althinglaw11_some k)
theorem ok_index_Against : GOk Try.prog G_index_Against := ok_althinglaw11_some.ins (index_Against.ok)
def deps_is.cuts : List (Nat × List CK) := []
abbrev deps_is.ps : List PK := [.val Ty_api_Instance]
abbrev deps_is.r : Ty := .bool
noncomputable def deps_is.raw (k : Nat) (a0 : Ty_api_Instance.den) : Option Bool := runF Alg.std G_index_Against T Try.f47 deps_is.cuts deps_is.ps deps_is.r k a0
noncomputable def deps_is (k : Nat) (a0 : Ty_api_Instance.den) : Option Bool := sealed deps_is.raw k a0
theorem deps_is_raw (k : Nat) (a0 : Ty_api_Instance.den) : deps_is k a0 = deps_is.raw k a0 := by unfold deps_is; rw [sealed_eq]
noncomputable def G_deps_is (k : Nat) : Gam := ins 47 (.pu deps_is.ps deps_is.r (deps_is k)) (G_index_Against k)
theorem ok_deps_is : GOk Try.prog G_deps_is := ok_index_Against.ins fun k => by rw [show deps_is k = deps_is.raw k from congrFun (sealed_eq deps_is.raw) k]; exact runF_ok tabOk ok_index_Against mix Try.func47 Try.call47 deps_is.cuts deps_is.ps deps_is.r (by rw [Try.ntmps47]; decide) k
def deps_With.cuts : List (Nat × List CK) := []
abbrev deps_With.ps : List PK := [.val Ty_api_Deps, .val Ty_api_Instance]
abbrev deps_With.r : Ty := Ty_api_Deps
noncomputable def deps_With.raw (k : Nat) (a0 : Ty_api_Deps.den) (a1 : Ty_api_Instance.den) : Option Ty_api_Deps.den := runF Alg.std G_deps_is T Try.f38 deps_With.cuts deps_With.ps deps_With.r k a0 a1
noncomputable def deps_With (k : Nat) (a0 : Ty_api_Deps.den) (a1 : Ty_api_Instance.den) : Option Ty_api_Deps.den := sealed deps_With.raw k a0 a1
theorem deps_With_raw (k : Nat) (a0 : Ty_api_Deps.den) (a1 : Ty_api_Instance.den) : deps_With k a0 a1 = deps_With.raw k a0 a1 := by unfold deps_With; rw [sealed_eq]
noncomputable def G_deps_With (k : Nat) : Gam := ins 38 (.pu deps_With.ps deps_With.r (deps_With k)) (G_deps_is k)
theorem ok_deps_With : GOk Try.prog G_deps_With := ok_deps_is.ins fun k => by rw [show deps_With k = deps_With.raw k from congrFun (sealed_eq deps_With.raw) k]; exact runF_ok tabOk ok_deps_is mix Try.func38 Try.call38 deps_With.cuts deps_With.ps deps_With.r (by rw [Try.ntmps38]; decide) k
def index_Attrs.s2 : List CK := [.tmp 3 Ty.i64, .ptr 9 9 Ty_api_Deps, .ptr 11 11 Ty_api_Deps, .tmp 17 (.sl 44 Ty_api_Record), .tmp 18 Ty.i64, .tmp 19 Ty.i64, .box 9 Ty_api_Deps, .box 11 Ty_api_Deps]
def index_Attrs.cuts : List (Nat × List CK) := [(2, index_Attrs.s2)]
abbrev index_Attrs.ps : List PK := [.val (.sl 44 Ty_api_Record), .val Ty_api_Instance, .val Ty_api_Command, .val Ty.i64, .val Ty_api_Deps]
abbrev index_Attrs.r : Ty := (.tup (.pair Ty.i64 Ty_api_Deps))
noncomputable def index_Attrs.raw (k : Nat) (a0 : List Ty_api_Record.den) (a1 : Ty_api_Instance.den) (a2 : Ty_api_Command.den) (a3 : Int) (a4 : Ty_api_Deps.den) : Option (Int × Ty_api_Deps.den) := runF Alg.std G_deps_With T Try.f21 index_Attrs.cuts index_Attrs.ps index_Attrs.r k a0 a1 a2 a3 a4
noncomputable def index_Attrs (k : Nat) (a0 : List Ty_api_Record.den) (a1 : Ty_api_Instance.den) (a2 : Ty_api_Command.den) (a3 : Int) (a4 : Ty_api_Deps.den) : Option (Int × Ty_api_Deps.den) := sealed index_Attrs.raw k a0 a1 a2 a3 a4
theorem index_Attrs_raw (k : Nat) (a0 : List Ty_api_Record.den) (a1 : Ty_api_Instance.den) (a2 : Ty_api_Command.den) (a3 : Int) (a4 : Ty_api_Deps.den) : index_Attrs k a0 a1 a2 a3 a4 = index_Attrs.raw k a0 a1 a2 a3 a4 := by unfold index_Attrs; rw [sealed_eq]
noncomputable def index_Attrs.c2 (k : Nat) (x3 : Int) (x17 : List Ty_api_Record.den) (x18 : Int) (x19 : Int) (b9 : Ty_api_Deps.den) (b11 : Ty_api_Deps.den) : Option (Int × Ty_api_Deps.den) := runC Alg.std G_deps_With T Try.f21 index_Attrs.cuts index_Attrs.r 2 index_Attrs.s2 k (x3, (), (), x17, x18, x19, b9, b11, ())
noncomputable def G_index_Attrs (k : Nat) : Gam := ins 21 (.pu index_Attrs.ps index_Attrs.r (index_Attrs k)) (G_deps_With k)
theorem ok_index_Attrs : GOk Try.prog G_index_Attrs := ok_deps_With.ins fun k => by rw [show index_Attrs k = index_Attrs.raw k from congrFun (sealed_eq index_Attrs.raw) k]; exact runF_ok tabOk ok_deps_With mix Try.func21 Try.call21 index_Attrs.cuts index_Attrs.ps index_Attrs.r (by rw [Try.ntmps21]; decide) k
def index_Slot.s3 : List CK := [.tmp 1 Ty.i64, .tmp 5 Ty.i64, .tmp 8 (.sl 44 Ty_api_Record), .tmp 9 Ty.i64, .tmp 10 Ty.i64]
def index_Slot.cuts : List (Nat × List CK) := [(3, index_Slot.s3)]
abbrev index_Slot.ps : List PK := [.val (.sl 44 Ty_api_Record), .val Ty.i64]
abbrev index_Slot.r : Ty := Ty.i64
noncomputable def index_Slot.raw (k : Nat) (a0 : List Ty_api_Record.den) (a1 : Int) : Option Int := runF Alg.std G_index_Attrs T Try.f19 index_Slot.cuts index_Slot.ps index_Slot.r k a0 a1
noncomputable def index_Slot (k : Nat) (a0 : List Ty_api_Record.den) (a1 : Int) : Option Int := sealed index_Slot.raw k a0 a1
theorem index_Slot_raw (k : Nat) (a0 : List Ty_api_Record.den) (a1 : Int) : index_Slot k a0 a1 = index_Slot.raw k a0 a1 := by unfold index_Slot; rw [sealed_eq]
noncomputable def index_Slot.c3 (k : Nat) (x1 : Int) (x5 : Int) (x8 : List Ty_api_Record.den) (x9 : Int) (x10 : Int) : Option Int := runC Alg.std G_index_Attrs T Try.f19 index_Slot.cuts index_Slot.r 3 index_Slot.s3 k (x1, x5, x8, x9, x10, ())
noncomputable def G_index_Slot (k : Nat) : Gam := ins 19 (.pu index_Slot.ps index_Slot.r (index_Slot k)) (G_index_Attrs k)
theorem ok_index_Slot : GOk Try.prog G_index_Slot := ok_index_Attrs.ins fun k => by rw [show index_Slot k = index_Slot.raw k from congrFun (sealed_eq index_Slot.raw) k]; exact runF_ok tabOk ok_index_Attrs mix Try.func19 Try.call19 index_Slot.cuts index_Slot.ps index_Slot.r (by rw [Try.ntmps19]; decide) k
def althinglaw11_awake.cuts : List (Nat × List CK) := []
abbrev althinglaw11_awake.ps : List PK := []
abbrev althinglaw11_awake.r : Ty := .bool
noncomputable def althinglaw11_awake.raw (k : Nat) : Option Bool := runF Alg.std G_index_Slot T Try.f12 althinglaw11_awake.cuts althinglaw11_awake.ps althinglaw11_awake.r k
noncomputable def althinglaw11_awake (k : Nat) : Option Bool := sealed althinglaw11_awake.raw k
theorem althinglaw11_awake_raw (k : Nat) : althinglaw11_awake k = althinglaw11_awake.raw k := by unfold althinglaw11_awake; rw [sealed_eq]
noncomputable def G_althinglaw11_awake (k : Nat) : Gam := ins 12 (.pu althinglaw11_awake.ps althinglaw11_awake.r (althinglaw11_awake k)) (G_index_Slot k)
theorem ok_althinglaw11_awake : GOk Try.prog G_althinglaw11_awake := ok_index_Slot.ins fun k => by rw [show althinglaw11_awake k = althinglaw11_awake.raw k from congrFun (sealed_eq althinglaw11_awake.raw) k]; exact runF_ok tabOk ok_index_Slot mix Try.func12 Try.call12 althinglaw11_awake.cuts althinglaw11_awake.ps althinglaw11_awake.r (by rw [Try.ntmps12]; decide) k
def althinglaw11_cloned.cuts : List (Nat × List CK) := []
abbrev althinglaw11_cloned.ps : List PK := [.val Ty_api_Command]
abbrev althinglaw11_cloned.r : Ty := Ty_api_Command
noncomputable def althinglaw11_cloned.raw (k : Nat) (a0 : Ty_api_Command.den) : Option Ty_api_Command.den := runF Alg.std G_althinglaw11_awake T Try.f30 althinglaw11_cloned.cuts althinglaw11_cloned.ps althinglaw11_cloned.r k a0
noncomputable def althinglaw11_cloned (k : Nat) (a0 : Ty_api_Command.den) : Option Ty_api_Command.den := sealed althinglaw11_cloned.raw k a0
theorem althinglaw11_cloned_raw (k : Nat) (a0 : Ty_api_Command.den) : althinglaw11_cloned k a0 = althinglaw11_cloned.raw k a0 := by unfold althinglaw11_cloned; rw [sealed_eq]
noncomputable def G_althinglaw11_cloned (k : Nat) : Gam := ins 30 (.pu althinglaw11_cloned.ps althinglaw11_cloned.r (althinglaw11_cloned k)) (G_althinglaw11_awake k)
theorem ok_althinglaw11_cloned : GOk Try.prog G_althinglaw11_cloned := ok_althinglaw11_awake.ins fun k => by rw [show althinglaw11_cloned k = althinglaw11_cloned.raw k from congrFun (sealed_eq althinglaw11_cloned.raw) k]; exact runF_ok tabOk ok_althinglaw11_awake mix Try.func30 Try.call30 althinglaw11_cloned.cuts althinglaw11_cloned.ps althinglaw11_cloned.r (by rw [Try.ntmps30]; decide) k
def althinglaw11_own.s3 : List CK := [.own 3 44 Ty_api_Record, .tmp 6 (.sl 44 Ty_api_Record), .tmp 7 Ty.i64, .tmp 8 Ty.i64]
def althinglaw11_own.cuts : List (Nat × List CK) := [(3, althinglaw11_own.s3)]
abbrev althinglaw11_own.ps : List PK := [.val (.sl 44 Ty_api_Record)]
abbrev althinglaw11_own.r : Ty := (.sl 44 Ty_api_Record)
noncomputable def althinglaw11_own.raw (k : Nat) (a0 : List Ty_api_Record.den) : Option (List Ty_api_Record.den) := runO Alg.std G_althinglaw11_cloned T Try.f13 althinglaw11_own.cuts althinglaw11_own.ps 44 Ty_api_Record k a0
noncomputable def althinglaw11_own (k : Nat) (a0 : List Ty_api_Record.den) : Option (List Ty_api_Record.den) := sealed althinglaw11_own.raw k a0
theorem althinglaw11_own_raw (k : Nat) (a0 : List Ty_api_Record.den) : althinglaw11_own k a0 = althinglaw11_own.raw k a0 := by unfold althinglaw11_own; rw [sealed_eq]
noncomputable def althinglaw11_own.c3 (k : Nat) (x3 : List Ty_api_Record.den) (x6 : List Ty_api_Record.den) (x7 : Int) (x8 : Int) : Option (List Ty_api_Record.den) := runOC Alg.std G_althinglaw11_cloned T Try.f13 althinglaw11_own.cuts 44 Ty_api_Record 3 althinglaw11_own.s3 k (x3, x6, x7, x8, ())
theorem althinglaw11_own_ok (k : Nat) : SpecOk Try.prog 13 (.fr althinglaw11_own.ps 44 Ty_api_Record (althinglaw11_own k)) := by rw [show althinglaw11_own k = althinglaw11_own.raw k from congrFun (sealed_eq althinglaw11_own.raw) k]; exact runO_ok tabOk ok_althinglaw11_cloned mix Try.func13 Try.call13 althinglaw11_own.cuts althinglaw11_own.ps 44 Ty_api_Record (by rw [Try.ntmps13]; decide) k
noncomputable def G_althinglaw11_own (k : Nat) : Gam := ins 13 (.fr althinglaw11_own.ps 44 Ty_api_Record (althinglaw11_own k)) (G_althinglaw11_cloned k)
theorem ok_althinglaw11_own : GOk Try.prog G_althinglaw11_own := ok_althinglaw11_cloned.ins althinglaw11_own_ok
def althingref11_Last.s2 : List CK := [.tmp 0 (.sl 44 Ty_api_Record), .tmp 1 Ty.i64, .tmp 5 Ty.i64]
def althingref11_Last.cuts : List (Nat × List CK) := [(2, althingref11_Last.s2)]
abbrev althingref11_Last.ps : List PK := [.val (.sl 44 Ty_api_Record), .val Ty.i64]
abbrev althingref11_Last.r : Ty := .bool
noncomputable def althingref11_Last.raw (k : Nat) (a0 : List Ty_api_Record.den) (a1 : Int) : Option Bool := runF Alg.std G_althinglaw11_own T Try.f24 althingref11_Last.cuts althingref11_Last.ps althingref11_Last.r k a0 a1
noncomputable def althingref11_Last (k : Nat) (a0 : List Ty_api_Record.den) (a1 : Int) : Option Bool := sealed althingref11_Last.raw k a0 a1
theorem althingref11_Last_raw (k : Nat) (a0 : List Ty_api_Record.den) (a1 : Int) : althingref11_Last k a0 a1 = althingref11_Last.raw k a0 a1 := by unfold althingref11_Last; rw [sealed_eq]
noncomputable def althingref11_Last.c2 (k : Nat) (x0 : List Ty_api_Record.den) (x1 : Int) (x5 : Int) : Option Bool := runC Alg.std G_althinglaw11_own T Try.f24 althingref11_Last.cuts althingref11_Last.r 2 althingref11_Last.s2 k (x0, x1, x5, ())
noncomputable def G_althingref11_Last (k : Nat) : Gam := ins 24 (.pu althingref11_Last.ps althingref11_Last.r (althingref11_Last k)) (G_althinglaw11_own k)
theorem ok_althingref11_Last : GOk Try.prog G_althingref11_Last := ok_althinglaw11_own.ins fun k => by rw [show althingref11_Last k = althingref11_Last.raw k from congrFun (sealed_eq althingref11_Last.raw) k]; exact runF_ok tabOk ok_althinglaw11_own mix Try.func24 Try.call24 althingref11_Last.cuts althingref11_Last.ps althingref11_Last.r (by rw [Try.ntmps24]; decide) k
noncomputable def G_althingref04_Join (k : Nat) : Gam := ins 48 (althingref04_Join.spec k) (G_althingref11_Last k)
theorem ok_althingref04_Join : GOk Try.prog G_althingref04_Join := ok_althingref11_Last.ins (althingref04_Join.ok)
def althingref05_Keys.s3 : List CK := [.ptr 1 1 Ty_api_Command, .own 3 9 .str, .tmp 4 Ty.i64, .box 1 Ty_api_Command]
def althingref05_Keys.s7 : List CK := [.ptr 1 1 Ty_api_Command, .own 3 9 .str, .tmp 5 Ty.i64, .box 1 Ty_api_Command]
def althingref05_Keys.cuts : List (Nat × List CK) := [(3, althingref05_Keys.s3), (7, althingref05_Keys.s7)]
abbrev althingref05_Keys.ps : List PK := [.val Ty_api_Command]
abbrev althingref05_Keys.r : Ty := (.sl 9 .str)
noncomputable def althingref05_Keys.raw (k : Nat) (a0 : Ty_api_Command.den) : Option (List ByteArray) := runF Alg.std G_althingref04_Join T Try.f40 althingref05_Keys.cuts althingref05_Keys.ps althingref05_Keys.r k a0
noncomputable def althingref05_Keys (k : Nat) (a0 : Ty_api_Command.den) : Option (List ByteArray) := sealed althingref05_Keys.raw k a0
theorem althingref05_Keys_raw (k : Nat) (a0 : Ty_api_Command.den) : althingref05_Keys k a0 = althingref05_Keys.raw k a0 := by unfold althingref05_Keys; rw [sealed_eq]
noncomputable def althingref05_Keys.c3 (k : Nat) (x3 : List ByteArray) (x4 : Int) (b1 : Ty_api_Command.den) : Option (List ByteArray) := runC Alg.std G_althingref04_Join T Try.f40 althingref05_Keys.cuts althingref05_Keys.r 3 althingref05_Keys.s3 k ((), x3, x4, b1, ())
noncomputable def althingref05_Keys.c7 (k : Nat) (x3 : List ByteArray) (x5 : Int) (b1 : Ty_api_Command.den) : Option (List ByteArray) := runC Alg.std G_althingref04_Join T Try.f40 althingref05_Keys.cuts althingref05_Keys.r 7 althingref05_Keys.s7 k ((), x3, x5, b1, ())
noncomputable def G_althingref05_Keys (k : Nat) : Gam := ins 40 (.pu althingref05_Keys.ps althingref05_Keys.r (althingref05_Keys k)) (G_althingref04_Join k)
theorem ok_althingref05_Keys : GOk Try.prog G_althingref05_Keys := ok_althingref04_Join.ins fun k => by rw [show althingref05_Keys k = althingref05_Keys.raw k from congrFun (sealed_eq althingref05_Keys.raw) k]; exact runF_ok tabOk ok_althingref04_Join mix Try.func40 Try.call40 althingref05_Keys.cuts althingref05_Keys.ps althingref05_Keys.r (by rw [Try.ntmps40]; decide) k
def althingref04_In.s2 : List CK := [.tmp 0 (.sl 9 .str), .tmp 1 .str, .tmp 5 Ty.i64]
def althingref04_In.cuts : List (Nat × List CK) := [(2, althingref04_In.s2)]
abbrev althingref04_In.ps : List PK := [.val (.sl 9 .str), .val .str]
abbrev althingref04_In.r : Ty := .bool
noncomputable def althingref04_In.raw (k : Nat) (a0 : List ByteArray) (a1 : ByteArray) : Option Bool := runF Alg.std G_althingref05_Keys T Try.f41 althingref04_In.cuts althingref04_In.ps althingref04_In.r k a0 a1
noncomputable def althingref04_In (k : Nat) (a0 : List ByteArray) (a1 : ByteArray) : Option Bool := sealed althingref04_In.raw k a0 a1
theorem althingref04_In_raw (k : Nat) (a0 : List ByteArray) (a1 : ByteArray) : althingref04_In k a0 a1 = althingref04_In.raw k a0 a1 := by unfold althingref04_In; rw [sealed_eq]
noncomputable def althingref04_In.c2 (k : Nat) (x0 : List ByteArray) (x1 : ByteArray) (x5 : Int) : Option Bool := runC Alg.std G_althingref05_Keys T Try.f41 althingref04_In.cuts althingref04_In.r 2 althingref04_In.s2 k (x0, x1, x5, ())
noncomputable def G_althingref04_In (k : Nat) : Gam := ins 41 (.pu althingref04_In.ps althingref04_In.r (althingref04_In k)) (G_althingref05_Keys k)
theorem ok_althingref04_In : GOk Try.prog G_althingref04_In := ok_althingref05_Keys.ins fun k => by rw [show althingref04_In k = althingref04_In.raw k from congrFun (sealed_eq althingref04_In.raw) k]; exact runF_ok tabOk ok_althingref05_Keys mix Try.func41 Try.call41 althingref04_In.cuts althingref04_In.ps althingref04_In.r (by rw [Try.ntmps41]; decide) k
def althingref05_Interfere.s3 : List CK := [.ptr 2 2 Ty_api_Command, .ptr 3 3 Ty_api_Command, .box 2 Ty_api_Command, .box 3 Ty_api_Command]
def althingref05_Interfere.s8 : List CK := [.tmp 5 (.sl 9 .str), .tmp 6 (.sl 9 .str), .tmp 7 Ty.i64]
def althingref05_Interfere.cuts : List (Nat × List CK) := [(3, althingref05_Interfere.s3), (8, althingref05_Interfere.s8)]
abbrev althingref05_Interfere.ps : List PK := [.val Ty_api_Command, .val Ty_api_Command]
abbrev althingref05_Interfere.r : Ty := .bool
noncomputable def althingref05_Interfere.raw (k : Nat) (a0 : Ty_api_Command.den) (a1 : Ty_api_Command.den) : Option Bool := runF Alg.std G_althingref04_In T Try.f25 althingref05_Interfere.cuts althingref05_Interfere.ps althingref05_Interfere.r k a0 a1
noncomputable def althingref05_Interfere (k : Nat) (a0 : Ty_api_Command.den) (a1 : Ty_api_Command.den) : Option Bool := sealed althingref05_Interfere.raw k a0 a1
theorem althingref05_Interfere_raw (k : Nat) (a0 : Ty_api_Command.den) (a1 : Ty_api_Command.den) : althingref05_Interfere k a0 a1 = althingref05_Interfere.raw k a0 a1 := by unfold althingref05_Interfere; rw [sealed_eq]
noncomputable def althingref05_Interfere.c3 (k : Nat) (b2 : Ty_api_Command.den) (b3 : Ty_api_Command.den) : Option Bool := runC Alg.std G_althingref04_In T Try.f25 althingref05_Interfere.cuts althingref05_Interfere.r 3 althingref05_Interfere.s3 k ((), (), b2, b3, ())
noncomputable def althingref05_Interfere.c8 (k : Nat) (x5 : List ByteArray) (x6 : List ByteArray) (x7 : Int) : Option Bool := runC Alg.std G_althingref04_In T Try.f25 althingref05_Interfere.cuts althingref05_Interfere.r 8 althingref05_Interfere.s8 k (x5, x6, x7, ())
noncomputable def G_althingref05_Interfere (k : Nat) : Gam := ins 25 (.pu althingref05_Interfere.ps althingref05_Interfere.r (althingref05_Interfere k)) (G_althingref04_In k)
theorem ok_althingref05_Interfere : GOk Try.prog G_althingref05_Interfere := ok_althingref04_In.ins fun k => by rw [show althingref05_Interfere k = althingref05_Interfere.raw k from congrFun (sealed_eq althingref05_Interfere.raw) k]; exact runF_ok tabOk ok_althingref04_In mix Try.func25 Try.call25 althingref05_Interfere.cuts althingref05_Interfere.ps althingref05_Interfere.r (by rw [Try.ntmps25]; decide) k
def althingref11_Against.s3 : List CK := [.tmp 0 (.sl 44 Ty_api_Record), .ptr 4 4 Ty_api_Instance, .ptr 5 5 Ty_api_Command, .own 7 44 Ty_api_Record, .tmp 8 Ty.i64, .box 4 Ty_api_Instance, .box 5 Ty_api_Command]
def althingref11_Against.s6 : List CK := [.tmp 0 (.sl 44 Ty_api_Record), .ptr 4 4 Ty_api_Instance, .ptr 5 5 Ty_api_Command, .own 7 44 Ty_api_Record, .tmp 8 Ty.i64, .box 4 Ty_api_Instance, .box 5 Ty_api_Command]
def althingref11_Against.s4 : List CK := [.tmp 0 (.sl 44 Ty_api_Record), .ptr 4 4 Ty_api_Instance, .ptr 5 5 Ty_api_Command, .own 7 44 Ty_api_Record, .tmp 8 Ty.i64, .box 4 Ty_api_Instance, .box 5 Ty_api_Command]
def althingref11_Against.cuts : List (Nat × List CK) := [(3, althingref11_Against.s3), (6, althingref11_Against.s6), (4, althingref11_Against.s4)]
abbrev althingref11_Against.ps : List PK := [.val (.sl 44 Ty_api_Record), .val Ty_api_Instance, .val Ty_api_Command]
abbrev althingref11_Against.r : Ty := (.sl 44 Ty_api_Record)
noncomputable def althingref11_Against.raw (k : Nat) (a0 : List Ty_api_Record.den) (a1 : Ty_api_Instance.den) (a2 : Ty_api_Command.den) : Option (List Ty_api_Record.den) := runF Alg.std G_althingref05_Interfere T Try.f18 althingref11_Against.cuts althingref11_Against.ps althingref11_Against.r k a0 a1 a2
noncomputable def althingref11_Against (k : Nat) (a0 : List Ty_api_Record.den) (a1 : Ty_api_Instance.den) (a2 : Ty_api_Command.den) : Option (List Ty_api_Record.den) := sealed althingref11_Against.raw k a0 a1 a2
theorem althingref11_Against_raw (k : Nat) (a0 : List Ty_api_Record.den) (a1 : Ty_api_Instance.den) (a2 : Ty_api_Command.den) : althingref11_Against k a0 a1 a2 = althingref11_Against.raw k a0 a1 a2 := by unfold althingref11_Against; rw [sealed_eq]
noncomputable def althingref11_Against.c3 (k : Nat) (x0 : List Ty_api_Record.den) (x7 : List Ty_api_Record.den) (x8 : Int) (b4 : Ty_api_Instance.den) (b5 : Ty_api_Command.den) : Option (List Ty_api_Record.den) := runC Alg.std G_althingref05_Interfere T Try.f18 althingref11_Against.cuts althingref11_Against.r 3 althingref11_Against.s3 k (x0, (), (), x7, x8, b4, b5, ())
noncomputable def althingref11_Against.c6 (k : Nat) (x0 : List Ty_api_Record.den) (x7 : List Ty_api_Record.den) (x8 : Int) (b4 : Ty_api_Instance.den) (b5 : Ty_api_Command.den) : Option (List Ty_api_Record.den) := runC Alg.std G_althingref05_Interfere T Try.f18 althingref11_Against.cuts althingref11_Against.r 6 althingref11_Against.s6 k (x0, (), (), x7, x8, b4, b5, ())
noncomputable def althingref11_Against.c4 (k : Nat) (x0 : List Ty_api_Record.den) (x7 : List Ty_api_Record.den) (x8 : Int) (b4 : Ty_api_Instance.den) (b5 : Ty_api_Command.den) : Option (List Ty_api_Record.den) := runC Alg.std G_althingref05_Interfere T Try.f18 althingref11_Against.cuts althingref11_Against.r 4 althingref11_Against.s4 k (x0, (), (), x7, x8, b4, b5, ())
noncomputable def G_althingref11_Against (k : Nat) : Gam := ins 18 (.pu althingref11_Against.ps althingref11_Against.r (althingref11_Against k)) (G_althingref05_Interfere k)
theorem ok_althingref11_Against : GOk Try.prog G_althingref11_Against := ok_althingref05_Interfere.ins fun k => by rw [show althingref11_Against k = althingref11_Against.raw k from congrFun (sealed_eq althingref11_Against.raw) k]; exact runF_ok tabOk ok_althingref05_Interfere mix Try.func18 Try.call18 althingref11_Against.cuts althingref11_Against.ps althingref11_Against.r (by rw [Try.ntmps18]; decide) k
def althingref03_With.s2 : List CK := [.ptr 2 2 Ty_api_Deps, .ptr 3 3 Ty_api_Instance, .ptr 4 4 Ty_api_Deps, .tmp 5 Ty.i64, .box 2 Ty_api_Deps, .box 3 Ty_api_Instance, .box 4 Ty_api_Deps]
def althingref03_With.s3 : List CK := [.ptr 2 2 Ty_api_Deps, .ptr 3 3 Ty_api_Instance, .ptr 4 4 Ty_api_Deps, .tmp 5 Ty.i64, .box 2 Ty_api_Deps, .box 3 Ty_api_Instance, .box 4 Ty_api_Deps]
def althingref03_With.cuts : List (Nat × List CK) := [(2, althingref03_With.s2), (3, althingref03_With.s3)]
abbrev althingref03_With.ps : List PK := [.val Ty_api_Deps, .val Ty_api_Instance]
abbrev althingref03_With.r : Ty := Ty_api_Deps
noncomputable def althingref03_With.raw (k : Nat) (a0 : Ty_api_Deps.den) (a1 : Ty_api_Instance.den) : Option Ty_api_Deps.den := runF Alg.std G_althingref11_Against T Try.f39 althingref03_With.cuts althingref03_With.ps althingref03_With.r k a0 a1
noncomputable def althingref03_With (k : Nat) (a0 : Ty_api_Deps.den) (a1 : Ty_api_Instance.den) : Option Ty_api_Deps.den := sealed althingref03_With.raw k a0 a1
theorem althingref03_With_raw (k : Nat) (a0 : Ty_api_Deps.den) (a1 : Ty_api_Instance.den) : althingref03_With k a0 a1 = althingref03_With.raw k a0 a1 := by unfold althingref03_With; rw [sealed_eq]
noncomputable def althingref03_With.c2 (k : Nat) (x5 : Int) (b2 : Ty_api_Deps.den) (b3 : Ty_api_Instance.den) (b4 : Ty_api_Deps.den) : Option Ty_api_Deps.den := runC Alg.std G_althingref11_Against T Try.f39 althingref03_With.cuts althingref03_With.r 2 althingref03_With.s2 k ((), (), (), x5, b2, b3, b4, ())
noncomputable def althingref03_With.c3 (k : Nat) (x5 : Int) (b2 : Ty_api_Deps.den) (b3 : Ty_api_Instance.den) (b4 : Ty_api_Deps.den) : Option Ty_api_Deps.den := runC Alg.std G_althingref11_Against T Try.f39 althingref03_With.cuts althingref03_With.r 3 althingref03_With.s3 k ((), (), (), x5, b2, b3, b4, ())
noncomputable def G_althingref03_With (k : Nat) : Gam := ins 39 (.pu althingref03_With.ps althingref03_With.r (althingref03_With k)) (G_althingref11_Against k)
theorem ok_althingref03_With : GOk Try.prog G_althingref03_With := ok_althingref11_Against.ins fun k => by rw [show althingref03_With k = althingref03_With.raw k from congrFun (sealed_eq althingref03_With.raw) k]; exact runF_ok tabOk ok_althingref11_Against mix Try.func39 Try.call39 althingref03_With.cuts althingref03_With.ps althingref03_With.r (by rw [Try.ntmps39]; decide) k
def althingref11_Attrs.s3 : List CK := [.tmp 3 Ty.i64, .ptr 9 9 Ty_api_Deps, .ptr 11 11 Ty_api_Deps, .tmp 12 (.sl 44 Ty_api_Record), .tmp 13 Ty.i64, .box 9 Ty_api_Deps, .box 11 Ty_api_Deps]
def althingref11_Attrs.s9 : List CK := [.tmp 3 Ty.i64, .ptr 9 9 Ty_api_Deps, .ptr 11 11 Ty_api_Deps, .tmp 12 (.sl 44 Ty_api_Record), .tmp 13 Ty.i64, .tmp 14 Ty.i64, .box 9 Ty_api_Deps, .box 11 Ty_api_Deps]
def althingref11_Attrs.s11 : List CK := [.tmp 3 Ty.i64, .ptr 9 9 Ty_api_Deps, .ptr 11 11 Ty_api_Deps, .tmp 12 (.sl 44 Ty_api_Record), .tmp 13 Ty.i64, .box 9 Ty_api_Deps, .box 11 Ty_api_Deps]
def althingref11_Attrs.cuts : List (Nat × List CK) := [(3, althingref11_Attrs.s3), (9, althingref11_Attrs.s9), (11, althingref11_Attrs.s11)]
abbrev althingref11_Attrs.ps : List PK := [.val (.sl 44 Ty_api_Record), .val Ty_api_Instance, .val Ty_api_Command, .val Ty.i64, .val Ty_api_Deps]
abbrev althingref11_Attrs.r : Ty := (.tup (.pair Ty.i64 Ty_api_Deps))
noncomputable def althingref11_Attrs.raw (k : Nat) (a0 : List Ty_api_Record.den) (a1 : Ty_api_Instance.den) (a2 : Ty_api_Command.den) (a3 : Int) (a4 : Ty_api_Deps.den) : Option (Int × Ty_api_Deps.den) := runF Alg.std G_althingref03_With T Try.f22 althingref11_Attrs.cuts althingref11_Attrs.ps althingref11_Attrs.r k a0 a1 a2 a3 a4
noncomputable def althingref11_Attrs (k : Nat) (a0 : List Ty_api_Record.den) (a1 : Ty_api_Instance.den) (a2 : Ty_api_Command.den) (a3 : Int) (a4 : Ty_api_Deps.den) : Option (Int × Ty_api_Deps.den) := sealed althingref11_Attrs.raw k a0 a1 a2 a3 a4
theorem althingref11_Attrs_raw (k : Nat) (a0 : List Ty_api_Record.den) (a1 : Ty_api_Instance.den) (a2 : Ty_api_Command.den) (a3 : Int) (a4 : Ty_api_Deps.den) : althingref11_Attrs k a0 a1 a2 a3 a4 = althingref11_Attrs.raw k a0 a1 a2 a3 a4 := by unfold althingref11_Attrs; rw [sealed_eq]
noncomputable def althingref11_Attrs.c3 (k : Nat) (x3 : Int) (x12 : List Ty_api_Record.den) (x13 : Int) (b9 : Ty_api_Deps.den) (b11 : Ty_api_Deps.den) : Option (Int × Ty_api_Deps.den) := runC Alg.std G_althingref03_With T Try.f22 althingref11_Attrs.cuts althingref11_Attrs.r 3 althingref11_Attrs.s3 k (x3, (), (), x12, x13, b9, b11, ())
noncomputable def althingref11_Attrs.c9 (k : Nat) (x3 : Int) (x12 : List Ty_api_Record.den) (x13 : Int) (x14 : Int) (b9 : Ty_api_Deps.den) (b11 : Ty_api_Deps.den) : Option (Int × Ty_api_Deps.den) := runC Alg.std G_althingref03_With T Try.f22 althingref11_Attrs.cuts althingref11_Attrs.r 9 althingref11_Attrs.s9 k (x3, (), (), x12, x13, x14, b9, b11, ())
noncomputable def althingref11_Attrs.c11 (k : Nat) (x3 : Int) (x12 : List Ty_api_Record.den) (x13 : Int) (b9 : Ty_api_Deps.den) (b11 : Ty_api_Deps.den) : Option (Int × Ty_api_Deps.den) := runC Alg.std G_althingref03_With T Try.f22 althingref11_Attrs.cuts althingref11_Attrs.r 11 althingref11_Attrs.s11 k (x3, (), (), x12, x13, b9, b11, ())
noncomputable def G_althingref11_Attrs (k : Nat) : Gam := ins 22 (.pu althingref11_Attrs.ps althingref11_Attrs.r (althingref11_Attrs k)) (G_althingref03_With k)
theorem ok_althingref11_Attrs : GOk Try.prog G_althingref11_Attrs := ok_althingref03_With.ins fun k => by rw [show althingref11_Attrs k = althingref11_Attrs.raw k from congrFun (sealed_eq althingref11_Attrs.raw) k]; exact runF_ok tabOk ok_althingref03_With mix Try.func22 Try.call22 althingref11_Attrs.cuts althingref11_Attrs.ps althingref11_Attrs.r (by rw [Try.ntmps22]; decide) k
def althinglaw11_IndexAttrs.s3 : List CK := [.tmp 0 (.sl 44 Ty_api_Record), .tmp 3 Ty.i64, .ptr 6 6 Ty_api_Instance, .ptr 7 7 Ty_api_Command, .ptr 9 9 Ty_api_Deps, .box 6 Ty_api_Instance, .box 7 Ty_api_Command, .box 9 Ty_api_Deps]
def althinglaw11_IndexAttrs.cuts : List (Nat × List CK) := [(3, althinglaw11_IndexAttrs.s3)]
abbrev althinglaw11_IndexAttrs.ps : List PK := [.val (.sl 44 Ty_api_Record), .val Ty_api_Instance, .val Ty_api_Command, .val Ty.i64, .val Ty_api_Deps]
abbrev althinglaw11_IndexAttrs.r : Ty := .bool
noncomputable def althinglaw11_IndexAttrs.raw (k : Nat) (a0 : List Ty_api_Record.den) (a1 : Ty_api_Instance.den) (a2 : Ty_api_Command.den) (a3 : Int) (a4 : Ty_api_Deps.den) : Option Bool := runF Alg.std G_althingref11_Attrs T Try.f4 althinglaw11_IndexAttrs.cuts althinglaw11_IndexAttrs.ps althinglaw11_IndexAttrs.r k a0 a1 a2 a3 a4
noncomputable def althinglaw11_IndexAttrs (k : Nat) (a0 : List Ty_api_Record.den) (a1 : Ty_api_Instance.den) (a2 : Ty_api_Command.den) (a3 : Int) (a4 : Ty_api_Deps.den) : Option Bool := sealed althinglaw11_IndexAttrs.raw k a0 a1 a2 a3 a4
theorem althinglaw11_IndexAttrs_raw (k : Nat) (a0 : List Ty_api_Record.den) (a1 : Ty_api_Instance.den) (a2 : Ty_api_Command.den) (a3 : Int) (a4 : Ty_api_Deps.den) : althinglaw11_IndexAttrs k a0 a1 a2 a3 a4 = althinglaw11_IndexAttrs.raw k a0 a1 a2 a3 a4 := by unfold althinglaw11_IndexAttrs; rw [sealed_eq]
noncomputable def althinglaw11_IndexAttrs.c3 (k : Nat) (x0 : List Ty_api_Record.den) (x3 : Int) (b6 : Ty_api_Instance.den) (b7 : Ty_api_Command.den) (b9 : Ty_api_Deps.den) : Option Bool := runC Alg.std G_althingref11_Attrs T Try.f4 althinglaw11_IndexAttrs.cuts althinglaw11_IndexAttrs.r 3 althinglaw11_IndexAttrs.s3 k (x0, x3, (), (), (), b6, b7, b9, ())
noncomputable def G_althinglaw11_IndexAttrs (k : Nat) : Gam := ins 4 (.pu althinglaw11_IndexAttrs.ps althinglaw11_IndexAttrs.r (althinglaw11_IndexAttrs k)) (G_althingref11_Attrs k)
theorem ok_althinglaw11_IndexAttrs : GOk Try.prog G_althinglaw11_IndexAttrs := ok_althingref11_Attrs.ins fun k => by rw [show althinglaw11_IndexAttrs k = althinglaw11_IndexAttrs.raw k from congrFun (sealed_eq althinglaw11_IndexAttrs.raw) k]; exact runF_ok tabOk ok_althingref11_Attrs mix Try.func4 Try.call4 althinglaw11_IndexAttrs.cuts althinglaw11_IndexAttrs.ps althinglaw11_IndexAttrs.r (by rw [Try.ntmps4]; decide) k
def althingref03_Over.s2 : List CK := [.ptr 2 2 Ty_api_Deps, .ptr 3 3 Ty_api_Deps, .tmp 5 Ty.i64, .box 2 Ty_api_Deps, .box 3 Ty_api_Deps]
def althingref03_Over.cuts : List (Nat × List CK) := [(2, althingref03_Over.s2)]
abbrev althingref03_Over.ps : List PK := [.val Ty_api_Deps, .val Ty_api_Deps]
abbrev althingref03_Over.r : Ty := .bool
noncomputable def althingref03_Over.raw (k : Nat) (a0 : Ty_api_Deps.den) (a1 : Ty_api_Deps.den) : Option Bool := runF Alg.std G_althinglaw11_IndexAttrs T Try.f23 althingref03_Over.cuts althingref03_Over.ps althingref03_Over.r k a0 a1
noncomputable def althingref03_Over (k : Nat) (a0 : Ty_api_Deps.den) (a1 : Ty_api_Deps.den) : Option Bool := sealed althingref03_Over.raw k a0 a1
theorem althingref03_Over_raw (k : Nat) (a0 : Ty_api_Deps.den) (a1 : Ty_api_Deps.den) : althingref03_Over k a0 a1 = althingref03_Over.raw k a0 a1 := by unfold althingref03_Over; rw [sealed_eq]
noncomputable def althingref03_Over.c2 (k : Nat) (x5 : Int) (b2 : Ty_api_Deps.den) (b3 : Ty_api_Deps.den) : Option Bool := runC Alg.std G_althinglaw11_IndexAttrs T Try.f23 althingref03_Over.cuts althingref03_Over.r 2 althingref03_Over.s2 k ((), (), x5, b2, b3, ())
noncomputable def G_althingref03_Over (k : Nat) : Gam := ins 23 (.pu althingref03_Over.ps althingref03_Over.r (althingref03_Over k)) (G_althinglaw11_IndexAttrs k)
theorem ok_althingref03_Over : GOk Try.prog G_althingref03_Over := ok_althinglaw11_IndexAttrs.ins fun k => by rw [show althingref03_Over k = althingref03_Over.raw k from congrFun (sealed_eq althingref03_Over.raw) k]; exact runF_ok tabOk ok_althinglaw11_IndexAttrs mix Try.func23 Try.call23 althingref03_Over.cuts althingref03_Over.ps althingref03_Over.r (by rw [Try.ntmps23]; decide) k
def althinglaw11_IndexStays.s3 : List CK := [.tmp 0 (.sl 44 Ty_api_Record), .tmp 4 Ty.i64, .ptr 7 7 Ty_api_Record, .ptr 8 8 Ty_api_Instance, .ptr 9 9 Ty_api_Command, .ptr 11 11 Ty_api_Deps, .box 7 Ty_api_Record, .box 8 Ty_api_Instance, .box 9 Ty_api_Command, .box 11 Ty_api_Deps]
def althinglaw11_IndexStays.s8 : List CK := [.tmp 0 (.sl 44 Ty_api_Record), .tmp 4 Ty.i64, .ptr 7 7 Ty_api_Record, .ptr 8 8 Ty_api_Instance, .ptr 9 9 Ty_api_Command, .ptr 11 11 Ty_api_Deps, .tmp 13 Ty.i64, .ptr 14 14 Ty_api_Deps, .tmp 76 (.sl 44 Ty_api_Record), .tmp 77 Ty.i64, .tmp 78 Ty.i64, .box 7 Ty_api_Record, .box 8 Ty_api_Instance, .box 9 Ty_api_Command, .box 11 Ty_api_Deps, .box 14 Ty_api_Deps]
def althinglaw11_IndexStays.cuts : List (Nat × List CK) := [(3, althinglaw11_IndexStays.s3), (8, althinglaw11_IndexStays.s8)]
abbrev althinglaw11_IndexStays.ps : List PK := [.val (.sl 44 Ty_api_Record), .val Ty_api_Record, .val Ty_api_Instance, .val Ty_api_Command, .val Ty.i64, .val Ty_api_Deps]
abbrev althinglaw11_IndexStays.r : Ty := .bool
noncomputable def althinglaw11_IndexStays.raw (k : Nat) (a0 : List Ty_api_Record.den) (a1 : Ty_api_Record.den) (a2 : Ty_api_Instance.den) (a3 : Ty_api_Command.den) (a4 : Int) (a5 : Ty_api_Deps.den) : Option Bool := runF Alg.std G_althingref03_Over T Try.f5 althinglaw11_IndexStays.cuts althinglaw11_IndexStays.ps althinglaw11_IndexStays.r k a0 a1 a2 a3 a4 a5
noncomputable def althinglaw11_IndexStays (k : Nat) (a0 : List Ty_api_Record.den) (a1 : Ty_api_Record.den) (a2 : Ty_api_Instance.den) (a3 : Ty_api_Command.den) (a4 : Int) (a5 : Ty_api_Deps.den) : Option Bool := sealed althinglaw11_IndexStays.raw k a0 a1 a2 a3 a4 a5
theorem althinglaw11_IndexStays_raw (k : Nat) (a0 : List Ty_api_Record.den) (a1 : Ty_api_Record.den) (a2 : Ty_api_Instance.den) (a3 : Ty_api_Command.den) (a4 : Int) (a5 : Ty_api_Deps.den) : althinglaw11_IndexStays k a0 a1 a2 a3 a4 a5 = althinglaw11_IndexStays.raw k a0 a1 a2 a3 a4 a5 := by unfold althinglaw11_IndexStays; rw [sealed_eq]
noncomputable def althinglaw11_IndexStays.c3 (k : Nat) (x0 : List Ty_api_Record.den) (x4 : Int) (b7 : Ty_api_Record.den) (b8 : Ty_api_Instance.den) (b9 : Ty_api_Command.den) (b11 : Ty_api_Deps.den) : Option Bool := runC Alg.std G_althingref03_Over T Try.f5 althinglaw11_IndexStays.cuts althinglaw11_IndexStays.r 3 althinglaw11_IndexStays.s3 k (x0, x4, (), (), (), (), b7, b8, b9, b11, ())
noncomputable def althinglaw11_IndexStays.c8 (k : Nat) (x0 : List Ty_api_Record.den) (x4 : Int) (x13 : Int) (x76 : List Ty_api_Record.den) (x77 : Int) (x78 : Int) (b7 : Ty_api_Record.den) (b8 : Ty_api_Instance.den) (b9 : Ty_api_Command.den) (b11 : Ty_api_Deps.den) (b14 : Ty_api_Deps.den) : Option Bool := runC Alg.std G_althingref03_Over T Try.f5 althinglaw11_IndexStays.cuts althinglaw11_IndexStays.r 8 althinglaw11_IndexStays.s8 k (x0, x4, (), (), (), (), x13, (), x76, x77, x78, b7, b8, b9, b11, b14, ())
noncomputable def G_althinglaw11_IndexStays (k : Nat) : Gam := ins 5 (.pu althinglaw11_IndexStays.ps althinglaw11_IndexStays.r (althinglaw11_IndexStays k)) (G_althingref03_Over k)
theorem ok_althinglaw11_IndexStays : GOk Try.prog G_althinglaw11_IndexStays := ok_althingref03_Over.ins fun k => by rw [show althinglaw11_IndexStays k = althinglaw11_IndexStays.raw k from congrFun (sealed_eq althinglaw11_IndexStays.raw) k]; exact runF_ok tabOk ok_althingref03_Over mix Try.func5 Try.call5 althinglaw11_IndexStays.cuts althinglaw11_IndexStays.ps althinglaw11_IndexStays.r (by rw [Try.ntmps5]; decide) k
def althinglaw11_IndexNoops.s3 : List CK := [.tmp 0 (.sl 44 Ty_api_Record), .tmp 3 Ty.i64, .ptr 6 6 Ty_api_Instance, .ptr 7 7 Ty_api_Command, .ptr 9 9 Ty_api_Deps, .box 6 Ty_api_Instance, .box 7 Ty_api_Command, .box 9 Ty_api_Deps]
def althinglaw11_IndexNoops.s7 : List CK := [.tmp 0 (.sl 44 Ty_api_Record), .tmp 3 Ty.i64, .ptr 6 6 Ty_api_Instance, .ptr 7 7 Ty_api_Command, .ptr 9 9 Ty_api_Deps, .tmp 11 Ty.i64, .ptr 12 12 Ty_api_Deps, .tmp 13 Ty.i64, .ptr 14 14 Ty_api_Deps, .ptr 15 15 Ty_api_Record, .tmp 55 (.sl 44 Ty_api_Record), .tmp 56 Ty.i64, .tmp 57 Ty.i64, .box 6 Ty_api_Instance, .box 7 Ty_api_Command, .box 9 Ty_api_Deps, .box 12 Ty_api_Deps, .box 14 Ty_api_Deps, .box 15 Ty_api_Record]
def althinglaw11_IndexNoops.cuts : List (Nat × List CK) := [(3, althinglaw11_IndexNoops.s3), (7, althinglaw11_IndexNoops.s7)]
abbrev althinglaw11_IndexNoops.ps : List PK := [.val (.sl 44 Ty_api_Record), .val Ty_api_Instance, .val Ty_api_Command, .val Ty.i64, .val Ty_api_Deps]
abbrev althinglaw11_IndexNoops.r : Ty := .bool
noncomputable def althinglaw11_IndexNoops.raw (k : Nat) (a0 : List Ty_api_Record.den) (a1 : Ty_api_Instance.den) (a2 : Ty_api_Command.den) (a3 : Int) (a4 : Ty_api_Deps.den) : Option Bool := runF Alg.std G_althinglaw11_IndexStays T Try.f7 althinglaw11_IndexNoops.cuts althinglaw11_IndexNoops.ps althinglaw11_IndexNoops.r k a0 a1 a2 a3 a4
noncomputable def althinglaw11_IndexNoops (k : Nat) (a0 : List Ty_api_Record.den) (a1 : Ty_api_Instance.den) (a2 : Ty_api_Command.den) (a3 : Int) (a4 : Ty_api_Deps.den) : Option Bool := sealed althinglaw11_IndexNoops.raw k a0 a1 a2 a3 a4
theorem althinglaw11_IndexNoops_raw (k : Nat) (a0 : List Ty_api_Record.den) (a1 : Ty_api_Instance.den) (a2 : Ty_api_Command.den) (a3 : Int) (a4 : Ty_api_Deps.den) : althinglaw11_IndexNoops k a0 a1 a2 a3 a4 = althinglaw11_IndexNoops.raw k a0 a1 a2 a3 a4 := by unfold althinglaw11_IndexNoops; rw [sealed_eq]
noncomputable def althinglaw11_IndexNoops.c3 (k : Nat) (x0 : List Ty_api_Record.den) (x3 : Int) (b6 : Ty_api_Instance.den) (b7 : Ty_api_Command.den) (b9 : Ty_api_Deps.den) : Option Bool := runC Alg.std G_althinglaw11_IndexStays T Try.f7 althinglaw11_IndexNoops.cuts althinglaw11_IndexNoops.r 3 althinglaw11_IndexNoops.s3 k (x0, x3, (), (), (), b6, b7, b9, ())
noncomputable def althinglaw11_IndexNoops.c7 (k : Nat) (x0 : List Ty_api_Record.den) (x3 : Int) (x11 : Int) (x13 : Int) (x55 : List Ty_api_Record.den) (x56 : Int) (x57 : Int) (b6 : Ty_api_Instance.den) (b7 : Ty_api_Command.den) (b9 : Ty_api_Deps.den) (b12 : Ty_api_Deps.den) (b14 : Ty_api_Deps.den) (b15 : Ty_api_Record.den) : Option Bool := runC Alg.std G_althinglaw11_IndexStays T Try.f7 althinglaw11_IndexNoops.cuts althinglaw11_IndexNoops.r 7 althinglaw11_IndexNoops.s7 k (x0, x3, (), (), (), x11, (), x13, (), (), x55, x56, x57, b6, b7, b9, b12, b14, b15, ())
noncomputable def G_althinglaw11_IndexNoops (k : Nat) : Gam := ins 7 (.pu althinglaw11_IndexNoops.ps althinglaw11_IndexNoops.r (althinglaw11_IndexNoops k)) (G_althinglaw11_IndexStays k)
theorem ok_althinglaw11_IndexNoops : GOk Try.prog G_althinglaw11_IndexNoops := ok_althinglaw11_IndexStays.ins fun k => by rw [show althinglaw11_IndexNoops k = althinglaw11_IndexNoops.raw k from congrFun (sealed_eq althinglaw11_IndexNoops.raw) k]; exact runF_ok tabOk ok_althinglaw11_IndexStays mix Try.func7 Try.call7 althinglaw11_IndexNoops.cuts althinglaw11_IndexNoops.ps althinglaw11_IndexNoops.r (by rw [Try.ntmps7]; decide) k
end Go.Proofs.Ytklbmdakoeoplaa.V
end
section
set_option maxHeartbeats 4000000
set_option maxRecDepth 100000
namespace Go.Proofs.Ytklbmdakoeoplaa.V
open Go Go.Vm
theorem althinglaw05_Few_eq (k) (a0) : althinglaw05_Few k a0 = (althinglaw05_Few.c2 k a0 (a0.length : Int) 0) := (althinglaw05_Few_raw k a0).trans (by kernel_rfl)
theorem althinglaw05_Few.c2_eq (k) (x7) (x8) (x9) : althinglaw05_Few.c2 (k + 1) x7 x8 x9 = (bif (decide (x9 < x8)) then (bif (inI x9 x7.length) then (althinglaw05_Few.c5 k 0 x7 x8 x9 (x7.getD x9.toNat (Ty.zero Ty_api_Command))) else none) else (some true)) := by kernel_rfl
theorem althinglaw05_Few.c5_eq (k) (x5) (x7) (x8) (x9) (b4) : althinglaw05_Few.c5 (k + 1) x5 x7 x8 x9 b4 = (bif (decide (x5 < (b4.2.2.2.2.1.length : Int))) then (bif (decide (x5 ≤ 20)) then (althinglaw05_Few.c7 k x5 x7 x8 x9 b4) else (althinglaw05_Few.c10 k 0 x7 x8 x9 b4)) else (althinglaw05_Few.c10 k 0 x7 x8 x9 b4)) := by kernel_rfl
theorem althinglaw05_Few.c7_eq (k) (x5) (x7) (x8) (x9) (b4) : althinglaw05_Few.c7 (k + 1) x5 x7 x8 x9 b4 = (bif (inI x5 b4.2.2.2.2.1.length) then (bif (decide (((b4.2.2.2.2.1.getD x5.toNat (Ty.zero Ty_api_Read)).1.size : Int) > 100)) then (some false) else (althinglaw05_Few.c5 k (IntKind.wrap IntKind.i64 (x5 + 1)) x7 x8 x9 b4)) else none) := by kernel_rfl
theorem althinglaw05_Few.c10_eq (k) (x6) (x7) (x8) (x9) (b4) : althinglaw05_Few.c10 (k + 1) x6 x7 x8 x9 b4 = (bif (decide (x6 < (b4.2.2.2.2.2.1.length : Int))) then (bif (decide (x6 ≤ 20)) then (althinglaw05_Few.c12 k x6 x7 x8 x9 b4) else (althinglaw05_Few.c14 k x7 x8 x9 b4)) else (althinglaw05_Few.c14 k x7 x8 x9 b4)) := by kernel_rfl
theorem althinglaw05_Few.c12_eq (k) (x6) (x7) (x8) (x9) (b4) : althinglaw05_Few.c12 (k + 1) x6 x7 x8 x9 b4 = (bif (inI x6 b4.2.2.2.2.2.1.length) then (bif (decide (((b4.2.2.2.2.2.1.getD x6.toNat (Ty.zero Ty_api_Write)).1.size : Int) > 100)) then (some false) else (bif (inI x6 b4.2.2.2.2.2.1.length) then (bif (decide (((b4.2.2.2.2.2.1.getD x6.toNat (Ty.zero Ty_api_Write)).2.size : Int) > 100)) then (some false) else (althinglaw05_Few.c10 k (IntKind.wrap IntKind.i64 (x6 + 1)) x7 x8 x9 b4)) else none)) else none) := by kernel_rfl
theorem althinglaw05_Few.c14_eq (k) (x7) (x8) (x9) (b4) : althinglaw05_Few.c14 (k + 1) x7 x8 x9 b4 = (bif (decide ((b4.2.2.2.2.1.length : Int) > 20)) then (some false) else (bif (decide ((b4.2.2.2.2.2.1.length : Int) > 20)) then (some false) else (althinglaw05_Few.c2 k x7 x8 (IntKind.wrap IntKind.i64 (x9 + 1))))) := by kernel_rfl
theorem althinglaw11_Few_eq (k) (a0) : althinglaw11_Few k a0 = (althinglaw11_Few.c2 k a0 0) := (althinglaw11_Few_raw k a0).trans (by kernel_rfl)
theorem althinglaw11_Few.c2_eq (k) (x0) (x3) : althinglaw11_Few.c2 (k + 1) x0 x3 = (bif (decide (x3 < (x0.length : Int))) then (bif (decide (x3 ≤ 20)) then (althinglaw11_Few.c4 k x0 x3) else (some (decide ((x0.length : Int) ≤ 20)))) else (some (decide ((x0.length : Int) ≤ 20)))) := by kernel_rfl
theorem althinglaw11_Few.c4_eq (k) (x0) (x3) : althinglaw11_Few.c4 (k + 1) x0 x3 = (bif (inI x3 x0.length) then ((althinglaw05_Few k [(x0.getD x3.toNat (Ty.zero Ty_api_Record)).2.2.2.2.1]).bind fun r0 => (bif (!r0) then (some false) else (althinglaw11_Few.c2 k x0 (IntKind.wrap IntKind.i64 (x3 + 1))))) else none) := by kernel_rfl
theorem althinglaw11_some_eq (k) (a0) : althinglaw11_some k a0 = (some (1, ((0, a0), ((1, 0), (1, ([], ([((⟨#[97]⟩ : ByteArray), (⟨#[]⟩ : ByteArray))], false))))))) := (althinglaw11_some_raw k a0).trans (by kernel_rfl)
theorem deps_is_eq (k) (a0) : deps_is k a0 = (bif (decide (a0.1 ≥ 0)) then (some (decide (a0.1 < 7))) else (some false)) := (deps_is_raw k a0).trans (by kernel_rfl)
theorem deps_With_eq (k) (a0) (a1) : deps_With k a0 a1 = ((deps_is k a1).bind fun r0 => (bif r0 then (bif (inI a1.1 7) then (bif (inI a1.1 7) then (some (a0.set a1.1.toNat (max (a0.getD a1.1.toNat 0) a1.2))) else none) else none) else (some a0))) := (deps_With_raw k a0 a1).trans (by kernel_rfl)
theorem index_Attrs_eq (k) (a0) (a1) (a2) (a3) (a4) : index_Attrs k a0 a1 a2 a3 a4 = ((index_Against k a0 a1 a2).bind fun r0 => (index_Attrs.c2 k a3 r0 (r0.length : Int) 0 a4 (Ty.zero Ty_api_Deps))) := (index_Attrs_raw k a0 a1 a2 a3 a4).trans (by kernel_rfl)
theorem index_Attrs.c2_eq (k) (x3) (x17) (x18) (x19) (b9) (b11) : index_Attrs.c2 (k + 1) x3 x17 x18 x19 b9 b11 = (bif (decide (x19 < x18)) then (bif (inI x19 x17.length) then ((deps_With k b9 (x17.getD x19.toNat (Ty.zero Ty_api_Record)).1).bind fun r0 => (index_Attrs.c2 k (max x3 (IntKind.wrap IntKind.i64 ((min (x17.getD x19.toNat (Ty.zero Ty_api_Record)).2.2.2.2.2.1 1099511627775) + 1))) x17 x18 (IntKind.wrap IntKind.i64 (x19 + 1)) r0 b11)) else none) else (some (x3, b9))) := by kernel_rfl
theorem index_Slot_eq (k) (a0) (a1) : index_Slot k a0 a1 = (index_Slot.c3 k a1 0 a0 (a0.length : Int) 0) := (index_Slot_raw k a0 a1).trans (by kernel_rfl)
theorem index_Slot.c3_eq (k) (x1) (x5) (x8) (x9) (x10) : index_Slot.c3 (k + 1) x1 x5 x8 x9 x10 = (bif (decide (x10 < x9)) then (bif (inI x10 x8.length) then (bif ((x8.getD x10.toNat (Ty.zero Ty_api_Record)).1.1 == x1) then (index_Slot.c3 k x1 (max x5 (min (x8.getD x10.toNat (Ty.zero Ty_api_Record)).1.2 1048576)) x8 x9 (IntKind.wrap IntKind.i64 (x10 + 1))) else (index_Slot.c3 k x1 x5 x8 x9 (IntKind.wrap IntKind.i64 (x10 + 1)))) else none) else (some (IntKind.wrap IntKind.i64 (x5 + 1)))) := by kernel_rfl
theorem althinglaw11_awake_eq (k) : althinglaw11_awake k  = ((althinglaw11_some k 1).bind fun r0 => ((althinglaw11_some k 2).bind fun r1 => ((index_Attrs k [((0, 3), (1, ((Ty.zero Ty_api_Instance), ((Ty.zero Ty_api_Instance), (r0, (5, (Ty.zero (Ty.pair Ty_api_Deps Ty.bool))))))))] (1, 1) r1 1 [0, 0, 0, 0, 0, 0, 0]).bind fun r2 => (bif (r2.1 == 6) then (bif (Ty.beq Ty_api_Deps r2.2 [3, 0, 0, 0, 0, 0, 0]) then ((index_Slot k [((0, 3), (1, ((Ty.zero Ty_api_Instance), ((Ty.zero Ty_api_Instance), (r0, (5, (Ty.zero (Ty.pair Ty_api_Deps Ty.bool))))))))] 0).bind fun r3 => (some (r3 == 4))) else (some false)) else (some false))))) := (althinglaw11_awake_raw k ).trans (by kernel_rfl)
theorem althinglaw11_cloned_eq (k) (a0) : althinglaw11_cloned k a0 = (bif (decide ((0 + a0.2.2.2.2.1.length) < 4294967296)) then (bif (decide ((0 + a0.2.2.2.2.2.1.length) < 4294967296)) then (some (a0.1, (a0.2.1, (a0.2.2.1, (a0.2.2.2.1, (a0.2.2.2.2.1, (a0.2.2.2.2.2.1, a0.2.2.2.2.2.2))))))) else none) else none) := (althinglaw11_cloned_raw k a0).trans (by kernel_rfl)
theorem althinglaw11_own_eq (k) (a0) : althinglaw11_own k a0 = (althinglaw11_own.c3 k [] a0 (a0.length : Int) 0) := (althinglaw11_own_raw k a0).trans (by kernel_rfl)
theorem althinglaw11_own.c3_eq (k) (x3) (x6) (x7) (x8) : althinglaw11_own.c3 (k + 1) x3 x6 x7 x8 = (bif (decide (x8 < x7)) then (bif (inI x8 x6.length) then ((althinglaw11_cloned k (x6.getD x8.toNat (Ty.zero Ty_api_Record)).2.2.2.2.1).bind fun r0 => (bif (decide ((x3.length + 1) < 4294967296)) then (althinglaw11_own.c3 k (x3 ++ [((x6.getD x8.toNat (Ty.zero Ty_api_Record)).1, ((x6.getD x8.toNat (Ty.zero Ty_api_Record)).2.1, ((x6.getD x8.toNat (Ty.zero Ty_api_Record)).2.2.1, ((x6.getD x8.toNat (Ty.zero Ty_api_Record)).2.2.2.1, (r0, (x6.getD x8.toNat (Ty.zero Ty_api_Record)).2.2.2.2.2)))))]) x6 x7 (IntKind.wrap IntKind.i64 (x8 + 1))) else none)) else none) else (some x3)) := by kernel_rfl
theorem althingref11_Last_eq (k) (a0) (a1) : althingref11_Last k a0 a1 = (althingref11_Last.c2 k a0 a1 (IntKind.wrap IntKind.i64 (a1 + 1))) := (althingref11_Last_raw k a0 a1).trans (by kernel_rfl)
theorem althingref11_Last.c2_eq (k) (x0) (x1) (x5) : althingref11_Last.c2 (k + 1) x0 x1 x5 = (bif (decide (x5 < (x0.length : Int))) then (bif (inI x5 x0.length) then (bif (inI x1 x0.length) then (bif (Ty.beq Ty_api_Instance (x0.getD x5.toNat (Ty.zero Ty_api_Record)).1 (x0.getD x1.toNat (Ty.zero Ty_api_Record)).1) then (some false) else (althingref11_Last.c2 k x0 x1 (IntKind.wrap IntKind.i64 (x5 + 1)))) else none) else none) else (some true)) := by kernel_rfl
theorem althingref05_Keys_eq (k) (a0) : althingref05_Keys k a0 = (althingref05_Keys.c3 k [] 0 a0) := (althingref05_Keys_raw k a0).trans (by kernel_rfl)
theorem althingref05_Keys.c3_eq (k) (x3) (x4) (b1) : althingref05_Keys.c3 (k + 1) x3 x4 b1 = (bif (decide (x4 < (b1.2.2.2.2.1.length : Int))) then (bif (inI x4 b1.2.2.2.2.1.length) then (bif (decide ((x3.length + 1) < 4294967296)) then (althingref05_Keys.c3 k (x3 ++ [(b1.2.2.2.2.1.getD x4.toNat (Ty.zero Ty_api_Read)).1]) (IntKind.wrap IntKind.i64 (x4 + 1)) b1) else none) else none) else (althingref05_Keys.c7 k x3 0 b1)) := by kernel_rfl
theorem althingref05_Keys.c7_eq (k) (x3) (x5) (b1) : althingref05_Keys.c7 (k + 1) x3 x5 b1 = (bif (decide (x5 < (b1.2.2.2.2.2.1.length : Int))) then (bif (inI x5 b1.2.2.2.2.2.1.length) then (bif (decide ((x3.length + 1) < 4294967296)) then (althingref05_Keys.c7 k (x3 ++ [(b1.2.2.2.2.2.1.getD x5.toNat (Ty.zero Ty_api_Write)).1]) (IntKind.wrap IntKind.i64 (x5 + 1)) b1) else none) else none) else ((althingref04_Join k x3 []).bind fun r0 => (some r0))) := by kernel_rfl
theorem althingref04_In_eq (k) (a0) (a1) : althingref04_In k a0 a1 = (althingref04_In.c2 k a0 a1 0) := (althingref04_In_raw k a0 a1).trans (by kernel_rfl)
theorem althingref04_In.c2_eq (k) (x0) (x1) (x5) : althingref04_In.c2 (k + 1) x0 x1 x5 = (bif (decide (x5 < (x0.length : Int))) then (bif (inI x5 x0.length) then (bif (decide ((x0.getD x5.toNat (⟨#[]⟩ : ByteArray)) = x1)) then (some true) else (althingref04_In.c2 k x0 x1 (IntKind.wrap IntKind.i64 (x5 + 1)))) else none) else (some false)) := by kernel_rfl
theorem althingref05_Interfere_eq (k) (a0) (a1) : althingref05_Interfere k a0 a1 = (bif (a0.1 == 0) then (some false) else (bif (a1.1 == 0) then (some false) else (althingref05_Interfere.c3 k a0 a1))) := (althingref05_Interfere_raw k a0 a1).trans (by kernel_rfl)
theorem althingref05_Interfere.c3_eq (k) (b2) (b3) : althingref05_Interfere.c3 (k + 1) b2 b3 = (bif (Ty.beq Ty_api_Instance b2.2.1 b3.2.1) then (some true) else ((althingref05_Keys k b2).bind fun r0 => ((althingref05_Keys k b3).bind fun r1 => (althingref05_Interfere.c8 k r0 r1 0)))) := by kernel_rfl
theorem althingref05_Interfere.c8_eq (k) (x5) (x6) (x7) : althingref05_Interfere.c8 (k + 1) x5 x6 x7 = (bif (decide (x7 < (x5.length : Int))) then (bif (inI x7 x5.length) then ((althingref04_In k x6 (x5.getD x7.toNat (⟨#[]⟩ : ByteArray))).bind fun r0 => (bif r0 then (some true) else (althingref05_Interfere.c8 k x5 x6 (IntKind.wrap IntKind.i64 (x7 + 1))))) else none) else (some false)) := by kernel_rfl
theorem althingref11_Against_eq (k) (a0) (a1) (a2) : althingref11_Against k a0 a1 a2 = (althingref11_Against.c3 k a0 [] 0 a1 a2) := (althingref11_Against_raw k a0 a1 a2).trans (by kernel_rfl)
theorem althingref11_Against.c3_eq (k) (x0) (x7) (x8) (b4) (b5) : althingref11_Against.c3 (k + 1) x0 x7 x8 b4 b5 = (bif (decide (x8 < (x0.length : Int))) then ((althingref11_Last k x0 x8).bind fun r0 => (bif r0 then (bif (inI x8 x0.length) then (bif (!(Ty.beq Ty_api_Instance (x0.getD x8.toNat (Ty.zero Ty_api_Record)).1 b4)) then (bif (inI x8 x0.length) then (bif (decide ((x0.getD x8.toNat (Ty.zero Ty_api_Record)).2.1 > 0)) then (bif (inI x8 x0.length) then ((althingref05_Interfere k (x0.getD x8.toNat (Ty.zero Ty_api_Record)).2.2.2.2.1 b5).bind fun r1 => (bif r1 then (althingref11_Against.c6 k x0 x7 x8 b4 b5) else (althingref11_Against.c4 k x0 x7 x8 b4 b5))) else none) else (althingref11_Against.c4 k x0 x7 x8 b4 b5)) else none) else (althingref11_Against.c4 k x0 x7 x8 b4 b5)) else none) else (althingref11_Against.c4 k x0 x7 x8 b4 b5))) else (some x7)) := by kernel_rfl
theorem althingref11_Against.c6_eq (k) (x0) (x7) (x8) (b4) (b5) : althingref11_Against.c6 (k + 1) x0 x7 x8 b4 b5 = (bif (inI x8 x0.length) then (bif (decide ((x7.length + 1) < 4294967296)) then (althingref11_Against.c4 k x0 (x7 ++ [(x0.getD x8.toNat (Ty.zero Ty_api_Record))]) x8 b4 b5) else none) else none) := by kernel_rfl
theorem althingref11_Against.c4_eq (k) (x0) (x7) (x8) (b4) (b5) : althingref11_Against.c4 (k + 1) x0 x7 x8 b4 b5 = (althingref11_Against.c3 k x0 x7 (IntKind.wrap IntKind.i64 (x8 + 1)) b4 b5) := by kernel_rfl
theorem althingref03_With_eq (k) (a0) (a1) : althingref03_With k a0 a1 = (althingref03_With.c2 k 0 a0 a1 (Ty.zero Ty_api_Deps)) := (althingref03_With_raw k a0 a1).trans (by kernel_rfl)
theorem althingref03_With.c2_eq (k) (x5) (b2) (b3) (b4) : althingref03_With.c2 (k + 1) x5 b2 b3 b4 = (bif (decide (x5 < 7)) then (bif (b3.1 == x5) then (bif (inI x5 7) then (bif (decide (b3.2 > (b2.getD x5.toNat 0))) then (bif (inI x5 7) then (althingref03_With.c3 k x5 (b2.set x5.toNat b3.2) b3 b4) else none) else (althingref03_With.c3 k x5 b2 b3 b4)) else none) else (althingref03_With.c3 k x5 b2 b3 b4)) else (some b2)) := by kernel_rfl
theorem althingref03_With.c3_eq (k) (x5) (b2) (b3) (b4) : althingref03_With.c3 (k + 1) x5 b2 b3 b4 = (althingref03_With.c2 k (IntKind.wrap IntKind.i64 (x5 + 1)) b2 b3 b4) := by kernel_rfl
theorem althingref11_Attrs_eq (k) (a0) (a1) (a2) (a3) (a4) : althingref11_Attrs k a0 a1 a2 a3 a4 = ((althingref11_Against k a0 a1 a2).bind fun r0 => (althingref11_Attrs.c3 k a3 r0 0 a4 (Ty.zero Ty_api_Deps))) := (althingref11_Attrs_raw k a0 a1 a2 a3 a4).trans (by kernel_rfl)
theorem althingref11_Attrs.c3_eq (k) (x3) (x12) (x13) (b9) (b11) : althingref11_Attrs.c3 (k + 1) x3 x12 x13 b9 b11 = (bif (decide (x13 < (x12.length : Int))) then (bif (inI x13 x12.length) then (bif (decide ((x12.getD x13.toNat (Ty.zero Ty_api_Record)).2.2.2.2.2.1 < 1099511627776)) then (althingref11_Attrs.c9 k x3 x12 x13 (IntKind.wrap IntKind.i64 ((x12.getD x13.toNat (Ty.zero Ty_api_Record)).2.2.2.2.2.1 + 1)) b9 b11) else (althingref11_Attrs.c9 k x3 x12 x13 1099511627776 b9 b11)) else none) else (some (x3, b9))) := by kernel_rfl
theorem althingref11_Attrs.c9_eq (k) (x3) (x12) (x13) (x14) (b9) (b11) : althingref11_Attrs.c9 (k + 1) x3 x12 x13 x14 b9 b11 = (bif (decide (x14 > x3)) then (althingref11_Attrs.c11 k x14 x12 x13 b9 b11) else (althingref11_Attrs.c11 k x3 x12 x13 b9 b11)) := by kernel_rfl
theorem althingref11_Attrs.c11_eq (k) (x3) (x12) (x13) (b9) (b11) : althingref11_Attrs.c11 (k + 1) x3 x12 x13 b9 b11 = (bif (inI x13 x12.length) then ((althingref03_With k b9 (x12.getD x13.toNat (Ty.zero Ty_api_Record)).1).bind fun r0 => (althingref11_Attrs.c3 k x3 x12 (IntKind.wrap IntKind.i64 (x13 + 1)) r0 b11)) else none) := by kernel_rfl
theorem althinglaw11_IndexAttrs_eq (k) (a0) (a1) (a2) (a3) (a4) : althinglaw11_IndexAttrs k a0 a1 a2 a3 a4 = ((althinglaw11_Few k a0).bind fun r0 => (bif (!r0) then ((althinglaw11_awake k).bind fun r1 => (some r1)) else ((althinglaw05_Few k [a2]).bind fun r1 => (bif (!r1) then ((althinglaw11_awake k).bind fun r2 => (some r2)) else (althinglaw11_IndexAttrs.c3 k a0 a3 a1 a2 a4))))) := (althinglaw11_IndexAttrs_raw k a0 a1 a2 a3 a4).trans (by kernel_rfl)
theorem althinglaw11_IndexAttrs.c3_eq (k) (x0) (x3) (b6) (b7) (b9) : althinglaw11_IndexAttrs.c3 (k + 1) x0 x3 b6 b7 b9 = ((althinglaw11_own k x0).bind fun r0 => ((index_Attrs k r0 b6 b7 x3 b9).bind fun r1 => ((althingref11_Attrs k x0 b6 b7 x3 b9).bind fun r2 => (bif (r1.1 == r2.1) then (bif (Ty.beq Ty_api_Deps r1.2 r2.2) then ((althinglaw11_awake k).bind fun r3 => (some r3)) else (some false)) else (some false))))) := by kernel_rfl
theorem althingref03_Over_eq (k) (a0) (a1) : althingref03_Over k a0 a1 = (althingref03_Over.c2 k 0 a0 a1) := (althingref03_Over_raw k a0 a1).trans (by kernel_rfl)
theorem althingref03_Over.c2_eq (k) (x5) (b2) (b3) : althingref03_Over.c2 (k + 1) x5 b2 b3 = (bif (decide (x5 < 7)) then (bif (inI x5 7) then (bif (inI x5 7) then (bif (decide ((b2.getD x5.toNat 0) < (b3.getD x5.toNat 0))) then (some false) else (althingref03_Over.c2 k (IntKind.wrap IntKind.i64 (x5 + 1)) b2 b3)) else none) else none) else (some true)) := by kernel_rfl
theorem althinglaw11_IndexStays_eq (k) (a0) (a1) (a2) (a3) (a4) (a5) : althinglaw11_IndexStays k a0 a1 a2 a3 a4 a5 = ((althinglaw11_Few k a0).bind fun r0 => (bif (!r0) then ((althinglaw11_awake k).bind fun r1 => (some r1)) else ((althinglaw11_Few k [a1]).bind fun r1 => (bif (!r1) then ((althinglaw11_awake k).bind fun r2 => (some r2)) else ((althinglaw05_Few k [a3]).bind fun r2 => (bif (!r2) then ((althinglaw11_awake k).bind fun r3 => (some r3)) else (althinglaw11_IndexStays.c3 k a0 a4 a1 a2 a3 a5))))))) := (althinglaw11_IndexStays_raw k a0 a1 a2 a3 a4 a5).trans (by kernel_rfl)
theorem althinglaw11_IndexStays.c3_eq (k) (x0) (x4) (b7) (b8) (b9) (b11) : althinglaw11_IndexStays.c3 (k + 1) x0 x4 b7 b8 b9 b11 = ((althinglaw11_own k x0).bind fun r0 => ((index_Attrs k r0 b8 b9 x4 b11).bind fun r1 => ((althinglaw11_own k x0).bind fun r2 => ((index_Attrs k r2 b8 b9 r1.1 r1.2).bind fun r3 => (bif (decide (r1.1 < x4)) then (some false) else ((althingref03_Over k r1.2 b11).bind fun r4 => (bif (!r4) then (some false) else (bif (r3.1 != r1.1) then (some false) else (bif (!(Ty.beq Ty_api_Deps r3.2 r1.2)) then (some false) else (althinglaw11_IndexStays.c8 k x0 x4 r1.1 x0 (x0.length : Int) 0 b7 b8 b9 b11 r1.2)))))))))) := by kernel_rfl
theorem althinglaw11_IndexStays.c8_eq (k) (x0) (x4) (x13) (x76) (x77) (x78) (b7) (b8) (b9) (b11) (b14) : althinglaw11_IndexStays.c8 (k + 1) x0 x4 x13 x76 x77 x78 b7 b8 b9 b11 b14 = (bif (decide (x78 < x77)) then (bif (inI x78 x76.length) then (bif (Ty.beq Ty_api_Instance (x76.getD x78.toNat (Ty.zero Ty_api_Record)).1 b7.1) then ((althinglaw11_awake k).bind fun r0 => (some r0)) else (althinglaw11_IndexStays.c8 k x0 x4 x13 x76 x77 (IntKind.wrap IntKind.i64 (x78 + 1)) b7 b8 b9 b11 b14)) else none) else ((althinglaw11_own k x0).bind fun r0 => (bif (decide ((r0.length + 1) < 4294967296)) then ((index_Attrs k (r0 ++ [b7]) b8 b9 x4 b11).bind fun r1 => (bif (decide (r1.1 ≥ x13)) then ((althingref03_Over k r1.2 b14).bind fun r2 => (bif r2 then ((althinglaw11_awake k).bind fun r3 => (some r3)) else (some false))) else (some false))) else none))) := by kernel_rfl
theorem althinglaw11_IndexNoops_eq (k) (a0) (a1) (a2) (a3) (a4) : althinglaw11_IndexNoops k a0 a1 a2 a3 a4 = ((althinglaw11_Few k a0).bind fun r0 => (bif (!r0) then ((althinglaw11_awake k).bind fun r1 => (some r1)) else (bif (decide ((a0.length : Int) > 19)) then ((althinglaw11_awake k).bind fun r1 => (some r1)) else ((althinglaw05_Few k [a2]).bind fun r1 => (bif (!r1) then ((althinglaw11_awake k).bind fun r2 => (some r2)) else (althinglaw11_IndexNoops.c3 k a0 a3 a1 a2 a4)))))) := (althinglaw11_IndexNoops_raw k a0 a1 a2 a3 a4).trans (by kernel_rfl)
theorem althinglaw11_IndexNoops.c3_eq (k) (x0) (x3) (b6) (b7) (b9) : althinglaw11_IndexNoops.c3 (k + 1) x0 x3 b6 b7 b9 = ((index_Attrs k x0 b6 (Ty.zero (Ty.pair Ty.i64 (Ty.pair Ty_api_Instance (Ty.pair Ty_api_Instance (Ty.pair Ty.i64 (Ty.pair (Ty.sl 61 Ty_api_Read) (Ty.pair (Ty.sl 46 Ty_api_Write) Ty.bool))))))) x3 b9).bind fun r0 => ((index_Attrs k x0 b6 b7 x3 b9).bind fun r1 => (althinglaw11_IndexNoops.c7 k x0 x3 r0.1 r1.1 x0 (x0.length : Int) 0 b6 b7 b9 r0.2 r1.2 ((6, 524288), (3, ((Ty.zero Ty_api_Instance), ((Ty.zero Ty_api_Instance), ((Ty.zero Ty_api_Command), (99, (Ty.zero (Ty.pair Ty_api_Deps Ty.bool))))))))))) := by kernel_rfl
theorem althinglaw11_IndexNoops.c7_eq (k) (x0) (x3) (x11) (x13) (x55) (x56) (x57) (b6) (b7) (b9) (b12) (b14) (b15) : althinglaw11_IndexNoops.c7 (k + 1) x0 x3 x11 x13 x55 x56 x57 b6 b7 b9 b12 b14 b15 = (bif (decide (x57 < x56)) then (bif (inI x57 x55.length) then (bif (Ty.beq Ty_api_Instance (x55.getD x57.toNat (Ty.zero Ty_api_Record)).1 b15.1) then ((althinglaw11_awake k).bind fun r0 => (some r0)) else (althinglaw11_IndexNoops.c7 k x0 x3 x11 x13 x55 x56 (IntKind.wrap IntKind.i64 (x57 + 1)) b6 b7 b9 b12 b14 b15)) else none) else ((althinglaw11_own k x0).bind fun r0 => (bif (decide ((r0.length + 1) < 4294967296)) then ((index_Attrs k (r0 ++ [b15]) b6 b7 x3 b9).bind fun r1 => (bif (x11 == x3) then (bif (Ty.beq Ty_api_Deps b12 b9) then (bif (r1.1 == x13) then (bif (Ty.beq Ty_api_Deps r1.2 b14) then ((althinglaw11_awake k).bind fun r2 => (some r2)) else (some false)) else (some false)) else (some false)) else (some false))) else none))) := by kernel_rfl
end Go.Proofs.Ytklbmdakoeoplaa.V
end
section
namespace Go.Proofs.Ytklbmdakoeoplaa.V
open Go Go.Vm Go.Proofs.Ytklbmdakoeoplaa.Strs
set_option linter.unusedVariables false
set_option linter.unusedSimpArgs false
def fewR (l : List Rc) : Prop := l.length ≤ 100 ∧ ∀ x ∈ l, small x.2.2.2.2.1
def sameI (x o : Rc) : Bool := Ty.beq Ty_api_Instance o.1 x.1
def knownV : List Rc → List Rc
  | [] => []
  | x :: l => if l.any (sameI x) = true then knownV l else x :: knownV l
theorem knownV_sub : ∀ l, (knownV l).Sublist l
  | [] => .slnil
  | x :: l => by
    unfold knownV
    split
    · exact (knownV_sub l).cons x
    · exact (knownV_sub l).cons_cons x
theorem fewR_sub {l l' : List Rc} (hs : l'.Sublist l) (h : fewR l) : fewR l' := ⟨Nat.le_trans hs.length_le h.1, fun x hx => h.2 x (hs.subset hx)⟩
theorem containsF_at (l : List Rc) (f1 : Rc → Option Bool) (p : Rc → Bool) (hl : l.length ≤ 1000000) (h : ∀ x ∈ l, f1 x = some (p x)) (k : Nat) (hk : l.length < k) : slices_ContainsFunc_api_Record_api_Record k l f1 = some (l.any p) := by
  rw [slices_ContainsFunc_api_Record_api_Record_eq, slices_IndexFunc_api_Record_api_Record_eq]
  have := search_at l (fun j i => slices_IndexFunc_api_Record_api_Record.c2 j l f1 (l.length : Int) i) p (fun i => (i : Int)) (-1)
    (fun k => by rw [slices_IndexFunc_api_Record_api_Record.c2_eq, lt_ff (Nat.lt_irrefl _)]; rfl)
    (fun j i hi => by rw [slices_IndexFunc_api_Record_api_Record.c2_eq, lt_tt hi, inI_tt hi, getD_at hi, wrap_at (by omega), h _ (List.getElem_mem hi)]; rfl) l.length 0 (by omega) k hk
  rw [show ((0 : Nat) : Int) = 0 from rfl] at this
  rw [this, List.drop_zero]
  simp only [Nat.zero_add]
  show some (decide (idxOf p l ≥ 0)) = _
  rw [idxOf_any]
theorem slice_at (l : List Rc) (i : Nat) (hi : i < l.length) : sliceL l ((i + 1 : Nat) : Int) (l.length : Int) = l.drop (i + 1) := by
  unfold sliceL
  rw [Int.toNat_natCast, Int.toNat_natCast, List.take_length]
theorem clone_at (c : Cm) (h : small c) (k : Nat) : command_Clone k c = some c := by
  rw [command_Clone_eq, lt32 (by have := h.1; omega), lt32 (by have := h.2.1; omega)]; rfl
theorem known_c (l : List Rc) (h : fewR l) : ∀ d i (acc : List Rc), i + d = l.length → acc.length ≤ i → Ev (fun k => index_Known.c3 k l acc l (l.length : Int) (i : Int)) (acc ++ knownV (l.drop i))
  | 0, i, acc, hi, ha => by
    obtain rfl : i = l.length := by omega
    rw [List.drop_length, knownV, List.append_nil]
    exact Ev.step (fun k => by rw [index_Known.c3_eq, lt_ff (Nat.lt_irrefl _)]; rfl) (Ev.some acc)
  | d + 1, i, acc, hi, ha => by
    have hil : i < l.length := by omega
    have hl := h.1
    have hs := h.2 _ (List.getElem_mem hil)
    rw [drop_at hil, knownV]
    refine Ev.step (f := fun k => (slices_ContainsFunc_api_Record_api_Record k (l.drop (i + 1)) (fun x => index_Known_1 k x l[i])).bind fun r0 => bif !r0 then (command_Clone k l[i].2.2.2.2.1).bind (fun r1 => index_Known.c3 k l (acc ++ [(l[i].1, l[i].2.1, l[i].2.2.1, l[i].2.2.2.1, r1, l[i].2.2.2.2.2)]) l (l.length : Int) ((i + 1 : Nat) : Int)) else index_Known.c3 k l acc l (l.length : Int) ((i + 1 : Nat) : Int)) (fun k => ?_) ?_
    · rw [index_Known.c3_eq, lt_tt hil, inI_tt hil, getD_at hil, wrap_at (by omega), slice_at l i hil, lt32 (by omega), decide_eq_true (show (0 : Int) ≤ ((i + 1 : Nat) : Int) by omega), decide_eq_true (show ((i + 1 : Nat) : Int) ≤ (l.length : Int) by omega), decide_eq_true (Int.le_refl _)]; rfl
    · refine Ev.bind (a := (l.drop (i + 1)).any (sameI l[i])) ⟨l.length + 1, fun k hk => containsF_at _ _ _ (by rw [List.length_drop]; omega) (fun x hx => index_Known_1_eq k x l[i]) k (by rw [List.length_drop]; omega)⟩ ?_
      cases hc : (l.drop (i + 1)).any (sameI l[i]) with
      | true =>
        rw [if_pos rfl]
        exact known_c l h d (i + 1) acc (by omega) (by omega)
      | false =>
        rw [if_neg (by simp)]
        have ih := known_c l h d (i + 1) (acc ++ [l[i]]) (by omega) (by rw [List.length_append, List.length_singleton]; omega)
        rw [List.append_assoc, List.singleton_append] at ih
        exact Ev.congr (fun k => by rw [clone_at _ hs]; rfl) ih
theorem known_ev (l : List Rc) (h : fewR l) : Ev (fun k => index_Known k l) (knownV l) := by
  have := known_c l h l.length 0 [] (by omega) (by simp)
  refine Ev.congr (fun k => index_Known_eq k l) ?_
  simpa using this
theorem filt_ev {α : Type} {g : Nat → α → Option Bool} {p : α → Bool} : ∀ xs : List α, (∀ x ∈ xs, Ev (fun k => g k x) (p x)) → Ev (fun k => filt (g k) xs) (xs.filter fun x => !p x)
  | [], _ => Ev.some _
  | x :: xs, h => by
    have := Ev.bind (h x (by simp)) (h := fun k b => (filt (g k) xs).bind fun r => some (bif b then r else x :: r)) (Ev.bind (filt_ev xs (fun y hy => h y (List.mem_cons_of_mem _ hy))) (Ev.some _))
    refine Ev.congr (fun k => rfl) (?_ : Ev (fun k => (g k x).bind fun b => (filt (g k) xs).bind fun r => some (bif b then r else x :: r)) _)
    rw [List.filter_cons]
    cases hp : p x
    · rw [hp] at this; exact this
    · rw [hp] at this; exact this
def outV (i : In) (c : Cm) (x : Rc) : Bool := Ty.beq Ty_api_Instance x.1 i || (decide (x.2.1 ≤ 0) || !interV x.2.2.2.2.1 c)
def againstV (l : List Rc) (i : In) (c : Cm) : List Rc := (knownV l).filter fun x => !outV i c x
theorem out_ev (i : In) (c : Cm) (hc : small c) (x : Rc) (hx : small x.2.2.2.2.1) : Ev (fun k => index_Against_1 k x i c) (outV i c x) := by
  refine Ev.congr (fun k => index_Against_1_eq k x i c) ?_
  unfold outV
  cases h1 : Ty.beq Ty_api_Instance x.1 i with
  | true => exact Ev.some _
  | false =>
    refine Ev.bif_ff rfl ?_
    cases h2 : decide (x.2.1 ≤ 0) with
    | true => exact Ev.some _
    | false => exact Ev.bif_ff rfl (Ev.bind (inter_ev _ c hx hc) (Ev.some _))
theorem against_ev (l : List Rc) (h : fewR l) (i : In) (c : Cm) (hc : small c) : Ev (fun k => index_Against k l i c) (againstV l i c) := by
  unfold index_Against
  refine Ev.bind (known_ev l h) (Ev.bif_tt (decide_eq_true (by have := (knownV_sub l).length_le; have := h.1; omega)) (filt_ev _ fun x hx => out_ev i c hc x (h.2 x ((knownV_sub l).subset hx))))
abbrev Dp := Ty_api_Deps.den
def withV (d : Dp) (i : In) : Dp := bif inI i.1 7 then List.set d (Int.toNat i.1) (max (List.getD d (Int.toNat i.1) 0) i.2) else d
theorem with_at (k : Nat) (d : Dp) (i : In) : deps_With k d i = some (withV d i) := by
  rw [deps_With_eq, deps_is_eq]
  unfold withV inI
  by_cases h1 : (i.1 : Int) ≥ 0
  · by_cases h2 : (i.1 : Int) < 7
    · simp [h1, h2]
    · simp [h1, h2]
  · simp [h1]
def attrStep (s : Int × Dp) (x : Rc) : Int × Dp := (max s.1 (IntKind.wrap .i64 (min x.2.2.2.2.2.1 1099511627775 + 1)), withV s.2 x.1)
def attrsV (l : List Rc) (i : In) (c : Cm) (seq : Int) (d : Dp) : Int × Dp := (againstV l i c).foldl attrStep (seq, d)
theorem againstV_sub (l : List Rc) (i : In) (c : Cm) : (againstV l i c).Sublist l := List.filter_sublist.trans (knownV_sub l)
theorem attrs_ev (l : List Rc) (h : fewR l) (i : In) (c : Cm) (hc : small c) (seq : Int) (d : Dp) : Ev (fun k => index_Attrs k l i c seq d) (attrsV l i c seq d) := by
  refine Ev.congr (fun k => index_Attrs_eq k l i c seq d) (Ev.bind (against_ev l h i c hc) ?_)
  have hl := (againstV_sub l i c).length_le
  have h1 := h.1
  unfold attrsV
  generalize againstV l i c = al at hl ⊢
  have := Ev.fold0 al (fun k (s : Int × Dp) j => index_Attrs.c2 k s.1 al (al.length : Int) j s.2 (Ty.zero Ty_api_Deps)) attrStep id (fun _ _ => True) (seq, d) trivial
    (fun s _ => Ev.step (f := fun _ => some s) (fun k => by rw [index_Attrs.c2_eq, lt_ff (Nat.lt_irrefl _)]; rfl) (Ev.some s))
    (fun j s hj _ => ⟨trivial, fun r hr => Ev.step (fun k => by
      rw [index_Attrs.c2_eq, lt_tt hj, inI_tt hj, getD_at hj, wrap_at (by omega), with_at]; rfl) hr⟩)
  exact this
theorem own_ev (l : List Rc) (h : fewR l) : Ev (fun k => althinglaw11_own k l) l := by
  refine Ev.congr (fun k => althinglaw11_own_eq k l) ?_
  have h1 := h.1
  have := Ev.fold0 l (fun k s j => althinglaw11_own.c3 k s l (l.length : Int) j) (fun s x => s ++ [x]) id (fun i s => s.length = i) [] rfl
    (fun s _ => Ev.step (fun k => by rw [althinglaw11_own.c3_eq, lt_ff (Nat.lt_irrefl _)]; rfl) (Ev.some s))
    (fun j s hj hs => ⟨by simp [hs], fun r hr => Ev.step (fun k => by
      have hsm := h.2 _ (List.getElem_mem hj)
      rw [althinglaw11_own.c3_eq, lt_tt hj, inI_tt hj, getD_at hj, wrap_at (by omega), althinglaw11_cloned_eq, lt32 (by have := hsm.1; omega), lt32 (by have := hsm.2.1; omega), lt32 (by omega)]; rfl) hr⟩)
  rw [foldl_app (fun x => x)] at this
  simpa using this
end Go.Proofs.Ytklbmdakoeoplaa.V
end
section
namespace Go.Proofs.Ytklbmdakoeoplaa.V
open Go Go.Vm Go.Proofs.Ytklbmdakoeoplaa.Strs
set_option linter.unusedVariables false
set_option linter.unusedSimpArgs false
section
variable (l : List Cm) (n j : Int) (c : Cm) (P : Prop)
theorem few_c14 (hn : ∃ q, Ev (fun k => althinglaw05_Few.c2 k l n (IntKind.wrap .i64 (j + 1))) q ∧ (q = true → P)) : ∃ q, Ev (fun k => althinglaw05_Few.c14 k l n j c) q ∧ (q = true → P ∧ c.2.2.2.2.1.length ≤ 20 ∧ c.2.2.2.2.2.1.length ≤ 20) := by
  cases h1 : decide ((c.2.2.2.2.1.length : Int) > 20) with
  | true => exact ⟨false, Ev.step (f := fun _ => some false) (fun k => by rw [althinglaw05_Few.c14_eq, h1]; rfl) (Ev.some _), fun e => by cases e⟩
  | false =>
    cases h2 : decide ((c.2.2.2.2.2.1.length : Int) > 20) with
    | true => exact ⟨false, Ev.step (f := fun _ => some false) (fun k => by rw [althinglaw05_Few.c14_eq, h1, h2]; rfl) (Ev.some _), fun e => by cases e⟩
    | false =>
      obtain ⟨q, hq, hp⟩ := hn
      have h1' := of_decide_eq_false h1
      have h2' := of_decide_eq_false h2
      exact ⟨q, Ev.step (fun k => by rw [althinglaw05_Few.c14_eq, h1, h2]; rfl) hq, fun e => ⟨hp e, by omega, by omega⟩⟩
theorem few_c10 (hn : ∃ q, Ev (fun k => althinglaw05_Few.c2 k l n (IntKind.wrap .i64 (j + 1))) q ∧ (q = true → P)) : ∀ dd i, i + dd = min c.2.2.2.2.2.1.length 21 → ∃ q, Ev (fun k => althinglaw05_Few.c10 k (i : Int) l n j c) q ∧ (q = true → P ∧ c.2.2.2.2.1.length ≤ 20 ∧ c.2.2.2.2.2.1.length ≤ 20 ∧ ∀ x ∈ c.2.2.2.2.2.1.drop i, x.1.size ≤ 100 ∧ x.2.size ≤ 100)
  | 0, i, hi => by
    obtain ⟨q, hq, hp⟩ := few_c14 l n j c P hn
    refine ⟨q, Ev.step (fun k => ?_) hq, fun e => ⟨(hp e).1, (hp e).2.1, (hp e).2.2, fun x hx => ?_⟩⟩
    · rw [althinglaw05_Few.c10_eq]
      by_cases h1 : i < c.2.2.2.2.2.1.length
      · rw [lt_tt h1, decide_eq_false (show ¬ ((i : Int) ≤ 20) by omega)]; rfl
      · rw [lt_ff h1]; rfl
    · have := (hp e).2.2
      rw [List.drop_eq_nil_of_le (by omega)] at hx
      cases hx
  | dd + 1, i, hi => by
    have hil : i < c.2.2.2.2.2.1.length := by omega
    refine (?_ : ∃ q, Ev (fun k => althinglaw05_Few.c12 k (i : Int) l n j c) q ∧ _).elim fun q hq => ⟨q, Ev.step (fun k => by rw [althinglaw05_Few.c10_eq, lt_tt hil, decide_eq_true (show (i : Int) ≤ 20 by omega)]; rfl) hq.1, hq.2⟩
    cases h1 : decide ((c.2.2.2.2.2.1[i].1.size : Int) > 100) with
    | true => exact ⟨false, Ev.step (f := fun _ => some false) (fun k => by rw [althinglaw05_Few.c12_eq, inI_tt hil, getD_at hil, h1]; rfl) (Ev.some _), fun e => by cases e⟩
    | false =>
      cases h2 : decide ((c.2.2.2.2.2.1[i].2.size : Int) > 100) with
      | true => exact ⟨false, Ev.step (f := fun _ => some false) (fun k => by rw [althinglaw05_Few.c12_eq, inI_tt hil, getD_at hil, h1, h2]; rfl) (Ev.some _), fun e => by cases e⟩
      | false =>
        obtain ⟨q, hq, hp⟩ := few_c10 hn dd (i + 1) (by omega)
        have h1' := of_decide_eq_false h1
        have h2' := of_decide_eq_false h2
        refine ⟨q, Ev.step (fun k => by rw [althinglaw05_Few.c12_eq, inI_tt hil, getD_at hil, h1, h2, wrap_at (by omega)]; rfl) hq, fun e => ⟨(hp e).1, (hp e).2.1, (hp e).2.2.1, fun x hx => ?_⟩⟩
        rw [drop_at hil] at hx
        rcases List.mem_cons.1 hx with rfl | hx
        · exact ⟨by omega, by omega⟩
        · exact (hp e).2.2.2 x hx
theorem few_c5 (hn : ∃ q, Ev (fun k => althinglaw05_Few.c2 k l n (IntKind.wrap .i64 (j + 1))) q ∧ (q = true → P)) : ∀ dd i, i + dd = min c.2.2.2.2.1.length 21 → ∃ q, Ev (fun k => althinglaw05_Few.c5 k (i : Int) l n j c) q ∧ (q = true → P ∧ c.2.2.2.2.1.length ≤ 20 ∧ c.2.2.2.2.2.1.length ≤ 20 ∧ (∀ x ∈ c.2.2.2.2.1.drop i, x.1.size ≤ 100) ∧ ∀ x ∈ c.2.2.2.2.2.1, x.1.size ≤ 100 ∧ x.2.size ≤ 100)
  | 0, i, hi => by
    obtain ⟨q, hq, hp⟩ := few_c10 l n j c P hn (min c.2.2.2.2.2.1.length 21) 0 (by omega)
    refine ⟨q, Ev.step (fun k => ?_) hq, fun e => ⟨(hp e).1, (hp e).2.1, (hp e).2.2.1, fun x hx => ?_, by simpa using (hp e).2.2.2⟩⟩
    · rw [althinglaw05_Few.c5_eq]
      by_cases h1 : i < c.2.2.2.2.1.length
      · rw [lt_tt h1, decide_eq_false (show ¬ ((i : Int) ≤ 20) by omega)]; rfl
      · rw [lt_ff h1]; rfl
    · have := (hp e).2.1
      rw [List.drop_eq_nil_of_le (by omega)] at hx
      cases hx
  | dd + 1, i, hi => by
    have hil : i < c.2.2.2.2.1.length := by omega
    refine (?_ : ∃ q, Ev (fun k => althinglaw05_Few.c7 k (i : Int) l n j c) q ∧ _).elim fun q hq => ⟨q, Ev.step (fun k => by rw [althinglaw05_Few.c5_eq, lt_tt hil, decide_eq_true (show (i : Int) ≤ 20 by omega)]; rfl) hq.1, hq.2⟩
    cases h1 : decide ((c.2.2.2.2.1[i].1.size : Int) > 100) with
    | true => exact ⟨false, Ev.step (f := fun _ => some false) (fun k => by rw [althinglaw05_Few.c7_eq, inI_tt hil, getD_at hil, h1]; rfl) (Ev.some _), fun e => by cases e⟩
    | false =>
      obtain ⟨q, hq, hp⟩ := few_c5 hn dd (i + 1) (by omega)
      have h1' := of_decide_eq_false h1
      refine ⟨q, Ev.step (fun k => by rw [althinglaw05_Few.c7_eq, inI_tt hil, getD_at hil, h1, wrap_at (by omega)]; rfl) hq, fun e => ⟨(hp e).1, (hp e).2.1, (hp e).2.2.1, fun x hx => ?_, (hp e).2.2.2.2⟩⟩
      rw [drop_at hil] at hx
      rcases List.mem_cons.1 hx with rfl | hx
      · omega
      · exact (hp e).2.2.2.1 x hx
end
theorem few_c2 (l : List Cm) (hl : l.length ≤ 1000) : ∀ dd i, i + dd = l.length → ∃ q, Ev (fun k => althinglaw05_Few.c2 k l (l.length : Int) (i : Int)) q ∧ (q = true → ∀ c ∈ l.drop i, small c)
  | 0, i, hi => by
    obtain rfl : i = l.length := by omega
    exact ⟨true, Ev.step (f := fun _ => some true) (fun k => by rw [althinglaw05_Few.c2_eq, lt_ff (Nat.lt_irrefl _)]; rfl) (Ev.some _), fun _ c hc => by rw [List.drop_length] at hc; cases hc⟩
  | dd + 1, i, hi => by
    have hil : i < l.length := by omega
    have hn := few_c2 l hl dd (i + 1) (by omega)
    rw [← wrap_at (show i ≤ 1000000000 by omega)] at hn
    obtain ⟨q, hq, hp⟩ := few_c5 l (l.length : Int) (i : Int) l[i] _ hn (min l[i].2.2.2.2.1.length 21) 0 (by omega)
    refine ⟨q, Ev.step (fun k => by rw [althinglaw05_Few.c2_eq, lt_tt hil, inI_tt hil, getD_at hil]; rfl) hq, fun e c hc => ?_⟩
    rw [drop_at hil] at hc
    rcases List.mem_cons.1 hc with rfl | hc
    · have := hp e
      exact ⟨this.2.1, this.2.2.1, by simpa using this.2.2.2.1, this.2.2.2.2⟩
    · exact (hp e).1 c hc
theorem few5_ex (l : List Cm) (hl : l.length ≤ 1000) : ∃ q, Ev (fun k => althinglaw05_Few k l) q ∧ (q = true → ∀ c ∈ l, small c) := by
  obtain ⟨q, hq, hp⟩ := few_c2 l hl l.length 0 (by omega)
  exact ⟨q, Ev.congr (fun k => althinglaw05_Few_eq k l) hq, by simpa using hp⟩
theorem few11_c (l : List Rc) : ∀ dd i, i + dd = min l.length 21 → ∃ q, Ev (fun k => althinglaw11_Few.c2 k l (i : Int)) q ∧ (q = true → l.length ≤ 20 ∧ ∀ x ∈ l.drop i, small x.2.2.2.2.1)
  | 0, i, hi => by
    refine ⟨decide ((l.length : Int) ≤ 20), Ev.step (f := fun _ => some (decide ((l.length : Int) ≤ 20))) (fun k => ?_) (Ev.some _), fun e => ?_⟩
    · rw [althinglaw11_Few.c2_eq]
      by_cases h1 : i < l.length
      · rw [lt_tt h1, decide_eq_false (show ¬ ((i : Int) ≤ 20) by omega)]; rfl
      · rw [lt_ff h1]; rfl
    · have := of_decide_eq_true e
      exact ⟨by omega, fun x hx => by rw [List.drop_eq_nil_of_le (by omega)] at hx; cases hx⟩
  | dd + 1, i, hi => by
    have hil : i < l.length := by omega
    refine (?_ : ∃ q, Ev (fun k => althinglaw11_Few.c4 k l (i : Int)) q ∧ _).elim fun q hq => ⟨q, Ev.step (fun k => by rw [althinglaw11_Few.c2_eq, lt_tt hil, decide_eq_true (show (i : Int) ≤ 20 by omega)]; rfl) hq.1, hq.2⟩
    obtain ⟨q5, hq5, hp5⟩ := few5_ex [l[i].2.2.2.2.1] (by simp)
    obtain ⟨q, hq, hp⟩ := few11_c l dd (i + 1) (by omega)
    have hs : ∀ k, althinglaw11_Few.c4 (k + 1) l (i : Int) = (althinglaw05_Few k [l[i].2.2.2.2.1]).bind fun r0 => bif !r0 then some false else althinglaw11_Few.c2 k l ((i + 1 : Nat) : Int) := fun k => by
      rw [althinglaw11_Few.c4_eq, inI_tt hil, getD_at hil, wrap_at (by omega)]; rfl
    cases q5 with
    | false => exact ⟨false, Ev.step hs (Ev.bind hq5 (Ev.some _)), fun e => by cases e⟩
    | true =>
      refine ⟨q, Ev.step hs (Ev.bind hq5 (Ev.bif_ff rfl hq)), fun e => ⟨(hp e).1, fun x hx => ?_⟩⟩
      rw [drop_at hil] at hx
      rcases List.mem_cons.1 hx with rfl | hx
      · exact hp5 rfl _ List.mem_cons_self
      · exact (hp e).2 x hx
theorem few11_ex (l : List Rc) : ∃ q, Ev (fun k => althinglaw11_Few k l) q ∧ (q = true → l.length ≤ 20 ∧ fewR l) := by
  obtain ⟨q, hq, hp⟩ := few11_c l (min l.length 21) 0 (by omega)
  refine ⟨q, Ev.congr (fun k => althinglaw11_Few_eq k l) hq, fun e => ?_⟩
  have := hp e
  exact ⟨this.1, by omega, by simpa using this.2⟩
end Go.Proofs.Ytklbmdakoeoplaa.V
end
section
namespace Go.Proofs.Ytklbmdakoeoplaa.V
open Go Go.Vm Go.Proofs.Ytklbmdakoeoplaa.Strs
set_option linter.unusedVariables false
set_option linter.unusedSimpArgs false
abbrev someC (n : Int) : Cm := (1, ((0, n), ((1, 0), (1, ([], ([((⟨#[97]⟩ : ByteArray), (⟨#[]⟩ : ByteArray))], false))))))
theorem some_small (n : Int) : small (someC n) := by
  refine ⟨Nat.zero_le _, by show 1 ≤ 20; decide, fun x hx => (by cases hx), fun x hx => ?_⟩
  rw [List.mem_singleton.1 hx]
  exact ⟨by decide, by decide⟩
abbrev awakeL : List Rc := [((0, 3), (1, ((Ty.zero Ty_api_Instance), ((Ty.zero Ty_api_Instance), (someC 1, (5, (Ty.zero (Ty.pair Ty_api_Deps Ty.bool))))))))]
theorem awake_few : fewR awakeL := ⟨by show 1 ≤ 100; decide, fun x hx => by rw [List.mem_singleton.1 hx]; exact some_small 1⟩
theorem awake_attrs : attrsV awakeL (1, 1) (someC 2) 1 [0, 0, 0, 0, 0, 0, 0] = (6, [3, 0, 0, 0, 0, 0, 0]) := by kernel_rfl
theorem awake_slot : Ev (fun k => index_Slot k awakeL 0) 4 := by
  refine Ev.congr (fun k => index_Slot_eq k awakeL 0) (Ev.step (f := fun k => index_Slot.c3 k 0 3 awakeL 1 1) (fun k => ?_) (Ev.step (f := fun _ => some 4) (fun k => ?_) (Ev.some _)))
  · rw [index_Slot.c3_eq]; kernel_rfl
  · rw [index_Slot.c3_eq]; kernel_rfl
theorem awake_ev : Ev (fun k => althinglaw11_awake k) true := by
  have ha := attrs_ev awakeL awake_few (1, 1) (someC 2) (some_small 2) 1 [0, 0, 0, 0, 0, 0, 0]
  rw [awake_attrs] at ha
  refine Ev.congr (fun k => althinglaw11_awake_eq k) (Ev.bind (Ev.congr (fun k => althinglaw11_some_eq k 1) (Ev.some _)) (Ev.bind (Ev.congr (fun k => althinglaw11_some_eq k 2) (Ev.some _)) (Ev.bind ha ?_)))
  exact Ev.bif_tt (by decide) (Ev.bif_tt (by decide) (Ev.bind awake_slot (Ev.some _)))
theorem awake_then : Ev (fun k => (althinglaw11_awake k).bind fun r => some r) true := Ev.bind awake_ev (Ev.some _)
abbrev nop : Rc := ((6, 524288), (3, ((Ty.zero Ty_api_Instance), ((Ty.zero Ty_api_Instance), ((Ty.zero Ty_api_Command), (99, (Ty.zero (Ty.pair Ty_api_Deps Ty.bool))))))))
theorem zero_small : small (Ty.zero Ty_api_Command) := ⟨Nat.zero_le _, Nat.zero_le _, fun x hx => (by cases hx), fun x hx => (by cases hx)⟩
theorem deps_refl (d : Dp) : Ty.beq Ty_api_Deps d d = true := by
  have : ∀ l : List Int, ((l.zip l).all fun p => p.1 == p.2) = true := fun l => by
    induction l with
    | nil => rfl
    | cons x l ih => simp [ih]
  exact this d
theorem inter_zero (x : Cm) : interV x (Ty.zero Ty_api_Command) = false := by
  unfold interV
  rw [show ((Ty.zero Ty_api_Command : Cm).1 == 0) = true from rfl]
  simp
theorem zero_inter (x : Cm) : interV (Ty.zero Ty_api_Command) x = false := by
  unfold interV
  rw [show ((Ty.zero Ty_api_Command : Cm).1 == 0) = true from rfl]
  simp
theorem attrs_noop (l : List Rc) (i : In) (seq : Int) (d : Dp) : attrsV l i (Ty.zero Ty_api_Command) seq d = (seq, d) := by
  have : againstV l i (Ty.zero Ty_api_Command) = [] := by
    unfold againstV
    rw [List.filter_eq_nil_iff]
    intro x _
    unfold outV
    rw [inter_zero]
    simp
  unfold attrsV
  rw [this]
  rfl
theorem known_snoc (x : Rc) : ∀ l : List Rc, (∀ y ∈ l, Ty.beq Ty_api_Instance y.1 x.1 = false) → knownV (l ++ [x]) = knownV l ++ [x]
  | [], _ => rfl
  | y :: l, h => by
    have ih := known_snoc x l (fun z hz => h z (List.mem_cons_of_mem _ hz))
    rw [List.cons_append, knownV, knownV, List.any_append, ih]
    have hy := h y (by simp)
    have : ([x].any (sameI y)) = false := by
      have e : sameI y x = false := by
        unfold sameI
        rw [Bool.eq_false_iff] at hy ⊢
        intro hh
        apply hy
        have h2 : (x.1.1 == y.1.1 && x.1.2 == y.1.2) = true := hh
        show (y.1.1 == x.1.1 && y.1.2 == x.1.2) = true
        rw [Bool.and_eq_true] at h2 ⊢
        exact ⟨by have := h2.1; rw [beq_iff_eq] at this ⊢; exact this.symm, by have := h2.2; rw [beq_iff_eq] at this ⊢; exact this.symm⟩
      simp [e]
    rw [this, Bool.or_false]
    split
    · rfl
    · rfl
theorem attrs_snoc (l : List Rc) (i : In) (c : Cm) (seq : Int) (d : Dp) (h : ∀ y ∈ l, Ty.beq Ty_api_Instance y.1 nop.1 = false) : attrsV (l ++ [nop]) i c seq d = attrsV l i c seq d := by
  unfold attrsV againstV
  rw [known_snoc nop l h, List.filter_append]
  have : ([nop].filter fun x => !outV i c x) = [] := by
    rw [List.filter_eq_nil_iff]
    intro x hx
    rw [List.mem_singleton.1 hx]
    unfold outV
    rw [show (nop.2.2.2.2.1 : Cm) = Ty.zero Ty_api_Command from rfl, zero_inter]
    simp
  rw [this, List.append_nil]
theorem noops_c7 (l : List Rc) (h : fewR l) (h19 : l.length ≤ 19) (i : In) (c : Cm) (hc : small c) (seq : Int) (d : Dp) : ∀ dd j, j + dd = l.length → (∀ y ∈ l.take j, Ty.beq Ty_api_Instance y.1 nop.1 = false) →
    Ev (fun k => althinglaw11_IndexNoops.c7 k l seq seq (attrsV l i c seq d).1 l (l.length : Int) (j : Int) i c d d (attrsV l i c seq d).2 nop) true
  | 0, j, hj, hno => by
    obtain rfl : j = l.length := by omega
    rw [List.take_length] at hno
    have hf : fewR (l ++ [nop]) := ⟨by rw [List.length_append, List.length_singleton]; omega, fun x hx => by
      rcases List.mem_append.1 hx with hx | hx
      · exact h.2 x hx
      · rw [List.mem_singleton.1 hx]; exact zero_small⟩
    refine Ev.step (fun k => by rw [althinglaw11_IndexNoops.c7_eq, lt_ff (Nat.lt_irrefl _)]) (Ev.bif_ff rfl ?_)
    have ha := attrs_ev (l ++ [nop]) hf i c hc seq d
    rw [attrs_snoc l i c seq d hno] at ha
    refine Ev.bind (own_ev l h) (Ev.bif_tt (lt32 (by omega)) (Ev.bind ha (Ev.bif_tt (by simp) (Ev.bif_tt (deps_refl d) (Ev.bif_tt (by simp) (Ev.bif_tt (deps_refl _) awake_then))))))
  | dd + 1, j, hj, hno => by
    have hjl : j < l.length := by omega
    cases hb : Ty.beq Ty_api_Instance l[j].1 nop.1 with
    | true => exact Ev.step (fun k => by rw [althinglaw11_IndexNoops.c7_eq, lt_tt hjl, inI_tt hjl, getD_at hjl, hb] <;> rfl) awake_then
    | false =>
      refine Ev.step (fun k => by rw [althinglaw11_IndexNoops.c7_eq, lt_tt hjl, inI_tt hjl, getD_at hjl, hb, wrap_at (by omega)]; rfl) (noops_c7 l h h19 i c hc seq d dd (j + 1) (by omega) fun y hy => ?_)
      rw [List.take_succ_eq_append_getElem hjl] at hy
      rcases List.mem_append.1 hy with hy | hy
      · exact hno y hy
      · rw [List.mem_singleton.1 hy]; exact hb
theorem noops_ev (l : List Rc) (i : In) (c : Cm) (seq : Int) (d : Dp) : Ev (fun k => althinglaw11_IndexNoops k l i c seq d) true := by
  refine Ev.congr (fun k => althinglaw11_IndexNoops_eq k l i c seq d) ?_
  obtain ⟨q, hq, hp⟩ := few11_ex l
  refine Ev.bind hq (Ev.bif_ (fun _ => awake_then) fun e1 => Ev.bif_ (fun _ => awake_then) fun e2 => ?_)
  have hq1 : q = true := by cases q <;> simp_all
  obtain ⟨q', hq', hp'⟩ := few5_ex [c] (by simp)
  refine Ev.bind hq' (Ev.bif_ (fun _ => awake_then) fun e3 => ?_)
  have hq2 : q' = true := by cases q' <;> simp_all
  have hc := hp' hq2 c List.mem_cons_self
  have hl := hp hq1
  have h19 := of_decide_eq_false e2
  have h0 := attrs_ev l hl.2 i _ zero_small seq d
  rw [attrs_noop] at h0
  have h7 := noops_c7 l hl.2 (by omega) i c hc seq d l.length 0 (by omega) (fun y hy => by cases hy)
  exact Ev.step (fun k => althinglaw11_IndexNoops.c3_eq k l seq i c d) (Ev.bind h0 (Ev.bind (attrs_ev l hl.2 i c hc seq d) h7))
theorem pure_IndexNoops : ∀ zs : dens ([.sl 44 Ty_api_Record, Ty_api_Instance, Ty_api_Command, Ty.i64, Ty_api_Deps].map PK.val), WfAll _ zs → ∃ k, app _ (althinglaw11_IndexNoops k) zs = some true := fun zs _ => (noops_ev zs.1 zs.2.1 zs.2.2.1 zs.2.2.2.1 zs.2.2.2.2.1).out
end Go.Proofs.Ytklbmdakoeoplaa.V
end
section
namespace Go.Proofs.Ytklbmdakoeoplaa.Strs
open Go.RowKit Go.Proofs.YtklbmdakoeoplaaW.PrintWords Go.Proofs.YtklbmdakoeoplaaW.PrintLast Go.Proofs.YtklbmdakoeoplaaW.PrintMore Go.Proofs.Ytklbmdakoeoplaa.X
set_option linter.unusedSimpArgs false
set_option linter.unusedVariables false
theorem before_l0 (a b : ByteArray) (hb : b.size ≤ 2000) : ∀ d i k, i + d = b.size → i ≤ a.size → a.data.toList.take i = b.data.toList.take i → d + 1 ≤ k →
    althingref04_Before.l0 k a b (i : Int) = some (decide (a.data.toList.drop i < b.data.toList.drop i))
  | 0, i, k, h1, h2, h3, hk => by
    obtain ⟨k, rfl⟩ : ∃ k', k = k' + 1 := ⟨k - 1, by omega⟩
    unfold althingref04_Before.l0
    have hd : b.data.toList.drop i = [] := List.drop_eq_nil_of_le (by rw [← sz_len]; omega)
    rw [if_neg (by omega), hd]
    simp
  | d + 1, i, k, h1, h2, h3, hk => by
    obtain ⟨k, rfl⟩ : ∃ k', k = k' + 1 := ⟨k - 1, by omega⟩
    have hbl : i < b.data.toList.length := by rw [← sz_len]; omega
    unfold althingref04_Before.l0
    rw [if_pos (by omega), drop_at _ i hbl]
    by_cases hia : i = a.size
    · have hd : a.data.toList.drop i = [] := List.drop_eq_nil_of_le (by rw [← sz_len]; omega)
      rw [if_pos (by omega), hd]
      simp
    · have hal : i < a.data.toList.length := by rw [← sz_len]; omega
      rw [if_neg (by omega), if_pos (by omega), if_pos (by omega), bt_el a i hal, bt_el b i hbl, drop_at _ i hal]
      by_cases he : a.data.toList[i] = b.data.toList[i]
      · rw [if_pos (by rw [he]), show wrap64 ((i : Int) + 1) = ((i + 1 : Nat) : Int) by unfold wrap64; omega]
        rw [before_l0 a b hb d (i + 1) k (by omega) (by omega) (by rw [List.take_succ_eq_append_getElem hal, List.take_succ_eq_append_getElem hbl, h3, he]) (by omega)]
        congr 1
        rw [decide_eq_decide, List.cons_lt_cons_iff, he]
        constructor
        · intro h; exact .inr ⟨rfl, h⟩
        · rintro (h | h)
          · exact absurd h (by simp)
          · exact h.2
      · have hne : (a.data.toList[i]).toNat ≠ (b.data.toList[i]).toNat := fun e => he (UInt8.toNat_inj.1 e)
        rw [if_neg (by omega)]
        congr 1
        rw [decide_eq_decide, List.cons_lt_cons_iff]
        constructor
        · intro h; exact .inl (UInt8.lt_iff_toNat_lt.2 (by omega))
        · rintro (h | h)
          · have := UInt8.lt_iff_toNat_lt.1 h; omega
          · exact absurd h.1 he
theorem before_is (a b : ByteArray) (hb : b.size ≤ 2000) (k : Nat) (hk : 2001 ≤ k) : althingref04_Before.f k a b = some (decide (blt a b)) := by
  have := before_l0 a b hb b.size 0 k (by omega) (by omega) (by simp) (by omega)
  simpa [althingref04_Before.f, blt] using this
theorem in_l0 (l : List ByteArray) (x : ByteArray) (hl : l.length ≤ 2000) : ∀ d i k, i + d = l.length → d + 1 ≤ k → althingref04_In.l0 k l x (i : Int) = some (inB (l.drop i) x)
  | 0, i, k, h1, hk => by
    obtain ⟨k, rfl⟩ : ∃ k', k = k' + 1 := ⟨k - 1, by omega⟩
    unfold althingref04_In.l0
    rw [if_neg (by omega), List.drop_eq_nil_of_le (by omega)]
    rfl
  | d + 1, i, k, h1, hk => by
    obtain ⟨k, rfl⟩ : ∃ k', k = k' + 1 := ⟨k - 1, by omega⟩
    have hil : i < l.length := by omega
    have e : rdOf ByteArray.empty l (i : Int) = l[i] := by unfold rdOf; rw [Int.toNat_natCast]; simp [List.getD_eq_getElem?_getD, hil]
    unfold althingref04_In.l0
    rw [if_pos (by omega), if_pos (by omega), e, List.drop_eq_getElem_cons hil]
    by_cases hx : l[i] = x
    · rw [if_pos (by rw [hx]), hx]; simp [inB]
    · have hne : ¬ l[i].data.toList = x.data.toList := fun e => hx (bytes_ext e)
      rw [if_neg (by rw [toList_eq, toList_eq]; exact hne), show wrap64 ((i : Int) + 1) = ((i + 1 : Nat) : Int) by unfold wrap64; omega, in_l0 l x hl d (i + 1) k (by omega) (by omega)]
      unfold inB
      rw [List.any_cons, decide_eq_false hne, Bool.false_or]
theorem in_is (l : List ByteArray) (x : ByteArray) (hl : l.length ≤ 2000) (k : Nat) (hk : 2001 ≤ k) : althingref04_In.f k l x = some (inB l x) := by
  have := in_l0 l x hl l.length 0 k (by omega) (by omega)
  simpa [althingref04_In.f] using this
end Go.Proofs.Ytklbmdakoeoplaa.Strs
end
section
namespace Go.Proofs.Ytklbmdakoeoplaa.Strs
open Go.RowKit Go.Proofs.YtklbmdakoeoplaaW.PrintWords Go.Proofs.YtklbmdakoeoplaaW.PrintLast Go.Proofs.YtklbmdakoeoplaaW.PrintMore Go.Proofs.Ytklbmdakoeoplaa.X
set_option linter.unusedSimpArgs false
set_option linter.unusedVariables false
theorem join_l1 (l : List ByteArray) (hl : l.length ≤ 80) (hz : ∀ x ∈ l, x.size ≤ 2000) (i : Nat) (hi : i < l.length) (K : Nat)
    (h0 : ∀ out k, out.Pairwise blt → (∀ x, x ∈ out ↔ x ∈ l.take (i + 1)) → out.length ≤ i + 1 → K ≤ k → ∃ r, althingref04_Join.l0 k out l ((i + 1 : Nat) : Int) = some r ∧ JoinedTo l r)
    (out : List ByteArray) (hs : out.Pairwise blt) (hm : ∀ x, x ∈ out ↔ x ∈ l.take i) (hn : out.length ≤ i) (hx : l[i] ∉ out) :
    ∀ d q k, q + d = out.length → (∀ y ∈ out.take q, blt y l[i]) → K + 2001 + d + 1 ≤ k → ∃ r, althingref04_Join.l1 k out l (i : Int) (q : Int) = some r ∧ JoinedTo l r := by
  have hmem : ∀ q y, y ∈ out.take q ++ [l[i]] ++ out.drop q ↔ y ∈ l.take (i + 1) := fun q y => by
    rw [ins_mem, hm, List.take_succ_eq_append_getElem hi, List.mem_append, List.mem_singleton]
  have hw : wrap64 ((i : Int) + 1) = ((i + 1 : Nat) : Int) := by unfold wrap64; omega
  intro d
  induction d with
  | zero =>
    intro q k hq hlow hk
    obtain ⟨k, rfl⟩ : ∃ k', k = k' + 1 := ⟨k - 1, by omega⟩
    obtain rfl : q = out.length := by omega
    have hd : out.drop out.length = [] := List.drop_eq_nil_of_le (Nat.le_refl _)
    obtain ⟨r, hr, hj⟩ := h0 (out.take out.length ++ [l[i]] ++ out.drop out.length) k (ins_sorted out l[i] out.length hs hlow (by rw [hd]; simp)) (hmem _) (by rw [ins_len]; omega) (by omega)
    refine ⟨r, ?_, hj⟩
    unfold althingref04_Join.l1
    rw [if_neg (by omega)]
    simp only [Option.bind_some, Int.toNat_natCast, List.nil_append, rd_el l i hi]
    rw [if_pos (by omega), if_pos (by omega), if_pos (by simp), if_pos (by omega), if_pos (by omega), if_pos (by simp; omega), if_pos (by simp; omega), hw]
    exact hr
  | succ d ih =>
    intro q k hq hlow hk
    obtain ⟨k, rfl⟩ : ∃ k', k = k' + 1 := ⟨k - 1, by omega⟩
    have hql : q < out.length := by omega
    unfold althingref04_Join.l1
    rw [if_pos (by omega), if_pos (by omega), if_pos (by omega), if_pos (by omega), rd_el l i hi, rd_el out q hql, before_is _ _ (hz _ (List.getElem_mem hi)) k (by omega)]
    simp only [Option.bind_some]
    by_cases hb : blt out[q] l[i]
    · rw [if_pos (decide_eq_true hb), show wrap64 ((q : Int) + 1) = ((q + 1 : Nat) : Int) by unfold wrap64; omega]
      refine ih (q + 1) k (by omega) ?_ (by omega)
      intro y hy
      rw [List.take_succ_eq_append_getElem hql, List.mem_append, List.mem_singleton] at hy
      rcases hy with hy | rfl
      · exact hlow y hy
      · exact hb
    · rw [if_neg (by rw [decide_eq_true_eq]; exact hb)]
      obtain ⟨r, hr, hj⟩ := h0 (out.take q ++ [l[i]] ++ out.drop q) k (ins_sorted out l[i] q hs hlow (head_below out l[i] q hs hql hx hb)) (hmem _) (by rw [ins_len]; omega) (by omega)
      refine ⟨r, ?_, hj⟩
      simp only [Int.toNat_natCast, List.nil_append]
      rw [if_pos (by omega), if_pos (by simp; omega), if_pos (by simp; omega), if_pos (by simp; omega), hw]
      exact hr
theorem join_l0 (l : List ByteArray) (hl : l.length ≤ 80) (hz : ∀ x ∈ l, x.size ≤ 2000) : ∀ d i, i + d = l.length → ∃ K, ∀ out k, out.Pairwise blt → (∀ x, x ∈ out ↔ x ∈ l.take i) → out.length ≤ i → K ≤ k → ∃ r, althingref04_Join.l0 k out l (i : Int) = some r ∧ JoinedTo l r
  | 0, i, h => ⟨1, fun out k hs hm hn hk => by
      obtain ⟨k, rfl⟩ : ∃ k', k = k' + 1 := ⟨k - 1, by omega⟩
      refine ⟨out, ?_, hs, fun x => by rw [hm, List.take_of_length_le (by omega)]⟩
      unfold althingref04_Join.l0
      rw [if_neg (by omega)]⟩
  | d + 1, i, h => by
    obtain ⟨K, hK⟩ := join_l0 l hl hz d (i + 1) (by omega)
    have hi : i < l.length := by omega
    refine ⟨K + 2001 + i + 3, fun out k hs hm hn hk => ?_⟩
    obtain ⟨k, rfl⟩ : ∃ k', k = k' + 1 := ⟨k - 1, by omega⟩
    unfold althingref04_Join.l0
    rw [if_pos (by omega), if_pos (by omega), rd_el l i hi, in_is out _ (by omega) k (by omega)]
    simp only [Option.bind_some]
    by_cases hx : l[i] ∈ out
    · rw [if_pos ((inB_iff _ _).2 hx), show wrap64 ((i : Int) + 1) = ((i + 1 : Nat) : Int) by unfold wrap64; omega]
      refine hK out k hs (fun x => ?_) (by omega) (by omega)
      rw [List.take_succ_eq_append_getElem hi, List.mem_append, List.mem_singleton, hm]
      constructor
      · exact .inl
      · rintro (h | rfl)
        · exact h
        · exact (hm _).1 hx
    · rw [if_neg (fun e => hx ((inB_iff _ _).1 e))]
      exact join_l1 l hl hz i hi K (fun out k a b c d => hK out k a b c d) out hs hm hn hx out.length 0 k (by omega) (by simp) (by omega)
theorem refJoin_is (a b : List ByteArray) (ha : few a) (hb : few b) : ∃ K, ∀ k, K ≤ k → ∃ r, althingref04_Join.f k a b = some r ∧ Joined a b r := by
  obtain ⟨K, hK⟩ := join_l0 (a ++ b) (by rw [List.length_append]; have := ha.1; have := hb.1; omega) (fun x hx => by rcases List.mem_append.1 hx with h | h; have := ha.2 x h; omega; have := hb.2 x h; omega) (a ++ b).length 0 (by omega)
  refine ⟨K, fun k hk => ?_⟩
  obtain ⟨r, hr, hj⟩ := hK [] k (by simp) (by simp) (by simp) hk
  refine ⟨r, ?_, hj.1, fun x => (hj.2 x).trans List.mem_append⟩
  unfold althingref04_Join.f
  simp only [Option.bind_some, List.nil_append, List.length_nil]
  have := ha.1
  have := hb.1
  rw [if_pos (by omega), if_pos (by omega)]
  exact hr
end Go.Proofs.Ytklbmdakoeoplaa.Strs
end
section
namespace Go.Proofs.Ytklbmdakoeoplaa.V
open Go Go.Vm Go.Proofs.Ytklbmdakoeoplaa.Strs
set_option linter.unusedVariables false
set_option linter.unusedSimpArgs false
theorem rjoin_ev (a b : List ByteArray) (ha : few a) (hb : few b) : Ev (fun k => althingref04_Join k a b) (joinB a b) := by
  obtain ⟨K, hK⟩ := refJoin_is a b ha hb
  refine ⟨K, fun k hk => ?_⟩
  obtain ⟨r, hr, hj⟩ := hK k hk
  show althingref04_Join k a b = _
  unfold althingref04_Join
  rw [decide_eq_true (show a.length ≤ 1000000 by have := ha.1; omega), decide_eq_true (show b.length ≤ 1000000 by have := hb.1; omega)]
  show Go.Proofs.Ytklbmdakoeoplaa.X.althingref04_Join.f k a b = _
  rw [hr, hj.unique (joinB_joined a b)]
theorem few_nil : few [] := ⟨by simp, by simp⟩
theorem joinB_flat (l m : List ByteArray) : joinB (l ++ m) [] = joinB l m :=
  Joined.unique (a := l) (b := m) ⟨(joinB_joined (l ++ m) []).1, fun x => by rw [(joinB_joined (l ++ m) []).2 x, List.mem_append]; simp⟩ (joinB_joined l m)
theorem rkeys_c7 (c : Cm) (h : small c) (s0 : List ByteArray) (hs : s0.length ≤ 20 ∧ ∀ x ∈ s0, x.size ≤ 100) : Ev (fun k => althingref05_Keys.c7 k s0 0 c) (joinB (s0 ++ wk c.2.2.2.2.2.1) []) := by
  have hw := h.2.1
  have := Ev.fold0 c.2.2.2.2.2.1 (fun k s j => althingref05_Keys.c7 k s j c) (fun s x => s ++ [x.1]) (fun s => joinB s []) (fun i s => s.length ≤ 20 + i ∧ ∀ x ∈ s, x.size ≤ 100) s0 ⟨by have := hs.1; omega, hs.2⟩
    (fun s hs => Ev.step (f := fun k => (althingref04_Join k s []).bind fun r0 => some r0) (fun k => by rw [althingref05_Keys.c7_eq, lt_ff (Nat.lt_irrefl _)]; rfl) (Ev.bind (rjoin_ev s [] ⟨by have := hs.1; omega, hs.2⟩ few_nil) (Ev.some _)))
    (fun i s hi hs => ⟨⟨by rw [List.length_append, List.length_singleton]; have := hs.1; omega, fun x hx => by
        rcases List.mem_append.1 hx with hx | hx
        · exact hs.2 x hx
        · rw [List.mem_singleton.1 hx]; exact (h.2.2.2 _ (List.getElem_mem hi)).1⟩,
      fun r hr => Ev.step (fun k => by rw [althingref05_Keys.c7_eq, lt_tt hi, inI_tt hi, getD_at hi, wrap_at (by omega), lt32 (by have := hs.1; omega)]; rfl) hr⟩)
  rw [foldl_app] at this
  exact this
theorem rkeys_ev (c : Cm) (h : small c) : Ev (fun k => althingref05_Keys k c) (keysV c) := by
  have hr := h.1
  refine Ev.congr (fun k => althingref05_Keys_eq k c) ?_
  have := Ev.fold0 c.2.2.2.2.1 (fun k s j => althingref05_Keys.c3 k s j c) (fun s x => s ++ [x.1]) (fun s => joinB (s ++ wk c.2.2.2.2.2.1) []) (fun i s => s.length ≤ i ∧ ∀ x ∈ s, x.size ≤ 100) [] ⟨by simp, by simp⟩
    (fun s hs => Ev.step (f := fun k => althingref05_Keys.c7 k s 0 c) (fun k => by rw [althingref05_Keys.c3_eq, lt_ff (Nat.lt_irrefl _)]; rfl) (rkeys_c7 c h s ⟨by have := hs.1; omega, hs.2⟩))
    (fun i s hi hs => ⟨⟨by rw [List.length_append, List.length_singleton]; have := hs.1; omega, fun x hx => by
        rcases List.mem_append.1 hx with hx | hx
        · exact hs.2 x hx
        · rw [List.mem_singleton.1 hx]; exact h.2.2.1 _ (List.getElem_mem hi)⟩,
      fun r hr => Ev.step (fun k => by rw [althingref05_Keys.c3_eq, lt_tt hi, inI_tt hi, getD_at hi, wrap_at (by omega), lt32 (by have := hs.1; omega)]; rfl) hr⟩)
  rw [foldl_app, List.nil_append, joinB_flat] at this
  exact this
theorem rin_ev (m : List ByteArray) (x : ByteArray) (hm : m.length ≤ 1000000) : Ev (fun k => althingref04_In k m x) (m.any fun y => decide (x = y)) := by
  refine Ev.congr (fun k => althingref04_In_eq k m x) (Ev.any0 m (fun k j => althingref04_In.c2 k m x j) _ (Ev.step (f := fun _ => some false) (fun k => by rw [althingref04_In.c2_eq, lt_ff (Nat.lt_irrefl _)]; rfl) (Ev.some _)) fun i hi => ⟨fun hp => ?_, fun hp r hr => ?_⟩)
  · exact Ev.step (f := fun _ => some true) (fun k => by rw [althingref04_In.c2_eq, lt_tt hi, inI_tt hi, getD_at hi, decide_eq_true (of_decide_eq_true hp).symm]; rfl) (Ev.some _)
  · exact Ev.step (fun k => by rw [althingref04_In.c2_eq, lt_tt hi, inI_tt hi, getD_at hi, decide_eq_false (fun e => of_decide_eq_false hp (Eq.symm e)), wrap_at (by omega)]; rfl) hr
theorem rmeet_ev (l m : List ByteArray) (hl : l.length ≤ 1000000) (hm : m.length ≤ 1000000) : Ev (fun k => althingref05_Interfere.c8 k l m 0) (meetV l m) := by
  refine Ev.any0 l (fun k j => althingref05_Interfere.c8 k l m j) _ (Ev.step (f := fun _ => some false) (fun k => by rw [althingref05_Interfere.c8_eq, lt_ff (Nat.lt_irrefl _)]; rfl) (Ev.some _)) fun i hi => ?_
  have hin := rin_ev m l[i] hm
  have e : ∀ k, althingref05_Interfere.c8 (k + 1) l m (i : Int) = (althingref04_In k m l[i]).bind fun r0 => bif r0 then some true else althingref05_Interfere.c8 k l m ((i + 1 : Nat) : Int) := fun k => by
    rw [althingref05_Interfere.c8_eq, lt_tt hi, inI_tt hi, getD_at hi, wrap_at (by omega)]; rfl
  refine ⟨fun hp => ?_, fun hp r hr => ?_⟩
  · rw [hp] at hin
    exact Ev.step e (Ev.bind hin (Ev.some _))
  · rw [hp] at hin
    exact Ev.step e (Ev.bind hin hr)
theorem rinter_ev (a b : Cm) (ha : small a) (hb : small b) : Ev (fun k => althingref05_Interfere k a b) (interV a b) := by
  refine Ev.congr (fun k => althingref05_Interfere_eq k a b) ?_
  unfold interV
  cases h1 : a.1 == 0 with
  | true => exact Ev.some _
  | false =>
    refine Ev.bif_ff rfl ?_
    cases h2 : b.1 == 0 with
    | true => exact Ev.some _
    | false =>
      refine Ev.bif_ff rfl (Ev.step (fun k => althingref05_Interfere.c3_eq k a b) ?_)
      cases h3 : Ty.beq Ty_api_Instance a.2.1 b.2.1 with
      | true => exact Ev.some _
      | false =>
        refine Ev.bif_ff rfl (Ev.bind (rkeys_ev a ha) (Ev.bind (rkeys_ev b hb) (rmeet_ev _ _ ?_ ?_)))
        · have := keysV_len ha; omega
        · have := keysV_len hb; omega
theorem rlast_ev (l : List Rc) (hl : l.length ≤ 1000000) (i : Nat) (hi : i < l.length) : Ev (fun k => althingref11_Last k l (i : Int)) (!(l.drop (i + 1)).any (sameI l[i])) := by
  refine Ev.congr (fun k => althingref11_Last_eq k l (i : Int)) ?_
  rw [wrap_at (by omega)]
  refine Ev.nany l (fun k j => althingref11_Last.c2 k l (i : Int) j) _ (Ev.step (f := fun _ => some true) (fun k => by rw [althingref11_Last.c2_eq, lt_ff (Nat.lt_irrefl _)]; rfl) (Ev.some _)) (fun j hj => ⟨fun hp => ?_, fun hp r hr => ?_⟩) (l.length - (i + 1)) (i + 1) (by omega)
  · unfold sameI at hp
    exact Ev.step (f := fun _ => some false) (fun k => by rw [althingref11_Last.c2_eq, lt_tt hj, inI_tt hj, inI_tt hi, getD_at hj, getD_at hi, hp]; rfl) (Ev.some _)
  · unfold sameI at hp
    exact Ev.step (fun k => by rw [althingref11_Last.c2_eq, lt_tt hj, inI_tt hj, inI_tt hi, getD_at hj, getD_at hi, hp, wrap_at (by omega)]; rfl) hr
theorem le0_tt {n : Int} (h : decide (n > 0) = false) : decide (n ≤ 0) = true := decide_eq_true (by have := of_decide_eq_false h; omega)
theorem le0_ff {n : Int} (h : decide (n > 0) = true) : decide (n ≤ 0) = false := decide_eq_false (by have := of_decide_eq_true h; omega)
theorem ragainst_c3 (l : List Rc) (h : fewR l) (i : In) (c : Cm) (hc : small c) : ∀ d j (acc : List Rc), j + d = l.length → acc.length ≤ j → Ev (fun k => althingref11_Against.c3 k l acc (j : Int) i c) (acc ++ (knownV (l.drop j)).filter fun x => !outV i c x)
  | 0, j, acc, hj, ha => by
    obtain rfl : j = l.length := by omega
    rw [List.drop_length, knownV, List.filter_nil, List.append_nil]
    exact Ev.step (fun k => by rw [althingref11_Against.c3_eq, lt_ff (Nat.lt_irrefl _)]; rfl) (Ev.some acc)
  | d + 1, j, acc, hj, ha => by
    have hjl : j < l.length := by omega
    have hl := h.1
    have hs := h.2 _ (List.getElem_mem hjl)
    rw [drop_at hjl, knownV]
    have next : ∀ acc' : List Rc, acc'.length ≤ j + 1 → Ev (fun k => althingref11_Against.c4 k l acc' (j : Int) i c) (acc' ++ (knownV (l.drop (j + 1))).filter fun x => !outV i c x) := fun acc' ha' =>
      Ev.step (fun k => by rw [althingref11_Against.c4_eq, wrap_at (by omega)]) (ragainst_c3 l h i c hc d (j + 1) acc' (by omega) ha')
    have next' := next acc (by omega)
    refine Ev.step (fun k => by rw [althingref11_Against.c3_eq, lt_tt hjl, inI_tt hjl, getD_at hjl]; exact cond_true _ _) (Ev.bind (rlast_ev l (by omega) j hjl) ?_)
    cases hc0 : (l.drop (j + 1)).any (sameI l[j]) with
    | true => rw [if_pos rfl]; exact Ev.bif_ff rfl next'
    | false =>
      rw [if_neg (by simp)]
      refine Ev.bif_tt rfl (Ev.bif_tt rfl ?_)
      rw [List.filter_cons]
      cases h1 : Ty.beq Ty_api_Instance l[j].1 i with
      | true =>
        rw [if_neg (by unfold outV; rw [h1]; simp)]
        exact Ev.bif_ff rfl next'
      | false =>
        refine Ev.bif_tt rfl (Ev.bif_tt rfl ?_)
        cases h2 : decide (l[j].2.1 > 0) with
        | false =>
          rw [if_neg (by unfold outV; rw [h1, le0_tt h2]; simp)]
          exact Ev.bif_ff rfl next'
        | true =>
          have h2' : decide (l[j].2.1 ≤ 0) = false := le0_ff h2
          refine Ev.bif_tt rfl (Ev.bif_tt rfl (Ev.bind (rinter_ev _ _ hs hc) ?_))
          cases h3 : interV l[j].2.2.2.2.1 c with
          | false =>
            rw [if_neg (by unfold outV; rw [h1, h2', h3]; simp)]
            exact Ev.bif_ff rfl next'
          | true =>
            rw [if_pos (by unfold outV; rw [h1, h2', h3]; rfl)]
            have := next (acc ++ [l[j]]) (by rw [List.length_append, List.length_singleton]; omega)
            rw [List.append_assoc, List.singleton_append] at this
            exact Ev.bif_tt rfl (Ev.step (fun k => by rw [althingref11_Against.c6_eq, inI_tt hjl, getD_at hjl, lt32 (by omega)]; rfl) this)
theorem ragainst_ev (l : List Rc) (h : fewR l) (i : In) (c : Cm) (hc : small c) : Ev (fun k => althingref11_Against k l i c) (againstV l i c) := by
  have := ragainst_c3 l h i c hc l.length 0 [] (by omega) (by simp)
  refine Ev.congr (fun k => althingref11_Against_eq k l i c) ?_
  rw [List.drop_zero, List.nil_append] at this
  exact this
theorem set_same (d : List Int) (n : Nat) : d.set n (d.getD n 0) = d := by
  by_cases h : n < d.length
  · have : d.getD n 0 = d[n] := by simp [List.getD_eq_getElem?_getD, h]
    rw [this, List.set_getElem_self]
  · exact List.set_eq_of_length_le (by omega)
theorem rwith_c2 (p q : Int) (z : Dp) : ∀ (dd j : Nat) (d : Dp), j + dd = 7 → Ev (fun k => althingref03_With.c2 k (j : Int) d (p, q) z) (bif decide ((j : Int) ≤ p) && decide (p < 7) then withV d (p, q) else d)
  | 0, j, d, hj => by
    obtain rfl : j = 7 := by omega
    refine Ev.step (f := fun _ => some d) (fun k => by rw [althingref03_With.c2_eq, decide_eq_false (by omega)]; rfl) ?_
    rw [show (decide (((7 : Nat) : Int) ≤ p) && decide (p < 7)) = false by rw [Bool.and_eq_false_iff, decide_eq_false_iff_not, decide_eq_false_iff_not]; omega]
    exact Ev.some _
  | dd + 1, j, d, hj => by
    have hj7 : decide ((j : Int) < 7) = true := decide_eq_true (by omega)
    have next : ∀ d' : Dp, Ev (fun k => althingref03_With.c3 k (j : Int) d' (p, q) z) (bif decide (((j + 1 : Nat) : Int) ≤ p) && decide (p < 7) then withV d' (p, q) else d') := fun d' =>
      Ev.step (fun k => by rw [althingref03_With.c3_eq, wrap_at (by omega)]) (rwith_c2 p q z dd (j + 1) d' (by omega))
    by_cases he : p = (j : Int)
    · subst he
      have hb : ((j : Int) == (j : Int)) = true := by simp
      have h1 : (decide (((j + 1 : Nat) : Int) ≤ (j : Int)) && decide ((j : Int) < 7)) = false := by
        rw [Bool.and_eq_false_iff, decide_eq_false_iff_not]; omega
      have h2 : (decide ((j : Int) ≤ (j : Int)) && decide ((j : Int) < 7)) = true := by
        rw [Bool.and_eq_true, decide_eq_true_iff, decide_eq_true_iff]; omega
      rw [h2]
      show Ev _ (withV d ((j : Int), q))
      have hw : withV d ((j : Int), q) = List.set (α := Int) d (Int.toNat (j : Int)) (max (List.getD (α := Int) d (Int.toNat (j : Int)) 0) q) := by
        unfold withV
        rw [show inI (((j : Int), q) : In).1 7 = true from inI_tt (show j < 7 by omega)]; rfl
      rw [hw]
      have hc2 : ∀ k, althingref03_With.c2 (k + 1) (j : Int) d ((j : Int), q) z = bif decide (q > List.getD (α := Int) d (Int.toNat (j : Int)) 0) then althingref03_With.c3 k (j : Int) (List.set (α := Int) d (Int.toNat (j : Int)) q) ((j : Int), q) z else althingref03_With.c3 k (j : Int) d ((j : Int), q) z := fun k => by
        rw [althingref03_With.c2_eq, hj7, show ((((j : Int), q) : In).1 == (j : Int)) = true from hb, inI_tt (show j < 7 by omega)]; rfl
      have hss := set_same d (Int.toNat (j : Int))
      generalize List.getD (α := Int) d (Int.toNat (j : Int)) 0 = g at hc2 hss ⊢
      cases hg : decide (q > g) with
      | true =>
        have hn := next (List.set (α := Int) d (Int.toNat (j : Int)) q)
        rw [h1] at hn
        rw [Int.max_eq_right (by have := of_decide_eq_true hg; omega)]
        exact Ev.step (fun k => by rw [hc2, hg]; rfl) hn
      | false =>
        have hn := next d
        rw [h1] at hn
        rw [Int.max_eq_left (by have := of_decide_eq_false hg; omega)]
        rw [hss]
        exact Ev.step (fun k => by rw [hc2, hg]; rfl) hn
    · have hb : (p == (j : Int)) = false := by rw [beq_eq_false_iff_ne]; exact he
      have hn := next d
      have : (decide (((j + 1 : Nat) : Int) ≤ p) && decide (p < 7)) = (decide ((j : Int) ≤ p) && decide (p < 7)) := by
        congr 1
        exact decide_eq_decide.2 (by omega)
      rw [this] at hn
      exact Ev.step (fun k => by rw [althingref03_With.c2_eq, hj7, show (((p, q) : In).1 == (j : Int)) = false from hb]; rfl) hn
theorem rwith_ev (d : Dp) (i : In) : Ev (fun k => althingref03_With k d i) (withV d i) := by
  obtain ⟨p, q⟩ := i
  have := rwith_c2 p q (Ty.zero Ty_api_Deps) 7 0 d (by omega)
  refine Ev.congr (fun k => althingref03_With_eq k d (p, q)) ?_
  cases hb : (decide (((0 : Nat) : Int) ≤ p) && decide (p < 7)) with
  | true => rw [hb] at this; exact this
  | false =>
    rw [hb] at this
    have hw : withV d (p, q) = d := by unfold withV; rw [show inI ((p, q) : In).1 7 = false from hb]; rfl
    rw [hw]
    exact this
theorem rnext (n : Int) : IntKind.wrap .i64 (min n 1099511627775 + 1) = bif decide (n < 1099511627776) then IntKind.wrap .i64 (n + 1) else 1099511627776 := by
  by_cases h : n < 1099511627776
  · rw [decide_eq_true h, Int.min_eq_left (by omega)]; rfl
  · rw [decide_eq_false h, Int.min_eq_right (by omega)]; rfl
theorem rattrs_ev (l : List Rc) (h : fewR l) (i : In) (c : Cm) (hc : small c) (seq : Int) (d : Dp) : Ev (fun k => althingref11_Attrs k l i c seq d) (attrsV l i c seq d) := by
  refine Ev.congr (fun k => althingref11_Attrs_eq k l i c seq d) (Ev.bind (ragainst_ev l h i c hc) ?_)
  have hl := (againstV_sub l i c).length_le
  have h1 := h.1
  unfold attrsV
  generalize againstV l i c = al at hl ⊢
  have := Ev.fold0 al (fun k (s : Int × Dp) j => althingref11_Attrs.c3 k s.1 al j s.2 (Ty.zero Ty_api_Deps)) attrStep id (fun _ _ => True) (seq, d) trivial
    (fun s _ => Ev.step (f := fun _ => some s) (fun k => by rw [althingref11_Attrs.c3_eq, lt_ff (Nat.lt_irrefl _)]; rfl) (Ev.some s))
    (fun j s hj _ => ⟨trivial, fun r hr => by
      have h11 : ∀ n : Int, n = max s.1 (IntKind.wrap .i64 (min al[j].2.2.2.2.2.1 1099511627775 + 1)) → Ev (fun k => althingref11_Attrs.c11 k n al (j : Int) s.2 (Ty.zero Ty_api_Deps)) r := fun n hn => by
        subst hn
        exact Ev.step (fun k => by rw [althingref11_Attrs.c11_eq, inI_tt hj, getD_at hj, wrap_at (by omega)]; exact cond_true _ _) (Ev.bind (rwith_ev _ _) hr)
      have h9 : Ev (fun k => althingref11_Attrs.c9 k s.1 al (j : Int) (IntKind.wrap .i64 (min al[j].2.2.2.2.2.1 1099511627775 + 1)) s.2 (Ty.zero Ty_api_Deps)) r := by
        refine Ev.step (fun k => althingref11_Attrs.c9_eq ..) (Ev.bif_ (fun e => h11 _ ?_) (fun e => h11 _ ?_))
        · exact (Int.max_eq_right (by have := of_decide_eq_true e; omega)).symm
        · exact (Int.max_eq_left (by have := of_decide_eq_false e; omega)).symm
      rw [rnext] at h9
      cases hb : decide (al[j].2.2.2.2.2.1 < 1099511627776) with
      | true =>
        rw [hb] at h9
        exact Ev.step (fun k => by rw [althingref11_Attrs.c3_eq, lt_tt hj, inI_tt hj, getD_at hj, hb]; rfl) h9
      | false =>
        rw [hb] at h9
        exact Ev.step (fun k => by rw [althingref11_Attrs.c3_eq, lt_tt hj, inI_tt hj, getD_at hj, hb]; rfl) h9⟩)
  exact this
end Go.Proofs.Ytklbmdakoeoplaa.V
end
section
namespace Go.Proofs.Ytklbmdakoeoplaa.V
open Go Go.Vm Go.Proofs.Ytklbmdakoeoplaa.Strs
set_option linter.unusedVariables false
set_option linter.unusedSimpArgs false
theorem attrs_law_ev (l : List Rc) (i : In) (c : Cm) (seq : Int) (d : Dp) : Ev (fun k => althinglaw11_IndexAttrs k l i c seq d) true := by
  refine Ev.congr (fun k => althinglaw11_IndexAttrs_eq k l i c seq d) ?_
  obtain ⟨q, hq, hp⟩ := few11_ex l
  refine Ev.bind hq (Ev.bif_ (fun _ => awake_then) fun e1 => ?_)
  obtain ⟨q', hq', hp'⟩ := few5_ex [c] (by simp)
  refine Ev.bind hq' (Ev.bif_ (fun _ => awake_then) fun e3 => ?_)
  have t1 : q = true := by cases q <;> simp_all
  have t3 : q' = true := by cases q' <;> simp_all
  have hc := hp' t3 c List.mem_cons_self
  have hl := hp t1
  refine Ev.step (fun k => althinglaw11_IndexAttrs.c3_eq k l seq i c d) (Ev.bind (own_ev l hl.2) (Ev.bind (attrs_ev l hl.2 i c hc seq d) (Ev.bind (rattrs_ev l hl.2 i c hc seq d) (Ev.bif_tt (by simp) (Ev.bif_tt (deps_refl _) awake_then)))))
theorem pure_IndexAttrs : ∀ zs : dens ([.sl 44 Ty_api_Record, Ty_api_Instance, Ty_api_Command, Ty.i64, Ty_api_Deps].map PK.val), WfAll _ zs → ∃ k, app _ (althinglaw11_IndexAttrs k) zs = some true := fun zs _ => (attrs_law_ev zs.1 zs.2.1 zs.2.2.1 zs.2.2.2.1 zs.2.2.2.2.1).out
end Go.Proofs.Ytklbmdakoeoplaa.V
end
