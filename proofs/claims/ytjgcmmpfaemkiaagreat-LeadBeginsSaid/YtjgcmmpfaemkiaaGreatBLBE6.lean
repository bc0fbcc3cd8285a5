/- What the claim LBE leans on: texts joined by bundle.py, a program of ours; the words cut down to what is used. -/
import Derived.Test.YtjgcmmpfaemkiaaGreatBLBE5
import Derived.Test.YtjgcmmpfaemkiaaGreatProg
import Derived.KernelRfl
section
set_option linter.unusedVariables false
namespace Go.Proofs.YtjgcmmpfaemkiaaGreat.V
open Go.Vm
def althinglaw05_Few.s2 : List CK := [.tmp 7 (.sl 33 Ty_api_Command), .tmp 8 Ty.i64, .tmp 9 Ty.i64]
def althinglaw05_Few.s5 : List CK := [.ptr 4 4 Ty_api_Command, .tmp 5 Ty.i64, .tmp 7 (.sl 33 Ty_api_Command), .tmp 8 Ty.i64, .tmp 9 Ty.i64, .box 4 Ty_api_Command []]
def althinglaw05_Few.s7 : List CK := [.ptr 4 4 Ty_api_Command, .tmp 5 Ty.i64, .tmp 7 (.sl 33 Ty_api_Command), .tmp 8 Ty.i64, .tmp 9 Ty.i64, .box 4 Ty_api_Command []]
def althinglaw05_Few.s10 : List CK := [.ptr 4 4 Ty_api_Command, .tmp 6 Ty.i64, .tmp 7 (.sl 33 Ty_api_Command), .tmp 8 Ty.i64, .tmp 9 Ty.i64, .box 4 Ty_api_Command []]
def althinglaw05_Few.s12 : List CK := [.ptr 4 4 Ty_api_Command, .tmp 6 Ty.i64, .tmp 7 (.sl 33 Ty_api_Command), .tmp 8 Ty.i64, .tmp 9 Ty.i64, .box 4 Ty_api_Command []]
def althinglaw05_Few.s14 : List CK := [.ptr 4 4 Ty_api_Command, .tmp 7 (.sl 33 Ty_api_Command), .tmp 8 Ty.i64, .tmp 9 Ty.i64, .box 4 Ty_api_Command []]
def althinglaw05_Few.cuts : List (Nat × List CK) := [(2, althinglaw05_Few.s2), (5, althinglaw05_Few.s5), (7, althinglaw05_Few.s7), (10, althinglaw05_Few.s10), (12, althinglaw05_Few.s12), (14, althinglaw05_Few.s14)]
abbrev althinglaw05_Few.ps : List PK := [.val (.sl 33 Ty_api_Command)]
abbrev althinglaw05_Few.r : Ty := .bool
noncomputable def althinglaw05_Few.raw (k : Nat) (a0 : List Ty_api_Command.den) : Option Bool := runF Alg.std G_quorum_With T Tryz.f24 althinglaw05_Few.cuts althinglaw05_Few.ps althinglaw05_Few.r k a0
noncomputable def althinglaw05_Few (k : Nat) (a0 : List Ty_api_Command.den) : Option Bool := sealed althinglaw05_Few.raw k a0
theorem althinglaw05_Few_raw (k : Nat) (a0 : List Ty_api_Command.den) : althinglaw05_Few k a0 = althinglaw05_Few.raw k a0 := by unfold althinglaw05_Few; rw [sealed_eq]
noncomputable def althinglaw05_Few.c2 (k : Nat) (x7 : List Ty_api_Command.den) (x8 : Int) (x9 : Int) : Option Bool := runC Alg.std G_quorum_With T Tryz.f24 althinglaw05_Few.cuts althinglaw05_Few.r 2 althinglaw05_Few.s2 k (x7, x8, x9, ())
noncomputable def althinglaw05_Few.c5 (k : Nat) (x5 : Int) (x7 : List Ty_api_Command.den) (x8 : Int) (x9 : Int) (b4 : Ty_api_Command.den) : Option Bool := runC Alg.std G_quorum_With T Tryz.f24 althinglaw05_Few.cuts althinglaw05_Few.r 5 althinglaw05_Few.s5 k ((), x5, x7, x8, x9, b4, ())
noncomputable def althinglaw05_Few.c7 (k : Nat) (x5 : Int) (x7 : List Ty_api_Command.den) (x8 : Int) (x9 : Int) (b4 : Ty_api_Command.den) : Option Bool := runC Alg.std G_quorum_With T Tryz.f24 althinglaw05_Few.cuts althinglaw05_Few.r 7 althinglaw05_Few.s7 k ((), x5, x7, x8, x9, b4, ())
noncomputable def althinglaw05_Few.c10 (k : Nat) (x6 : Int) (x7 : List Ty_api_Command.den) (x8 : Int) (x9 : Int) (b4 : Ty_api_Command.den) : Option Bool := runC Alg.std G_quorum_With T Tryz.f24 althinglaw05_Few.cuts althinglaw05_Few.r 10 althinglaw05_Few.s10 k ((), x6, x7, x8, x9, b4, ())
noncomputable def althinglaw05_Few.c12 (k : Nat) (x6 : Int) (x7 : List Ty_api_Command.den) (x8 : Int) (x9 : Int) (b4 : Ty_api_Command.den) : Option Bool := runC Alg.std G_quorum_With T Tryz.f24 althinglaw05_Few.cuts althinglaw05_Few.r 12 althinglaw05_Few.s12 k ((), x6, x7, x8, x9, b4, ())
noncomputable def althinglaw05_Few.c14 (k : Nat) (x7 : List Ty_api_Command.den) (x8 : Int) (x9 : Int) (b4 : Ty_api_Command.den) : Option Bool := runC Alg.std G_quorum_With T Tryz.f24 althinglaw05_Few.cuts althinglaw05_Few.r 14 althinglaw05_Few.s14 k ((), x7, x8, x9, b4, ())
noncomputable def G_althinglaw05_Few (k : Nat) : Gam := ins 24 (.pu althinglaw05_Few.ps althinglaw05_Few.r (althinglaw05_Few k)) (G_quorum_With k)
theorem ok_althinglaw05_Few : GOk Tryz.prog G_althinglaw05_Few := ok_quorum_With.ins fun k => by rw [show althinglaw05_Few k = althinglaw05_Few.raw k from congrFun (sealed_eq althinglaw05_Few.raw) k]; exact runF_ok tabOk ok_quorum_With mix Tryz.func24 Tryz.call24 althinglaw05_Few.cuts althinglaw05_Few.ps althinglaw05_Few.r (by rw [Tryz.ntmps24]; decide) k
def althinglaw11_Few.s2 : List CK := [.tmp 0 (.sl 37 Ty_api_Record), .tmp 3 Ty.i64]
def althinglaw11_Few.s4 : List CK := [.tmp 0 (.sl 37 Ty_api_Record), .tmp 3 Ty.i64]
def althinglaw11_Few.cuts : List (Nat × List CK) := [(2, althinglaw11_Few.s2), (4, althinglaw11_Few.s4)]
abbrev althinglaw11_Few.ps : List PK := [.val (.sl 37 Ty_api_Record)]
abbrev althinglaw11_Few.r : Ty := .bool
noncomputable def althinglaw11_Few.raw (k : Nat) (a0 : List Ty_api_Record.den) : Option Bool := runF Alg.std G_althinglaw05_Few T Tryz.f23 althinglaw11_Few.cuts althinglaw11_Few.ps althinglaw11_Few.r k a0
noncomputable def althinglaw11_Few (k : Nat) (a0 : List Ty_api_Record.den) : Option Bool := sealed althinglaw11_Few.raw k a0
theorem althinglaw11_Few_raw (k : Nat) (a0 : List Ty_api_Record.den) : althinglaw11_Few k a0 = althinglaw11_Few.raw k a0 := by unfold althinglaw11_Few; rw [sealed_eq]
noncomputable def althinglaw11_Few.c2 (k : Nat) (x0 : List Ty_api_Record.den) (x3 : Int) : Option Bool := runC Alg.std G_althinglaw05_Few T Tryz.f23 althinglaw11_Few.cuts althinglaw11_Few.r 2 althinglaw11_Few.s2 k (x0, x3, ())
noncomputable def althinglaw11_Few.c4 (k : Nat) (x0 : List Ty_api_Record.den) (x3 : Int) : Option Bool := runC Alg.std G_althinglaw05_Few T Tryz.f23 althinglaw11_Few.cuts althinglaw11_Few.r 4 althinglaw11_Few.s4 k (x0, x3, ())
noncomputable def G_althinglaw11_Few (k : Nat) : Gam := ins 23 (.pu althinglaw11_Few.ps althinglaw11_Few.r (althinglaw11_Few k)) (G_althinglaw05_Few k)
theorem ok_althinglaw11_Few : GOk Tryz.prog G_althinglaw11_Few := ok_althinglaw05_Few.ins fun k => by rw [show althinglaw11_Few k = althinglaw11_Few.raw k from congrFun (sealed_eq althinglaw11_Few.raw) k]; exact runF_ok tabOk ok_althinglaw05_Few mix Tryz.func23 Tryz.call23 althinglaw11_Few.cuts althinglaw11_Few.ps althinglaw11_Few.r (by rw [Tryz.ntmps23]; decide) k
def althinglaw14_few.s2 : List CK := [.tmp 1 (.sl 37 Ty_api_Record), .ptr 3 3 Ty_althingref14_Lead, .ptr 5 5 Ty_api_Message, .tmp 7 Ty.i64, .box 3 Ty_althingref14_Lead [], .box 5 Ty_api_Message []]
def althinglaw14_few.s4 : List CK := [.tmp 1 (.sl 37 Ty_api_Record), .ptr 3 3 Ty_althingref14_Lead, .ptr 5 5 Ty_api_Message, .tmp 7 Ty.i64, .box 3 Ty_althingref14_Lead [], .box 5 Ty_api_Message []]
def althinglaw14_few.s6 : List CK := [.tmp 1 (.sl 37 Ty_api_Record), .ptr 3 3 Ty_althingref14_Lead, .ptr 5 5 Ty_api_Message, .box 3 Ty_althingref14_Lead [], .box 5 Ty_api_Message []]
def althinglaw14_few.cuts : List (Nat × List CK) := [(2, althinglaw14_few.s2), (4, althinglaw14_few.s4), (6, althinglaw14_few.s6)]
abbrev althinglaw14_few.ps : List PK := [.val Ty_althingref14_Lead, .val (.sl 37 Ty_api_Record), .val Ty_api_Message]
abbrev althinglaw14_few.r : Ty := .bool
noncomputable def althinglaw14_few.raw (k : Nat) (a0 : Ty_althingref14_Lead.den) (a1 : List Ty_api_Record.den) (a2 : Ty_api_Message.den) : Option Bool := runF Alg.std G_althinglaw11_Few T Tryz.f8 althinglaw14_few.cuts althinglaw14_few.ps althinglaw14_few.r k a0 a1 a2
noncomputable def althinglaw14_few (k : Nat) (a0 : Ty_althingref14_Lead.den) (a1 : List Ty_api_Record.den) (a2 : Ty_api_Message.den) : Option Bool := sealed althinglaw14_few.raw k a0 a1 a2
theorem althinglaw14_few_raw (k : Nat) (a0 : Ty_althingref14_Lead.den) (a1 : List Ty_api_Record.den) (a2 : Ty_api_Message.den) : althinglaw14_few k a0 a1 a2 = althinglaw14_few.raw k a0 a1 a2 := by unfold althinglaw14_few; rw [sealed_eq]
noncomputable def althinglaw14_few.c2 (k : Nat) (x1 : List Ty_api_Record.den) (x7 : Int) (b3 : Ty_althingref14_Lead.den) (b5 : Ty_api_Message.den) : Option Bool := runC Alg.std G_althinglaw11_Few T Tryz.f8 althinglaw14_few.cuts althinglaw14_few.r 2 althinglaw14_few.s2 k (x1, (), (), x7, b3, b5, ())
noncomputable def althinglaw14_few.c4 (k : Nat) (x1 : List Ty_api_Record.den) (x7 : Int) (b3 : Ty_althingref14_Lead.den) (b5 : Ty_api_Message.den) : Option Bool := runC Alg.std G_althinglaw11_Few T Tryz.f8 althinglaw14_few.cuts althinglaw14_few.r 4 althinglaw14_few.s4 k (x1, (), (), x7, b3, b5, ())
noncomputable def althinglaw14_few.c6 (k : Nat) (x1 : List Ty_api_Record.den) (b3 : Ty_althingref14_Lead.den) (b5 : Ty_api_Message.den) : Option Bool := runC Alg.std G_althinglaw11_Few T Tryz.f8 althinglaw14_few.cuts althinglaw14_few.r 6 althinglaw14_few.s6 k (x1, (), (), b3, b5, ())
noncomputable def G_althinglaw14_few (k : Nat) : Gam := ins 8 (.pu althinglaw14_few.ps althinglaw14_few.r (althinglaw14_few k)) (G_althinglaw11_Few k)
theorem ok_althinglaw14_few : GOk Tryz.prog G_althinglaw14_few := ok_althinglaw11_Few.ins fun k => by rw [show althinglaw14_few k = althinglaw14_few.raw k from congrFun (sealed_eq althinglaw14_few.raw) k]; exact runF_ok tabOk ok_althinglaw11_Few mix Tryz.func8 Tryz.call8 althinglaw14_few.cuts althinglaw14_few.ps althinglaw14_few.r (by rw [Tryz.ntmps8]; decide) k
def althinglaw14_some.cuts : List (Nat × List CK) := []
abbrev althinglaw14_some.ps : List PK := [.val Ty.i64]
abbrev althinglaw14_some.r : Ty := Ty_api_Command
noncomputable def althinglaw14_some.raw (k : Nat) (a0 : Int) : Option Ty_api_Command.den := runF Alg.std G_althinglaw14_few T Tryz.f31 althinglaw14_some.cuts althinglaw14_some.ps althinglaw14_some.r k a0
noncomputable def althinglaw14_some (k : Nat) (a0 : Int) : Option Ty_api_Command.den := sealed althinglaw14_some.raw k a0
theorem althinglaw14_some_raw (k : Nat) (a0 : Int) : althinglaw14_some k a0 = althinglaw14_some.raw k a0 := by unfold althinglaw14_some; rw [sealed_eq]
noncomputable def G_althinglaw14_some (k : Nat) : Gam := ins 31 (.pu althinglaw14_some.ps althinglaw14_some.r (althinglaw14_some k)) (G_althinglaw14_few k)
theorem ok_althinglaw14_some : GOk Tryz.prog G_althinglaw14_some := ok_althinglaw14_few.ins fun k => by rw [show althinglaw14_some k = althinglaw14_some.raw k from congrFun (sealed_eq althinglaw14_some.raw) k]; exact runF_ok tabOk ok_althinglaw14_few mix Tryz.func31 Tryz.call31 althinglaw14_some.cuts althinglaw14_some.ps althinglaw14_some.r (by rw [Tryz.ntmps31]; decide) k
def quorum_sizes.s3 : List CK := [.tmp 0 Ty.i64, .ptr 2 2 (.arr 3 Ty.i64), .box 2 (.arr 3 Ty.i64) []]
def quorum_sizes.cuts : List (Nat × List CK) := [(3, quorum_sizes.s3)]
abbrev quorum_sizes.ps : List PK := [.val Ty.i64]
abbrev quorum_sizes.r : Ty := (.arr 3 Ty.i64)
noncomputable def quorum_sizes.raw (k : Nat) (a0 : Int) : Option (List Int) := runF Alg.std G_althinglaw14_some T Tryz.f89 quorum_sizes.cuts quorum_sizes.ps quorum_sizes.r k a0
noncomputable def quorum_sizes (k : Nat) (a0 : Int) : Option (List Int) := sealed quorum_sizes.raw k a0
theorem quorum_sizes_raw (k : Nat) (a0 : Int) : quorum_sizes k a0 = quorum_sizes.raw k a0 := by unfold quorum_sizes; rw [sealed_eq]
noncomputable def quorum_sizes.c3 (k : Nat) (x0 : Int) (b2 : List Int) : Option (List Int) := runC Alg.std G_althinglaw14_some T Tryz.f89 quorum_sizes.cuts quorum_sizes.r 3 quorum_sizes.s3 k (x0, (), b2, ())
noncomputable def G_quorum_sizes (k : Nat) : Gam := ins 89 (.pu quorum_sizes.ps quorum_sizes.r (quorum_sizes k)) (G_althinglaw14_some k)
theorem ok_quorum_sizes : GOk Tryz.prog G_quorum_sizes := ok_althinglaw14_some.ins fun k => by rw [show quorum_sizes k = quorum_sizes.raw k from congrFun (sealed_eq quorum_sizes.raw) k]; exact runF_ok tabOk ok_althinglaw14_some mix Tryz.func89 Tryz.call89 quorum_sizes.cuts quorum_sizes.ps quorum_sizes.r (by rw [Tryz.ntmps89]; decide) k
def quorum_Size.cuts : List (Nat × List CK) := []
abbrev quorum_Size.ps : List PK := [.val Ty.i64]
abbrev quorum_Size.r : Ty := Ty.i64
noncomputable def quorum_Size.raw (k : Nat) (a0 : Int) : Option Int := runF Alg.std G_quorum_sizes T Tryz.f77 quorum_Size.cuts quorum_Size.ps quorum_Size.r k a0
noncomputable def quorum_Size (k : Nat) (a0 : Int) : Option Int := sealed quorum_Size.raw k a0
theorem quorum_Size_raw (k : Nat) (a0 : Int) : quorum_Size k a0 = quorum_Size.raw k a0 := by unfold quorum_Size; rw [sealed_eq]
noncomputable def G_quorum_Size (k : Nat) : Gam := ins 77 (.pu quorum_Size.ps quorum_Size.r (quorum_Size k)) (G_quorum_sizes k)
theorem ok_quorum_Size : GOk Tryz.prog G_quorum_Size := ok_quorum_sizes.ins fun k => by rw [show quorum_Size k = quorum_Size.raw k from congrFun (sealed_eq quorum_Size.raw) k]; exact runF_ok tabOk ok_quorum_sizes mix Tryz.func77 Tryz.call77 quorum_Size.cuts quorum_Size.ps quorum_Size.r (by rw [Tryz.ntmps77]; decide) k
def lead_is.cuts : List (Nat × List CK) := []
abbrev lead_is.ps : List PK := [.val Ty.i64, .val Ty.i64]
abbrev lead_is.r : Ty := .bool
noncomputable def lead_is.raw (k : Nat) (a0 : Int) (a1 : Int) : Option Bool := runF Alg.std G_quorum_Size T Tryz.f53 lead_is.cuts lead_is.ps lead_is.r k a0 a1
noncomputable def lead_is (k : Nat) (a0 : Int) (a1 : Int) : Option Bool := sealed lead_is.raw k a0 a1
theorem lead_is_raw (k : Nat) (a0 : Int) (a1 : Int) : lead_is k a0 a1 = lead_is.raw k a0 a1 := by unfold lead_is; rw [sealed_eq]
noncomputable def G_lead_is (k : Nat) : Gam := ins 53 (.pu lead_is.ps lead_is.r (lead_is k)) (G_quorum_Size k)
theorem ok_lead_is : GOk Tryz.prog G_lead_is := ok_quorum_Size.ins fun k => by rw [show lead_is k = lead_is.raw k from congrFun (sealed_eq lead_is.raw) k]; exact runF_ok tabOk ok_quorum_Size mix Tryz.func53 Tryz.call53 lead_is.cuts lead_is.ps lead_is.r (by rw [Tryz.ntmps53]; decide) k
def slices_Equal_api_Read_api_Read.s4 : List CK := [.tmp 0 (.sl 96 Ty_api_Read), .tmp 1 (.sl 96 Ty_api_Read), .tmp 12 Ty.i64, .tmp 13 Ty.i64]
def slices_Equal_api_Read_api_Read.cuts : List (Nat × List CK) := [(4, slices_Equal_api_Read_api_Read.s4)]
abbrev slices_Equal_api_Read_api_Read.ps : List PK := [.val (.sl 96 Ty_api_Read), .val (.sl 96 Ty_api_Read)]
abbrev slices_Equal_api_Read_api_Read.r : Ty := .bool
noncomputable def slices_Equal_api_Read_api_Read.raw (k : Nat) (a0 : List Ty_api_Read.den) (a1 : List Ty_api_Read.den) : Option Bool := runF Alg.std G_lead_is T Tryz.f119 slices_Equal_api_Read_api_Read.cuts slices_Equal_api_Read_api_Read.ps slices_Equal_api_Read_api_Read.r k a0 a1
noncomputable def slices_Equal_api_Read_api_Read (k : Nat) (a0 : List Ty_api_Read.den) (a1 : List Ty_api_Read.den) : Option Bool := sealed slices_Equal_api_Read_api_Read.raw k a0 a1
theorem slices_Equal_api_Read_api_Read_raw (k : Nat) (a0 : List Ty_api_Read.den) (a1 : List Ty_api_Read.den) : slices_Equal_api_Read_api_Read k a0 a1 = slices_Equal_api_Read_api_Read.raw k a0 a1 := by unfold slices_Equal_api_Read_api_Read; rw [sealed_eq]
noncomputable def slices_Equal_api_Read_api_Read.c4 (k : Nat) (x0 : List Ty_api_Read.den) (x1 : List Ty_api_Read.den) (x12 : Int) (x13 : Int) : Option Bool := runC Alg.std G_lead_is T Tryz.f119 slices_Equal_api_Read_api_Read.cuts slices_Equal_api_Read_api_Read.r 4 slices_Equal_api_Read_api_Read.s4 k (x0, x1, x12, x13, ())
noncomputable def G_slices_Equal_api_Read_api_Read (k : Nat) : Gam := ins 119 (.pu slices_Equal_api_Read_api_Read.ps slices_Equal_api_Read_api_Read.r (slices_Equal_api_Read_api_Read k)) (G_lead_is k)
theorem ok_slices_Equal_api_Read_api_Read : GOk Tryz.prog G_slices_Equal_api_Read_api_Read := ok_lead_is.ins fun k => by rw [show slices_Equal_api_Read_api_Read k = slices_Equal_api_Read_api_Read.raw k from congrFun (sealed_eq slices_Equal_api_Read_api_Read.raw) k]; exact runF_ok tabOk ok_lead_is mix Tryz.func119 Tryz.call119 slices_Equal_api_Read_api_Read.cuts slices_Equal_api_Read_api_Read.ps slices_Equal_api_Read_api_Read.r (by rw [Tryz.ntmps119]; decide) k
def slices_Equal_api_Write_api_Write.s4 : List CK := [.tmp 0 (.sl 98 Ty_api_Write), .tmp 1 (.sl 98 Ty_api_Write), .tmp 12 Ty.i64, .tmp 13 Ty.i64]
def slices_Equal_api_Write_api_Write.cuts : List (Nat × List CK) := [(4, slices_Equal_api_Write_api_Write.s4)]
abbrev slices_Equal_api_Write_api_Write.ps : List PK := [.val (.sl 98 Ty_api_Write), .val (.sl 98 Ty_api_Write)]
abbrev slices_Equal_api_Write_api_Write.r : Ty := .bool
noncomputable def slices_Equal_api_Write_api_Write.raw (k : Nat) (a0 : List Ty_api_Write.den) (a1 : List Ty_api_Write.den) : Option Bool := runF Alg.std G_slices_Equal_api_Read_api_Read T Tryz.f120 slices_Equal_api_Write_api_Write.cuts slices_Equal_api_Write_api_Write.ps slices_Equal_api_Write_api_Write.r k a0 a1
noncomputable def slices_Equal_api_Write_api_Write (k : Nat) (a0 : List Ty_api_Write.den) (a1 : List Ty_api_Write.den) : Option Bool := sealed slices_Equal_api_Write_api_Write.raw k a0 a1
theorem slices_Equal_api_Write_api_Write_raw (k : Nat) (a0 : List Ty_api_Write.den) (a1 : List Ty_api_Write.den) : slices_Equal_api_Write_api_Write k a0 a1 = slices_Equal_api_Write_api_Write.raw k a0 a1 := by unfold slices_Equal_api_Write_api_Write; rw [sealed_eq]
noncomputable def slices_Equal_api_Write_api_Write.c4 (k : Nat) (x0 : List Ty_api_Write.den) (x1 : List Ty_api_Write.den) (x12 : Int) (x13 : Int) : Option Bool := runC Alg.std G_slices_Equal_api_Read_api_Read T Tryz.f120 slices_Equal_api_Write_api_Write.cuts slices_Equal_api_Write_api_Write.r 4 slices_Equal_api_Write_api_Write.s4 k (x0, x1, x12, x13, ())
noncomputable def G_slices_Equal_api_Write_api_Write (k : Nat) : Gam := ins 120 (.pu slices_Equal_api_Write_api_Write.ps slices_Equal_api_Write_api_Write.r (slices_Equal_api_Write_api_Write k)) (G_slices_Equal_api_Read_api_Read k)
theorem ok_slices_Equal_api_Write_api_Write : GOk Tryz.prog G_slices_Equal_api_Write_api_Write := ok_slices_Equal_api_Read_api_Read.ins fun k => by rw [show slices_Equal_api_Write_api_Write k = slices_Equal_api_Write_api_Write.raw k from congrFun (sealed_eq slices_Equal_api_Write_api_Write.raw) k]; exact runF_ok tabOk ok_slices_Equal_api_Read_api_Read mix Tryz.func120 Tryz.call120 slices_Equal_api_Write_api_Write.cuts slices_Equal_api_Write_api_Write.ps slices_Equal_api_Write_api_Write.r (by rw [Tryz.ntmps120]; decide) k
def command_Same.cuts : List (Nat × List CK) := []
abbrev command_Same.ps : List PK := [.val Ty_api_Command, .val Ty_api_Command]
abbrev command_Same.r : Ty := .bool
noncomputable def command_Same.raw (k : Nat) (a0 : Ty_api_Command.den) (a1 : Ty_api_Command.den) : Option Bool := runF Alg.std G_slices_Equal_api_Write_api_Write T Tryz.f102 command_Same.cuts command_Same.ps command_Same.r k a0 a1
noncomputable def command_Same (k : Nat) (a0 : Ty_api_Command.den) (a1 : Ty_api_Command.den) : Option Bool := sealed command_Same.raw k a0 a1
theorem command_Same_raw (k : Nat) (a0 : Ty_api_Command.den) (a1 : Ty_api_Command.den) : command_Same k a0 a1 = command_Same.raw k a0 a1 := by unfold command_Same; rw [sealed_eq]
noncomputable def G_command_Same (k : Nat) : Gam := ins 102 (.pu command_Same.ps command_Same.r (command_Same k)) (G_slices_Equal_api_Write_api_Write k)
theorem ok_command_Same : GOk Tryz.prog G_command_Same := ok_slices_Equal_api_Write_api_Write.ins fun k => by rw [show command_Same k = command_Same.raw k from congrFun (sealed_eq command_Same.raw) k]; exact runF_ok tabOk ok_slices_Equal_api_Write_api_Write mix Tryz.func102 Tryz.call102 command_Same.cuts command_Same.ps command_Same.r (by rw [Tryz.ntmps102]; decide) k
def stamp_within_int.cuts : List (Nat × List CK) := []
abbrev stamp_within_int.ps : List PK := [.val Ty.i64, .val Ty.i64, .val Ty.i64]
abbrev stamp_within_int.r : Ty := .bool
noncomputable def stamp_within_int.raw (k : Nat) (a0 : Int) (a1 : Int) (a2 : Int) : Option Bool := runF Alg.std G_command_Same T Tryz.f84 stamp_within_int.cuts stamp_within_int.ps stamp_within_int.r k a0 a1 a2
noncomputable def stamp_within_int (k : Nat) (a0 : Int) (a1 : Int) (a2 : Int) : Option Bool := sealed stamp_within_int.raw k a0 a1 a2
theorem stamp_within_int_raw (k : Nat) (a0 : Int) (a1 : Int) (a2 : Int) : stamp_within_int k a0 a1 a2 = stamp_within_int.raw k a0 a1 a2 := by unfold stamp_within_int; rw [sealed_eq]
noncomputable def G_stamp_within_int (k : Nat) : Gam := ins 84 (.pu stamp_within_int.ps stamp_within_int.r (stamp_within_int k)) (G_command_Same k)
theorem ok_stamp_within_int : GOk Tryz.prog G_stamp_within_int := ok_command_Same.ins fun k => by rw [show stamp_within_int k = stamp_within_int.raw k from congrFun (sealed_eq stamp_within_int.raw) k]; exact runF_ok tabOk ok_command_Same mix Tryz.func84 Tryz.call84 stamp_within_int.cuts stamp_within_int.ps stamp_within_int.r (by rw [Tryz.ntmps84]; decide) k
def stamp_RightTxn.cuts : List (Nat × List CK) := []
abbrev stamp_RightTxn.ps : List PK := [.val Ty_api_Instance]
abbrev stamp_RightTxn.r : Ty := .bool
noncomputable def stamp_RightTxn.raw (k : Nat) (a0 : Ty_api_Instance.den) : Option Bool := runF Alg.std G_stamp_within_int T Tryz.f103 stamp_RightTxn.cuts stamp_RightTxn.ps stamp_RightTxn.r k a0
noncomputable def stamp_RightTxn (k : Nat) (a0 : Ty_api_Instance.den) : Option Bool := sealed stamp_RightTxn.raw k a0
theorem stamp_RightTxn_raw (k : Nat) (a0 : Ty_api_Instance.den) : stamp_RightTxn k a0 = stamp_RightTxn.raw k a0 := by unfold stamp_RightTxn; rw [sealed_eq]
noncomputable def G_stamp_RightTxn (k : Nat) : Gam := ins 103 (.pu stamp_RightTxn.ps stamp_RightTxn.r (stamp_RightTxn k)) (G_stamp_within_int k)
theorem ok_stamp_RightTxn : GOk Tryz.prog G_stamp_RightTxn := ok_stamp_within_int.ins fun k => by rw [show stamp_RightTxn k = stamp_RightTxn.raw k from congrFun (sealed_eq stamp_RightTxn.raw) k]; exact runF_ok tabOk ok_stamp_within_int mix Tryz.func103 Tryz.call103 stamp_RightTxn.cuts stamp_RightTxn.ps stamp_RightTxn.r (by rw [Tryz.ntmps103]; decide) k
def stamp_RightStamp.cuts : List (Nat × List CK) := []
abbrev stamp_RightStamp.ps : List PK := [.val Ty_api_Instance]
abbrev stamp_RightStamp.r : Ty := .bool
noncomputable def stamp_RightStamp.raw (k : Nat) (a0 : Ty_api_Instance.den) : Option Bool := runF Alg.std G_stamp_RightTxn T Tryz.f104 stamp_RightStamp.cuts stamp_RightStamp.ps stamp_RightStamp.r k a0
noncomputable def stamp_RightStamp (k : Nat) (a0 : Ty_api_Instance.den) : Option Bool := sealed stamp_RightStamp.raw k a0
theorem stamp_RightStamp_raw (k : Nat) (a0 : Ty_api_Instance.den) : stamp_RightStamp k a0 = stamp_RightStamp.raw k a0 := by unfold stamp_RightStamp; rw [sealed_eq]
noncomputable def G_stamp_RightStamp (k : Nat) : Gam := ins 104 (.pu stamp_RightStamp.ps stamp_RightStamp.r (stamp_RightStamp k)) (G_stamp_RightTxn k)
theorem ok_stamp_RightStamp : GOk Tryz.prog G_stamp_RightStamp := ok_stamp_RightTxn.ins fun k => by rw [show stamp_RightStamp k = stamp_RightStamp.raw k from congrFun (sealed_eq stamp_RightStamp.raw) k]; exact runF_ok tabOk ok_stamp_RightTxn mix Tryz.func104 Tryz.call104 stamp_RightStamp.cuts stamp_RightStamp.ps stamp_RightStamp.r (by rw [Tryz.ntmps104]; decide) k
def stamp_order.s3 : List CK := [.tmp 0 Ty.i64, .tmp 1 Ty.i64, .tmp 2 Ty.i64, .tmp 3 Ty.i64]
def stamp_order.cuts : List (Nat × List CK) := [(3, stamp_order.s3)]
abbrev stamp_order.ps : List PK := [.val Ty.i64, .val Ty.i64, .val Ty.i64, .val Ty.i64]
abbrev stamp_order.r : Ty := Ty.i64
noncomputable def stamp_order.raw (k : Nat) (a0 : Int) (a1 : Int) (a2 : Int) (a3 : Int) : Option Int := runF Alg.std G_stamp_RightStamp T Tryz.f65 stamp_order.cuts stamp_order.ps stamp_order.r k a0 a1 a2 a3
noncomputable def stamp_order (k : Nat) (a0 : Int) (a1 : Int) (a2 : Int) (a3 : Int) : Option Int := sealed stamp_order.raw k a0 a1 a2 a3
theorem stamp_order_raw (k : Nat) (a0 : Int) (a1 : Int) (a2 : Int) (a3 : Int) : stamp_order k a0 a1 a2 a3 = stamp_order.raw k a0 a1 a2 a3 := by unfold stamp_order; rw [sealed_eq]
noncomputable def stamp_order.c3 (k : Nat) (x0 : Int) (x1 : Int) (x2 : Int) (x3 : Int) : Option Int := runC Alg.std G_stamp_RightStamp T Tryz.f65 stamp_order.cuts stamp_order.r 3 stamp_order.s3 k (x0, x1, x2, x3, ())
noncomputable def G_stamp_order (k : Nat) : Gam := ins 65 (.pu stamp_order.ps stamp_order.r (stamp_order k)) (G_stamp_RightStamp k)
theorem ok_stamp_order : GOk Tryz.prog G_stamp_order := ok_stamp_RightStamp.ins fun k => by rw [show stamp_order k = stamp_order.raw k from congrFun (sealed_eq stamp_order.raw) k]; exact runF_ok tabOk ok_stamp_RightStamp mix Tryz.func65 Tryz.call65 stamp_order.cuts stamp_order.ps stamp_order.r (by rw [Tryz.ntmps65]; decide) k
def stamp_CompareStamps.cuts : List (Nat × List CK) := []
abbrev stamp_CompareStamps.ps : List PK := [.val Ty_api_Instance, .val Ty_api_Instance]
abbrev stamp_CompareStamps.r : Ty := Ty.i64
noncomputable def stamp_CompareStamps.raw (k : Nat) (a0 : Ty_api_Instance.den) (a1 : Ty_api_Instance.den) : Option Int := runF Alg.std G_stamp_order T Tryz.f106 stamp_CompareStamps.cuts stamp_CompareStamps.ps stamp_CompareStamps.r k a0 a1
noncomputable def stamp_CompareStamps (k : Nat) (a0 : Ty_api_Instance.den) (a1 : Ty_api_Instance.den) : Option Int := sealed stamp_CompareStamps.raw k a0 a1
theorem stamp_CompareStamps_raw (k : Nat) (a0 : Ty_api_Instance.den) (a1 : Ty_api_Instance.den) : stamp_CompareStamps k a0 a1 = stamp_CompareStamps.raw k a0 a1 := by unfold stamp_CompareStamps; rw [sealed_eq]
noncomputable def G_stamp_CompareStamps (k : Nat) : Gam := ins 106 (.pu stamp_CompareStamps.ps stamp_CompareStamps.r (stamp_CompareStamps k)) (G_stamp_order k)
theorem ok_stamp_CompareStamps : GOk Tryz.prog G_stamp_CompareStamps := ok_stamp_order.ins fun k => by rw [show stamp_CompareStamps k = stamp_CompareStamps.raw k from congrFun (sealed_eq stamp_CompareStamps.raw) k]; exact runF_ok tabOk ok_stamp_order mix Tryz.func106 Tryz.call106 stamp_CompareStamps.cuts stamp_CompareStamps.ps stamp_CompareStamps.r (by rw [Tryz.ntmps106]; decide) k
def command_Right_1.cuts : List (Nat × List CK) := []
abbrev command_Right_1.ps : List PK := [.val Ty_api_Read, .ro Ty_api_Command]
abbrev command_Right_1.r : Ty := .bool
noncomputable def command_Right_1.raw (k : Nat) (a0 : Ty_api_Read.den) (a1 : Ty_api_Command.den) : Option Bool := runF Alg.std G_stamp_CompareStamps T Tryz.f105 command_Right_1.cuts command_Right_1.ps command_Right_1.r k a0 a1
noncomputable def command_Right_1 (k : Nat) (a0 : Ty_api_Read.den) (a1 : Ty_api_Command.den) : Option Bool := sealed command_Right_1.raw k a0 a1
theorem command_Right_1_raw (k : Nat) (a0 : Ty_api_Read.den) (a1 : Ty_api_Command.den) : command_Right_1 k a0 a1 = command_Right_1.raw k a0 a1 := by unfold command_Right_1; rw [sealed_eq]
noncomputable def G_command_Right_1 (k : Nat) : Gam := ins 105 (.pu command_Right_1.ps command_Right_1.r (command_Right_1 k)) (G_stamp_CompareStamps k)
theorem ok_command_Right_1 : GOk Tryz.prog G_command_Right_1 := ok_stamp_CompareStamps.ins fun k => by rw [show command_Right_1 k = command_Right_1.raw k from congrFun (sealed_eq command_Right_1.raw) k]; exact runF_ok tabOk ok_stamp_CompareStamps mix Tryz.func105 Tryz.call105 command_Right_1.cuts command_Right_1.ps command_Right_1.r (by rw [Tryz.ntmps105]; decide) k
def keys_Right.cuts : List (Nat × List CK) := []
abbrev keys_Right.ps : List PK := [.val .str]
abbrev keys_Right.r : Ty := .bool
noncomputable def keys_Right.raw (k : Nat) (a0 : ByteArray) : Option Bool := runF Alg.std G_command_Right_1 T Tryz.f121 keys_Right.cuts keys_Right.ps keys_Right.r k a0
noncomputable def keys_Right (k : Nat) (a0 : ByteArray) : Option Bool := sealed keys_Right.raw k a0
theorem keys_Right_raw (k : Nat) (a0 : ByteArray) : keys_Right k a0 = keys_Right.raw k a0 := by unfold keys_Right; rw [sealed_eq]
noncomputable def G_keys_Right (k : Nat) : Gam := ins 121 (.pu keys_Right.ps keys_Right.r (keys_Right k)) (G_command_Right_1 k)
theorem ok_keys_Right : GOk Tryz.prog G_keys_Right := ok_command_Right_1.ins fun k => by rw [show keys_Right k = keys_Right.raw k from congrFun (sealed_eq keys_Right.raw) k]; exact runF_ok tabOk ok_command_Right_1 mix Tryz.func121 Tryz.call121 keys_Right.cuts keys_Right.ps keys_Right.r (by rw [Tryz.ntmps121]; decide) k
def keys_Rights.s2 : List CK := [.tmp 0 (.sl 9 .str), .tmp 5 (.sl 9 .str), .tmp 6 Ty.i64, .tmp 7 Ty.i64]
def keys_Rights.cuts : List (Nat × List CK) := [(2, keys_Rights.s2)]
abbrev keys_Rights.ps : List PK := [.val (.sl 9 .str)]
abbrev keys_Rights.r : Ty := .bool
noncomputable def keys_Rights.raw (k : Nat) (a0 : List ByteArray) : Option Bool := runF Alg.std G_keys_Right T Tryz.f107 keys_Rights.cuts keys_Rights.ps keys_Rights.r k a0
noncomputable def keys_Rights (k : Nat) (a0 : List ByteArray) : Option Bool := sealed keys_Rights.raw k a0
theorem keys_Rights_raw (k : Nat) (a0 : List ByteArray) : keys_Rights k a0 = keys_Rights.raw k a0 := by unfold keys_Rights; rw [sealed_eq]
noncomputable def keys_Rights.c2 (k : Nat) (x0 : List ByteArray) (x5 : List ByteArray) (x6 : Int) (x7 : Int) : Option Bool := runC Alg.std G_keys_Right T Tryz.f107 keys_Rights.cuts keys_Rights.r 2 keys_Rights.s2 k (x0, x5, x6, x7, ())
noncomputable def G_keys_Rights (k : Nat) : Gam := ins 107 (.pu keys_Rights.ps keys_Rights.r (keys_Rights k)) (G_keys_Right k)
theorem ok_keys_Rights : GOk Tryz.prog G_keys_Rights := ok_keys_Right.ins fun k => by rw [show keys_Rights k = keys_Rights.raw k from congrFun (sealed_eq keys_Rights.raw) k]; exact runF_ok tabOk ok_keys_Right mix Tryz.func107 Tryz.call107 keys_Rights.cuts keys_Rights.ps keys_Rights.r (by rw [Tryz.ntmps107]; decide) k
def command_Right.s7 : List CK := [.ptr 1 1 Ty_api_Command, .box 1 Ty_api_Command []]
def command_Right.s9 : List CK := [.ptr 1 1 Ty_api_Command, .box 1 Ty_api_Command []]
def command_Right.s11 : List CK := [.ptr 1 1 Ty_api_Command, .clo 3 105 [.ptr 1 Ty_api_Command], .tmp 74 (.sl 96 Ty_api_Read), .tmp 75 Ty.i64, .tmp 76 Ty.i64, .box 1 Ty_api_Command []]
def command_Right.s17 : List CK := [.ptr 1 1 Ty_api_Command, .tmp 86 (.sl 98 Ty_api_Write), .tmp 87 Ty.i64, .tmp 88 Ty.i64, .box 1 Ty_api_Command []]
def command_Right.cuts : List (Nat × List CK) := [(7, command_Right.s7), (9, command_Right.s9), (11, command_Right.s11), (17, command_Right.s17)]
abbrev command_Right.ps : List PK := [.val Ty_api_Command]
abbrev command_Right.r : Ty := .bool
noncomputable def command_Right.raw (k : Nat) (a0 : Ty_api_Command.den) : Option Bool := runF Alg.std G_keys_Rights T Tryz.f78 command_Right.cuts command_Right.ps command_Right.r k a0
noncomputable def command_Right (k : Nat) (a0 : Ty_api_Command.den) : Option Bool := sealed command_Right.raw k a0
theorem command_Right_raw (k : Nat) (a0 : Ty_api_Command.den) : command_Right k a0 = command_Right.raw k a0 := by unfold command_Right; rw [sealed_eq]
noncomputable def command_Right.c7 (k : Nat) (b1 : Ty_api_Command.den) : Option Bool := runC Alg.std G_keys_Rights T Tryz.f78 command_Right.cuts command_Right.r 7 command_Right.s7 k ((), b1, ())
noncomputable def command_Right.c9 (k : Nat) (b1 : Ty_api_Command.den) : Option Bool := runC Alg.std G_keys_Rights T Tryz.f78 command_Right.cuts command_Right.r 9 command_Right.s9 k ((), b1, ())
noncomputable def command_Right.c11 (k : Nat) (x74 : List Ty_api_Read.den) (x75 : Int) (x76 : Int) (b1 : Ty_api_Command.den) : Option Bool := runC Alg.std G_keys_Rights T Tryz.f78 command_Right.cuts command_Right.r 11 command_Right.s11 k ((), (), x74, x75, x76, b1, ())
noncomputable def command_Right.c17 (k : Nat) (x86 : List Ty_api_Write.den) (x87 : Int) (x88 : Int) (b1 : Ty_api_Command.den) : Option Bool := runC Alg.std G_keys_Rights T Tryz.f78 command_Right.cuts command_Right.r 17 command_Right.s17 k ((), x86, x87, x88, b1, ())
noncomputable def G_command_Right (k : Nat) : Gam := ins 78 (.pu command_Right.ps command_Right.r (command_Right k)) (G_keys_Rights k)
theorem ok_command_Right : GOk Tryz.prog G_command_Right := ok_keys_Rights.ins fun k => by rw [show command_Right k = command_Right.raw k from congrFun (sealed_eq command_Right.raw) k]; exact runF_ok tabOk ok_keys_Rights mix Tryz.func78 Tryz.call78 command_Right.cuts command_Right.ps command_Right.r (by rw [Tryz.ntmps78]; decide) k
def index_Slot.s3 : List CK := [.tmp 1 Ty.i64, .tmp 5 Ty.i64, .tmp 8 (.sl 37 Ty_api_Record), .tmp 9 Ty.i64, .tmp 10 Ty.i64]
def index_Slot.cuts : List (Nat × List CK) := [(3, index_Slot.s3)]
abbrev index_Slot.ps : List PK := [.val (.sl 37 Ty_api_Record), .val Ty.i64]
abbrev index_Slot.r : Ty := Ty.i64
noncomputable def index_Slot.raw (k : Nat) (a0 : List Ty_api_Record.den) (a1 : Int) : Option Int := runF Alg.std G_command_Right T Tryz.f79 index_Slot.cuts index_Slot.ps index_Slot.r k a0 a1
noncomputable def index_Slot (k : Nat) (a0 : List Ty_api_Record.den) (a1 : Int) : Option Int := sealed index_Slot.raw k a0 a1
theorem index_Slot_raw (k : Nat) (a0 : List Ty_api_Record.den) (a1 : Int) : index_Slot k a0 a1 = index_Slot.raw k a0 a1 := by unfold index_Slot; rw [sealed_eq]
noncomputable def index_Slot.c3 (k : Nat) (x1 : Int) (x5 : Int) (x8 : List Ty_api_Record.den) (x9 : Int) (x10 : Int) : Option Int := runC Alg.std G_command_Right T Tryz.f79 index_Slot.cuts index_Slot.r 3 index_Slot.s3 k (x1, x5, x8, x9, x10, ())
noncomputable def G_index_Slot (k : Nat) : Gam := ins 79 (.pu index_Slot.ps index_Slot.r (index_Slot k)) (G_command_Right k)
theorem ok_index_Slot : GOk Tryz.prog G_index_Slot := ok_command_Right.ins fun k => by rw [show index_Slot k = index_Slot.raw k from congrFun (sealed_eq index_Slot.raw) k]; exact runF_ok tabOk ok_command_Right mix Tryz.func79 Tryz.call79 index_Slot.cuts index_Slot.ps index_Slot.r (by rw [Tryz.ntmps79]; decide) k
noncomputable def G_index_Against (k : Nat) : Gam := ins 110 (index_Against.spec k) (G_index_Slot k)
theorem ok_index_Against : GOk Tryz.prog G_index_Against := ok_index_Slot.ins (index_Against.ok)
def deps_is.cuts : List (Nat × List CK) := []
abbrev deps_is.ps : List PK := [.val Ty_api_Instance]
abbrev deps_is.r : Ty := .bool
noncomputable def deps_is.raw (k : Nat) (a0 : Ty_api_Instance.den) : Option Bool := runF Alg.std G_index_Against T Tryz.f126 deps_is.cuts deps_is.ps deps_is.r k a0
noncomputable def deps_is (k : Nat) (a0 : Ty_api_Instance.den) : Option Bool := sealed deps_is.raw k a0
theorem deps_is_raw (k : Nat) (a0 : Ty_api_Instance.den) : deps_is k a0 = deps_is.raw k a0 := by unfold deps_is; rw [sealed_eq]
noncomputable def G_deps_is (k : Nat) : Gam := ins 126 (.pu deps_is.ps deps_is.r (deps_is k)) (G_index_Against k)
theorem ok_deps_is : GOk Tryz.prog G_deps_is := ok_index_Against.ins fun k => by rw [show deps_is k = deps_is.raw k from congrFun (sealed_eq deps_is.raw) k]; exact runF_ok tabOk ok_index_Against mix Tryz.func126 Tryz.call126 deps_is.cuts deps_is.ps deps_is.r (by rw [Tryz.ntmps126]; decide) k
def deps_With.cuts : List (Nat × List CK) := []
abbrev deps_With.ps : List PK := [.val Ty_api_Deps, .val Ty_api_Instance]
abbrev deps_With.r : Ty := Ty_api_Deps
noncomputable def deps_With.raw (k : Nat) (a0 : Ty_api_Deps.den) (a1 : Ty_api_Instance.den) : Option Ty_api_Deps.den := runF Alg.std G_deps_is T Tryz.f111 deps_With.cuts deps_With.ps deps_With.r k a0 a1
noncomputable def deps_With (k : Nat) (a0 : Ty_api_Deps.den) (a1 : Ty_api_Instance.den) : Option Ty_api_Deps.den := sealed deps_With.raw k a0 a1
theorem deps_With_raw (k : Nat) (a0 : Ty_api_Deps.den) (a1 : Ty_api_Instance.den) : deps_With k a0 a1 = deps_With.raw k a0 a1 := by unfold deps_With; rw [sealed_eq]
noncomputable def G_deps_With (k : Nat) : Gam := ins 111 (.pu deps_With.ps deps_With.r (deps_With k)) (G_deps_is k)
theorem ok_deps_With : GOk Tryz.prog G_deps_With := ok_deps_is.ins fun k => by rw [show deps_With k = deps_With.raw k from congrFun (sealed_eq deps_With.raw) k]; exact runF_ok tabOk ok_deps_is mix Tryz.func111 Tryz.call111 deps_With.cuts deps_With.ps deps_With.r (by rw [Tryz.ntmps111]; decide) k
def index_Attrs.s2 : List CK := [.tmp 3 Ty.i64, .ptr 9 9 Ty_api_Deps, .ptr 11 11 Ty_api_Deps, .tmp 17 (.sl 37 Ty_api_Record), .tmp 18 Ty.i64, .tmp 19 Ty.i64, .box 9 Ty_api_Deps [], .box 11 Ty_api_Deps []]
def index_Attrs.cuts : List (Nat × List CK) := [(2, index_Attrs.s2)]
abbrev index_Attrs.ps : List PK := [.val (.sl 37 Ty_api_Record), .val Ty_api_Instance, .val Ty_api_Command, .val Ty.i64, .val Ty_api_Deps]
abbrev index_Attrs.r : Ty := (.tup (.pair Ty.i64 Ty_api_Deps))
noncomputable def index_Attrs.raw (k : Nat) (a0 : List Ty_api_Record.den) (a1 : Ty_api_Instance.den) (a2 : Ty_api_Command.den) (a3 : Int) (a4 : Ty_api_Deps.den) : Option (Int × Ty_api_Deps.den) := runF Alg.std G_deps_With T Tryz.f80 index_Attrs.cuts index_Attrs.ps index_Attrs.r k a0 a1 a2 a3 a4
noncomputable def index_Attrs (k : Nat) (a0 : List Ty_api_Record.den) (a1 : Ty_api_Instance.den) (a2 : Ty_api_Command.den) (a3 : Int) (a4 : Ty_api_Deps.den) : Option (Int × Ty_api_Deps.den) := sealed index_Attrs.raw k a0 a1 a2 a3 a4
theorem index_Attrs_raw (k : Nat) (a0 : List Ty_api_Record.den) (a1 : Ty_api_Instance.den) (a2 : Ty_api_Command.den) (a3 : Int) (a4 : Ty_api_Deps.den) : index_Attrs k a0 a1 a2 a3 a4 = index_Attrs.raw k a0 a1 a2 a3 a4 := by unfold index_Attrs; rw [sealed_eq]
noncomputable def index_Attrs.c2 (k : Nat) (x3 : Int) (x17 : List Ty_api_Record.den) (x18 : Int) (x19 : Int) (b9 : Ty_api_Deps.den) (b11 : Ty_api_Deps.den) : Option (Int × Ty_api_Deps.den) := runC Alg.std G_deps_With T Tryz.f80 index_Attrs.cuts index_Attrs.r 2 index_Attrs.s2 k (x3, (), (), x17, x18, x19, b9, b11, ())
noncomputable def G_index_Attrs (k : Nat) : Gam := ins 80 (.pu index_Attrs.ps index_Attrs.r (index_Attrs k)) (G_deps_With k)
theorem ok_index_Attrs : GOk Tryz.prog G_index_Attrs := ok_deps_With.ins fun k => by rw [show index_Attrs k = index_Attrs.raw k from congrFun (sealed_eq index_Attrs.raw) k]; exact runF_ok tabOk ok_deps_With mix Tryz.func80 Tryz.call80 index_Attrs.cuts index_Attrs.ps index_Attrs.r (by rw [Tryz.ntmps80]; decide) k
def accept_own.cuts : List (Nat × List CK) := []
abbrev accept_own.ps : List PK := [.val Ty_api_Record]
abbrev accept_own.r : Ty := Ty_api_Record
noncomputable def accept_own.raw (k : Nat) (a0 : Ty_api_Record.den) : Option Ty_api_Record.den := runF Alg.std G_index_Attrs T Tryz.f47 accept_own.cuts accept_own.ps accept_own.r k a0
noncomputable def accept_own (k : Nat) (a0 : Ty_api_Record.den) : Option Ty_api_Record.den := sealed accept_own.raw k a0
theorem accept_own_raw (k : Nat) (a0 : Ty_api_Record.den) : accept_own k a0 = accept_own.raw k a0 := by unfold accept_own; rw [sealed_eq]
noncomputable def G_accept_own (k : Nat) : Gam := ins 47 (.pu accept_own.ps accept_own.r (accept_own k)) (G_index_Attrs k)
theorem ok_accept_own : GOk Tryz.prog G_accept_own := ok_index_Attrs.ins fun k => by rw [show accept_own k = accept_own.raw k from congrFun (sealed_eq accept_own.raw) k]; exact runF_ok tabOk ok_index_Attrs mix Tryz.func47 Tryz.call47 accept_own.cuts accept_own.ps accept_own.r (by rw [Tryz.ntmps47]; decide) k
def accept_Begin.s3 : List CK := [.tmp 0 (.sl 37 Ty_api_Record), .tmp 1 Ty.i64, .ptr 5 5 Ty_api_Command, .ptr 6 6 Ty_api_Record, .box 5 Ty_api_Command [], .box 6 Ty_api_Record []]
def accept_Begin.cuts : List (Nat × List CK) := [(3, accept_Begin.s3)]
abbrev accept_Begin.ps : List PK := [.val (.sl 37 Ty_api_Record), .val Ty.i64, .val Ty_api_Command]
abbrev accept_Begin.r : Ty := (.tup (.pair Ty_api_Record Ty.i64))
noncomputable def accept_Begin.raw (k : Nat) (a0 : List Ty_api_Record.den) (a1 : Int) (a2 : Ty_api_Command.den) : Option (Ty_api_Record.den × Int) := runF Alg.std G_accept_own T Tryz.f54 accept_Begin.cuts accept_Begin.ps accept_Begin.r k a0 a1 a2
noncomputable def accept_Begin (k : Nat) (a0 : List Ty_api_Record.den) (a1 : Int) (a2 : Ty_api_Command.den) : Option (Ty_api_Record.den × Int) := sealed accept_Begin.raw k a0 a1 a2
theorem accept_Begin_raw (k : Nat) (a0 : List Ty_api_Record.den) (a1 : Int) (a2 : Ty_api_Command.den) : accept_Begin k a0 a1 a2 = accept_Begin.raw k a0 a1 a2 := by unfold accept_Begin; rw [sealed_eq]
noncomputable def accept_Begin.c3 (k : Nat) (x0 : List Ty_api_Record.den) (x1 : Int) (b5 : Ty_api_Command.den) (b6 : Ty_api_Record.den) : Option (Ty_api_Record.den × Int) := runC Alg.std G_accept_own T Tryz.f54 accept_Begin.cuts accept_Begin.r 3 accept_Begin.s3 k (x0, x1, (), (), b5, b6, ())
noncomputable def G_accept_Begin (k : Nat) : Gam := ins 54 (.pu accept_Begin.ps accept_Begin.r (accept_Begin k)) (G_accept_own k)
theorem ok_accept_Begin : GOk Tryz.prog G_accept_Begin := ok_accept_own.ins fun k => by rw [show accept_Begin k = accept_Begin.raw k from congrFun (sealed_eq accept_Begin.raw) k]; exact runF_ok tabOk ok_accept_own mix Tryz.func54 Tryz.call54 accept_Begin.cuts accept_Begin.ps accept_Begin.r (by rw [Tryz.ntmps54]; decide) k
def lead_own.cuts : List (Nat × List CK) := []
abbrev lead_own.ps : List PK := [.val Ty_api_Record]
abbrev lead_own.r : Ty := Ty_api_Record
noncomputable def lead_own.raw (k : Nat) (a0 : Ty_api_Record.den) : Option Ty_api_Record.den := runF Alg.std G_accept_Begin T Tryz.f50 lead_own.cuts lead_own.ps lead_own.r k a0
noncomputable def lead_own (k : Nat) (a0 : Ty_api_Record.den) : Option Ty_api_Record.den := sealed lead_own.raw k a0
theorem lead_own_raw (k : Nat) (a0 : Ty_api_Record.den) : lead_own k a0 = lead_own.raw k a0 := by unfold lead_own; rw [sealed_eq]
noncomputable def G_lead_own (k : Nat) : Gam := ins 50 (.pu lead_own.ps lead_own.r (lead_own k)) (G_accept_Begin k)
theorem ok_lead_own : GOk Tryz.prog G_lead_own := ok_accept_Begin.ins fun k => by rw [show lead_own k = lead_own.raw k from congrFun (sealed_eq lead_own.raw) k]; exact runF_ok tabOk ok_accept_Begin mix Tryz.func50 Tryz.call50 lead_own.cuts lead_own.ps lead_own.r (by rw [Tryz.ntmps50]; decide) k
def lead_told.cuts : List (Nat × List CK) := []
abbrev lead_told.ps : List PK := [.val Ty_api_Record, .val Ty.i64, .val Ty_api_Record]
abbrev lead_told.r : Ty := Ty_lead_Step
noncomputable def lead_told.raw (k : Nat) (a0 : Ty_api_Record.den) (a1 : Int) (a2 : Ty_api_Record.den) : Option Ty_lead_Step.den := runF Alg.std G_lead_own T Tryz.f55 lead_told.cuts lead_told.ps lead_told.r k a0 a1 a2
noncomputable def lead_told (k : Nat) (a0 : Ty_api_Record.den) (a1 : Int) (a2 : Ty_api_Record.den) : Option Ty_lead_Step.den := sealed lead_told.raw k a0 a1 a2
theorem lead_told_raw (k : Nat) (a0 : Ty_api_Record.den) (a1 : Int) (a2 : Ty_api_Record.den) : lead_told k a0 a1 a2 = lead_told.raw k a0 a1 a2 := by unfold lead_told; rw [sealed_eq]
noncomputable def G_lead_told (k : Nat) : Gam := ins 55 (.pu lead_told.ps lead_told.r (lead_told k)) (G_lead_own k)
theorem ok_lead_told : GOk Tryz.prog G_lead_told := ok_lead_own.ins fun k => by rw [show lead_told k = lead_told.raw k from congrFun (sealed_eq lead_told.raw) k]; exact runF_ok tabOk ok_lead_own mix Tryz.func55 Tryz.call55 lead_told.cuts lead_told.ps lead_told.r (by rw [Tryz.ntmps55]; decide) k
def lead_Start.cuts : List (Nat × List CK) := []
abbrev lead_Start.ps : List PK := [.val Ty.i64, .val Ty.i64, .val (.sl 37 Ty_api_Record), .val Ty_api_Command]
abbrev lead_Start.r : Ty := (.tup (.pair Ty_lead_Lead (.pair Ty_lead_Step Ty.i64)))
noncomputable def lead_Start.raw (k : Nat) (a0 : Int) (a1 : Int) (a2 : List Ty_api_Record.den) (a3 : Ty_api_Command.den) : Option (Ty_lead_Lead.den × Ty_lead_Step.den × Int) := runF Alg.std G_lead_told T Tryz.f25 lead_Start.cuts lead_Start.ps lead_Start.r k a0 a1 a2 a3
noncomputable def lead_Start (k : Nat) (a0 : Int) (a1 : Int) (a2 : List Ty_api_Record.den) (a3 : Ty_api_Command.den) : Option (Ty_lead_Lead.den × Ty_lead_Step.den × Int) := sealed lead_Start.raw k a0 a1 a2 a3
theorem lead_Start_raw (k : Nat) (a0 : Int) (a1 : Int) (a2 : List Ty_api_Record.den) (a3 : Ty_api_Command.den) : lead_Start k a0 a1 a2 a3 = lead_Start.raw k a0 a1 a2 a3 := by unfold lead_Start; rw [sealed_eq]
noncomputable def G_lead_Start (k : Nat) : Gam := ins 25 (.pu lead_Start.ps lead_Start.r (lead_Start k)) (G_lead_told k)
theorem ok_lead_Start : GOk Tryz.prog G_lead_Start := ok_lead_told.ins fun k => by rw [show lead_Start k = lead_Start.raw k from congrFun (sealed_eq lead_Start.raw) k]; exact runF_ok tabOk ok_lead_told mix Tryz.func25 Tryz.call25 lead_Start.cuts lead_Start.ps lead_Start.r (by rw [Tryz.ntmps25]; decide) k
def wire_within.cuts : List (Nat × List CK) := []
abbrev wire_within.ps : List PK := [.val Ty.i64, .val Ty.i64, .val Ty.i64]
abbrev wire_within.r : Ty := .bool
noncomputable def wire_within.raw (k : Nat) (a0 : Int) (a1 : Int) (a2 : Int) : Option Bool := runF Alg.std G_lead_Start T Tryz.f86 wire_within.cuts wire_within.ps wire_within.r k a0 a1 a2
noncomputable def wire_within (k : Nat) (a0 : Int) (a1 : Int) (a2 : Int) : Option Bool := sealed wire_within.raw k a0 a1 a2
theorem wire_within_raw (k : Nat) (a0 : Int) (a1 : Int) (a2 : Int) : wire_within k a0 a1 a2 = wire_within.raw k a0 a1 a2 := by unfold wire_within; rw [sealed_eq]
noncomputable def G_wire_within (k : Nat) : Gam := ins 86 (.pu wire_within.ps wire_within.r (wire_within k)) (G_lead_Start k)
theorem ok_wire_within : GOk Tryz.prog G_wire_within := ok_lead_Start.ins fun k => by rw [show wire_within k = wire_within.raw k from congrFun (sealed_eq wire_within.raw) k]; exact runF_ok tabOk ok_lead_Start mix Tryz.func86 Tryz.call86 wire_within.cuts wire_within.ps wire_within.r (by rw [Tryz.ntmps86]; decide) k
def stamp_RightBallot.cuts : List (Nat × List CK) := []
abbrev stamp_RightBallot.ps : List PK := [.val Ty_api_Instance]
abbrev stamp_RightBallot.r : Ty := .bool
noncomputable def stamp_RightBallot.raw (k : Nat) (a0 : Ty_api_Instance.den) : Option Bool := runF Alg.std G_wire_within T Tryz.f85 stamp_RightBallot.cuts stamp_RightBallot.ps stamp_RightBallot.r k a0
noncomputable def stamp_RightBallot (k : Nat) (a0 : Ty_api_Instance.den) : Option Bool := sealed stamp_RightBallot.raw k a0
theorem stamp_RightBallot_raw (k : Nat) (a0 : Ty_api_Instance.den) : stamp_RightBallot k a0 = stamp_RightBallot.raw k a0 := by unfold stamp_RightBallot; rw [sealed_eq]
noncomputable def G_stamp_RightBallot (k : Nat) : Gam := ins 85 (.pu stamp_RightBallot.ps stamp_RightBallot.r (stamp_RightBallot k)) (G_wire_within k)
theorem ok_stamp_RightBallot : GOk Tryz.prog G_stamp_RightBallot := ok_wire_within.ins fun k => by rw [show stamp_RightBallot k = stamp_RightBallot.raw k from congrFun (sealed_eq stamp_RightBallot.raw) k]; exact runF_ok tabOk ok_wire_within mix Tryz.func85 Tryz.call85 stamp_RightBallot.cuts stamp_RightBallot.ps stamp_RightBallot.r (by rw [Tryz.ntmps85]; decide) k
def stamp_RightInst.cuts : List (Nat × List CK) := []
abbrev stamp_RightInst.ps : List PK := [.val Ty_api_Instance]
abbrev stamp_RightInst.r : Ty := .bool
noncomputable def stamp_RightInst.raw (k : Nat) (a0 : Ty_api_Instance.den) : Option Bool := runF Alg.std G_stamp_RightBallot T Tryz.f59 stamp_RightInst.cuts stamp_RightInst.ps stamp_RightInst.r k a0
noncomputable def stamp_RightInst (k : Nat) (a0 : Ty_api_Instance.den) : Option Bool := sealed stamp_RightInst.raw k a0
theorem stamp_RightInst_raw (k : Nat) (a0 : Ty_api_Instance.den) : stamp_RightInst k a0 = stamp_RightInst.raw k a0 := by unfold stamp_RightInst; rw [sealed_eq]
noncomputable def G_stamp_RightInst (k : Nat) : Gam := ins 59 (.pu stamp_RightInst.ps stamp_RightInst.r (stamp_RightInst k)) (G_stamp_RightBallot k)
theorem ok_stamp_RightInst : GOk Tryz.prog G_stamp_RightInst := ok_stamp_RightBallot.ins fun k => by rw [show stamp_RightInst k = stamp_RightInst.raw k from congrFun (sealed_eq stamp_RightInst.raw) k]; exact runF_ok tabOk ok_stamp_RightBallot mix Tryz.func59 Tryz.call59 stamp_RightInst.cuts stamp_RightInst.ps stamp_RightInst.r (by rw [Tryz.ntmps59]; decide) k
def stamp_CompareBallots.cuts : List (Nat × List CK) := []
abbrev stamp_CompareBallots.ps : List PK := [.val Ty_api_Instance, .val Ty_api_Instance]
abbrev stamp_CompareBallots.r : Ty := Ty.i64
noncomputable def stamp_CompareBallots.raw (k : Nat) (a0 : Ty_api_Instance.den) (a1 : Ty_api_Instance.den) : Option Int := runF Alg.std G_stamp_RightInst T Tryz.f34 stamp_CompareBallots.cuts stamp_CompareBallots.ps stamp_CompareBallots.r k a0 a1
noncomputable def stamp_CompareBallots (k : Nat) (a0 : Ty_api_Instance.den) (a1 : Ty_api_Instance.den) : Option Int := sealed stamp_CompareBallots.raw k a0 a1
theorem stamp_CompareBallots_raw (k : Nat) (a0 : Ty_api_Instance.den) (a1 : Ty_api_Instance.den) : stamp_CompareBallots k a0 a1 = stamp_CompareBallots.raw k a0 a1 := by unfold stamp_CompareBallots; rw [sealed_eq]
noncomputable def G_stamp_CompareBallots (k : Nat) : Gam := ins 34 (.pu stamp_CompareBallots.ps stamp_CompareBallots.r (stamp_CompareBallots k)) (G_stamp_RightInst k)
theorem ok_stamp_CompareBallots : GOk Tryz.prog G_stamp_CompareBallots := ok_stamp_RightInst.ins fun k => by rw [show stamp_CompareBallots k = stamp_CompareBallots.raw k from congrFun (sealed_eq stamp_CompareBallots.raw) k]; exact runF_ok tabOk ok_stamp_RightInst mix Tryz.func34 Tryz.call34 stamp_CompareBallots.cuts stamp_CompareBallots.ps stamp_CompareBallots.r (by rw [Tryz.ntmps34]; decide) k
def wire_SameRecord.cuts : List (Nat × List CK) := []
abbrev wire_SameRecord.ps : List PK := [.val Ty_api_Record, .val Ty_api_Record]
abbrev wire_SameRecord.r : Ty := .bool
noncomputable def wire_SameRecord.raw (k : Nat) (a0 : Ty_api_Record.den) (a1 : Ty_api_Record.den) : Option Bool := runF Alg.std G_stamp_CompareBallots T Tryz.f115 wire_SameRecord.cuts wire_SameRecord.ps wire_SameRecord.r k a0 a1
noncomputable def wire_SameRecord (k : Nat) (a0 : Ty_api_Record.den) (a1 : Ty_api_Record.den) : Option Bool := sealed wire_SameRecord.raw k a0 a1
theorem wire_SameRecord_raw (k : Nat) (a0 : Ty_api_Record.den) (a1 : Ty_api_Record.den) : wire_SameRecord k a0 a1 = wire_SameRecord.raw k a0 a1 := by unfold wire_SameRecord; rw [sealed_eq]
noncomputable def G_wire_SameRecord (k : Nat) : Gam := ins 115 (.pu wire_SameRecord.ps wire_SameRecord.r (wire_SameRecord k)) (G_stamp_CompareBallots k)
theorem ok_wire_SameRecord : GOk Tryz.prog G_wire_SameRecord := ok_stamp_CompareBallots.ins fun k => by rw [show wire_SameRecord k = wire_SameRecord.raw k from congrFun (sealed_eq wire_SameRecord.raw) k]; exact runF_ok tabOk ok_stamp_CompareBallots mix Tryz.func115 Tryz.call115 wire_SameRecord.cuts wire_SameRecord.ps wire_SameRecord.r (by rw [Tryz.ntmps115]; decide) k
def deps_Right.s2 : List CK := [.tmp 5 Ty_api_Deps, .tmp 6 Ty.i64]
def deps_Right.cuts : List (Nat × List CK) := [(2, deps_Right.s2)]
abbrev deps_Right.ps : List PK := [.val Ty_api_Deps]
abbrev deps_Right.r : Ty := .bool
noncomputable def deps_Right.raw (k : Nat) (a0 : Ty_api_Deps.den) : Option Bool := runF Alg.std G_wire_SameRecord T Tryz.f116 deps_Right.cuts deps_Right.ps deps_Right.r k a0
noncomputable def deps_Right (k : Nat) (a0 : Ty_api_Deps.den) : Option Bool := sealed deps_Right.raw k a0
theorem deps_Right_raw (k : Nat) (a0 : Ty_api_Deps.den) : deps_Right k a0 = deps_Right.raw k a0 := by unfold deps_Right; rw [sealed_eq]
noncomputable def deps_Right.c2 (k : Nat) (x5 : Ty_api_Deps.den) (x6 : Int) : Option Bool := runC Alg.std G_wire_SameRecord T Tryz.f116 deps_Right.cuts deps_Right.r 2 deps_Right.s2 k (x5, x6, ())
noncomputable def G_deps_Right (k : Nat) : Gam := ins 116 (.pu deps_Right.ps deps_Right.r (deps_Right k)) (G_wire_SameRecord k)
theorem ok_deps_Right : GOk Tryz.prog G_deps_Right := ok_wire_SameRecord.ins fun k => by rw [show deps_Right k = deps_Right.raw k from congrFun (sealed_eq deps_Right.raw) k]; exact runF_ok tabOk ok_wire_SameRecord mix Tryz.func116 Tryz.call116 deps_Right.cuts deps_Right.ps deps_Right.r (by rw [Tryz.ntmps116]; decide) k
def wire_RightRecord.s3 : List CK := [.ptr 1 1 Ty_api_Record, .box 1 Ty_api_Record []]
def wire_RightRecord.cuts : List (Nat × List CK) := [(3, wire_RightRecord.s3)]
abbrev wire_RightRecord.ps : List PK := [.val Ty_api_Record]
abbrev wire_RightRecord.r : Ty := .bool
noncomputable def wire_RightRecord.raw (k : Nat) (a0 : Ty_api_Record.den) : Option Bool := runF Alg.std G_deps_Right T Tryz.f87 wire_RightRecord.cuts wire_RightRecord.ps wire_RightRecord.r k a0
noncomputable def wire_RightRecord (k : Nat) (a0 : Ty_api_Record.den) : Option Bool := sealed wire_RightRecord.raw k a0
theorem wire_RightRecord_raw (k : Nat) (a0 : Ty_api_Record.den) : wire_RightRecord k a0 = wire_RightRecord.raw k a0 := by unfold wire_RightRecord; rw [sealed_eq]
noncomputable def wire_RightRecord.c3 (k : Nat) (b1 : Ty_api_Record.den) : Option Bool := runC Alg.std G_deps_Right T Tryz.f87 wire_RightRecord.cuts wire_RightRecord.r 3 wire_RightRecord.s3 k ((), b1, ())
noncomputable def G_wire_RightRecord (k : Nat) : Gam := ins 87 (.pu wire_RightRecord.ps wire_RightRecord.r (wire_RightRecord k)) (G_deps_Right k)
theorem ok_wire_RightRecord : GOk Tryz.prog G_wire_RightRecord := ok_deps_Right.ins fun k => by rw [show wire_RightRecord k = wire_RightRecord.raw k from congrFun (sealed_eq wire_RightRecord.raw) k]; exact runF_ok tabOk ok_deps_Right mix Tryz.func87 Tryz.call87 wire_RightRecord.cuts wire_RightRecord.ps wire_RightRecord.r (by rw [Tryz.ntmps87]; decide) k
def wire_RightMessage.cuts : List (Nat × List CK) := []
abbrev wire_RightMessage.ps : List PK := [.val Ty_api_Message]
abbrev wire_RightMessage.r : Ty := .bool
noncomputable def wire_RightMessage.raw (k : Nat) (a0 : Ty_api_Message.den) : Option Bool := runF Alg.std G_wire_RightRecord T Tryz.f64 wire_RightMessage.cuts wire_RightMessage.ps wire_RightMessage.r k a0
noncomputable def wire_RightMessage (k : Nat) (a0 : Ty_api_Message.den) : Option Bool := sealed wire_RightMessage.raw k a0
theorem wire_RightMessage_raw (k : Nat) (a0 : Ty_api_Message.den) : wire_RightMessage k a0 = wire_RightMessage.raw k a0 := by unfold wire_RightMessage; rw [sealed_eq]
noncomputable def G_wire_RightMessage (k : Nat) : Gam := ins 64 (.pu wire_RightMessage.ps wire_RightMessage.r (wire_RightMessage k)) (G_wire_RightRecord k)
theorem ok_wire_RightMessage : GOk Tryz.prog G_wire_RightMessage := ok_wire_RightRecord.ins fun k => by rw [show wire_RightMessage k = wire_RightMessage.raw k from congrFun (sealed_eq wire_RightMessage.raw) k]; exact runF_ok tabOk ok_wire_RightRecord mix Tryz.func64 Tryz.call64 wire_RightMessage.cuts wire_RightMessage.ps wire_RightMessage.r (by rw [Tryz.ntmps64]; decide) k
def lead_Lead_ok.cuts : List (Nat × List CK) := []
abbrev lead_Lead_ok.ps : List PK := [.val Ty_lead_Lead, .val Ty_api_Message]
abbrev lead_Lead_ok.r : Ty := .bool
noncomputable def lead_Lead_ok.raw (k : Nat) (a0 : Ty_lead_Lead.den) (a1 : Ty_api_Message.den) : Option Bool := runF Alg.std G_wire_RightMessage T Tryz.f32 lead_Lead_ok.cuts lead_Lead_ok.ps lead_Lead_ok.r k a0 a1
noncomputable def lead_Lead_ok (k : Nat) (a0 : Ty_lead_Lead.den) (a1 : Ty_api_Message.den) : Option Bool := sealed lead_Lead_ok.raw k a0 a1
theorem lead_Lead_ok_raw (k : Nat) (a0 : Ty_lead_Lead.den) (a1 : Ty_api_Message.den) : lead_Lead_ok k a0 a1 = lead_Lead_ok.raw k a0 a1 := by unfold lead_Lead_ok; rw [sealed_eq]
noncomputable def G_lead_Lead_ok (k : Nat) : Gam := ins 32 (.pu lead_Lead_ok.ps lead_Lead_ok.r (lead_Lead_ok k)) (G_wire_RightMessage k)
theorem ok_lead_Lead_ok : GOk Tryz.prog G_lead_Lead_ok := ok_wire_RightMessage.ins fun k => by rw [show lead_Lead_ok k = lead_Lead_ok.raw k from congrFun (sealed_eq lead_Lead_ok.raw) k]; exact runF_ok tabOk ok_wire_RightMessage mix Tryz.func32 Tryz.call32 lead_Lead_ok.cuts lead_Lead_ok.ps lead_Lead_ok.r (by rw [Tryz.ntmps32]; decide) k
def accept_Know.s2 : List CK := [.tmp 0 (.sl 37 Ty_api_Record), .ptr 3 3 Ty_api_Instance, .ptr 4 4 Ty_api_Record, .tmp 5 Ty.i64, .box 3 Ty_api_Instance [], .box 4 Ty_api_Record []]
def accept_Know.cuts : List (Nat × List CK) := [(2, accept_Know.s2)]
abbrev accept_Know.ps : List PK := [.val (.sl 37 Ty_api_Record), .val Ty_api_Instance]
abbrev accept_Know.r : Ty := Ty_api_Record
noncomputable def accept_Know.raw (k : Nat) (a0 : List Ty_api_Record.den) (a1 : Ty_api_Instance.den) : Option Ty_api_Record.den := runF Alg.std G_lead_Lead_ok T Tryz.f18 accept_Know.cuts accept_Know.ps accept_Know.r k a0 a1
noncomputable def accept_Know (k : Nat) (a0 : List Ty_api_Record.den) (a1 : Ty_api_Instance.den) : Option Ty_api_Record.den := sealed accept_Know.raw k a0 a1
theorem accept_Know_raw (k : Nat) (a0 : List Ty_api_Record.den) (a1 : Ty_api_Instance.den) : accept_Know k a0 a1 = accept_Know.raw k a0 a1 := by unfold accept_Know; rw [sealed_eq]
noncomputable def accept_Know.c2 (k : Nat) (x0 : List Ty_api_Record.den) (x5 : Int) (b3 : Ty_api_Instance.den) (b4 : Ty_api_Record.den) : Option Ty_api_Record.den := runC Alg.std G_lead_Lead_ok T Tryz.f18 accept_Know.cuts accept_Know.r 2 accept_Know.s2 k (x0, (), (), x5, b3, b4, ())
noncomputable def G_accept_Know (k : Nat) : Gam := ins 18 (.pu accept_Know.ps accept_Know.r (accept_Know k)) (G_lead_Lead_ok k)
theorem ok_accept_Know : GOk Tryz.prog G_accept_Know := ok_lead_Lead_ok.ins fun k => by rw [show accept_Know k = accept_Know.raw k from congrFun (sealed_eq accept_Know.raw) k]; exact runF_ok tabOk ok_lead_Lead_ok mix Tryz.func18 Tryz.call18 accept_Know.cuts accept_Know.ps accept_Know.r (by rw [Tryz.ntmps18]; decide) k
def lead_Lead_lost.cuts : List (Nat × List CK) := []
abbrev lead_Lead_lost.ps : List PK := [.val Ty_lead_Lead, .val Ty_api_Record]
abbrev lead_Lead_lost.r : Ty := .bool
noncomputable def lead_Lead_lost.raw (k : Nat) (a0 : Ty_lead_Lead.den) (a1 : Ty_api_Record.den) : Option Bool := runF Alg.std G_accept_Know T Tryz.f33 lead_Lead_lost.cuts lead_Lead_lost.ps lead_Lead_lost.r k a0 a1
noncomputable def lead_Lead_lost (k : Nat) (a0 : Ty_lead_Lead.den) (a1 : Ty_api_Record.den) : Option Bool := sealed lead_Lead_lost.raw k a0 a1
theorem lead_Lead_lost_raw (k : Nat) (a0 : Ty_lead_Lead.den) (a1 : Ty_api_Record.den) : lead_Lead_lost k a0 a1 = lead_Lead_lost.raw k a0 a1 := by unfold lead_Lead_lost; rw [sealed_eq]
noncomputable def G_lead_Lead_lost (k : Nat) : Gam := ins 33 (.pu lead_Lead_lost.ps lead_Lead_lost.r (lead_Lead_lost k)) (G_accept_Know k)
theorem ok_lead_Lead_lost : GOk Tryz.prog G_lead_Lead_lost := ok_accept_Know.ins fun k => by rw [show lead_Lead_lost k = lead_Lead_lost.raw k from congrFun (sealed_eq lead_Lead_lost.raw) k]; exact runF_ok tabOk ok_accept_Know mix Tryz.func33 Tryz.call33 lead_Lead_lost.cuts lead_Lead_lost.ps lead_Lead_lost.r (by rw [Tryz.ntmps33]; decide) k
def quorum_Has.cuts : List (Nat × List CK) := []
abbrev quorum_Has.ps : List PK := [.val Ty.i64, .val Ty.i64]
abbrev quorum_Has.r : Ty := .bool
noncomputable def quorum_Has.raw (k : Nat) (a0 : Int) (a1 : Int) : Option Bool := runF Alg.std G_lead_Lead_lost T Tryz.f35 quorum_Has.cuts quorum_Has.ps quorum_Has.r k a0 a1
noncomputable def quorum_Has (k : Nat) (a0 : Int) (a1 : Int) : Option Bool := sealed quorum_Has.raw k a0 a1
theorem quorum_Has_raw (k : Nat) (a0 : Int) (a1 : Int) : quorum_Has k a0 a1 = quorum_Has.raw k a0 a1 := by unfold quorum_Has; rw [sealed_eq]
noncomputable def G_quorum_Has (k : Nat) : Gam := ins 35 (.pu quorum_Has.ps quorum_Has.r (quorum_Has k)) (G_lead_Lead_lost k)
theorem ok_quorum_Has : GOk Tryz.prog G_quorum_Has := ok_lead_Lead_lost.ins fun k => by rw [show quorum_Has k = quorum_Has.raw k from congrFun (sealed_eq quorum_Has.raw) k]; exact runF_ok tabOk ok_lead_Lead_lost mix Tryz.func35 Tryz.call35 quorum_Has.cuts quorum_Has.ps quorum_Has.r (by rw [Tryz.ntmps35]; decide) k
noncomputable def G_lead_Lead_Hear_1 (k : Nat) : Gam := ins 36 (lead_Lead_Hear_1.spec k) (G_quorum_Has k)
theorem ok_lead_Lead_Hear_1 : GOk Tryz.prog G_lead_Lead_Hear_1 := ok_quorum_Has.ins (lead_Lead_Hear_1.ok)
def deps_Join.s2 : List CK := [.ptr 2 2 Ty_api_Deps, .ptr 4 4 Ty_api_Deps, .tmp 7 Ty_api_Deps, .tmp 8 Ty.i64, .box 2 Ty_api_Deps [], .box 4 Ty_api_Deps []]
def deps_Join.cuts : List (Nat × List CK) := [(2, deps_Join.s2)]
abbrev deps_Join.ps : List PK := [.val Ty_api_Deps, .val Ty_api_Deps]
abbrev deps_Join.r : Ty := Ty_api_Deps
noncomputable def deps_Join.raw (k : Nat) (a0 : Ty_api_Deps.den) (a1 : Ty_api_Deps.den) : Option Ty_api_Deps.den := runF Alg.std G_lead_Lead_Hear_1 T Tryz.f67 deps_Join.cuts deps_Join.ps deps_Join.r k a0 a1
noncomputable def deps_Join (k : Nat) (a0 : Ty_api_Deps.den) (a1 : Ty_api_Deps.den) : Option Ty_api_Deps.den := sealed deps_Join.raw k a0 a1
theorem deps_Join_raw (k : Nat) (a0 : Ty_api_Deps.den) (a1 : Ty_api_Deps.den) : deps_Join k a0 a1 = deps_Join.raw k a0 a1 := by unfold deps_Join; rw [sealed_eq]
noncomputable def deps_Join.c2 (k : Nat) (x7 : Ty_api_Deps.den) (x8 : Int) (b2 : Ty_api_Deps.den) (b4 : Ty_api_Deps.den) : Option Ty_api_Deps.den := runC Alg.std G_lead_Lead_Hear_1 T Tryz.f67 deps_Join.cuts deps_Join.r 2 deps_Join.s2 k ((), (), x7, x8, b2, b4, ())
noncomputable def G_deps_Join (k : Nat) : Gam := ins 67 (.pu deps_Join.ps deps_Join.r (deps_Join k)) (G_lead_Lead_Hear_1 k)
theorem ok_deps_Join : GOk Tryz.prog G_deps_Join := ok_lead_Lead_Hear_1.ins fun k => by rw [show deps_Join k = deps_Join.raw k from congrFun (sealed_eq deps_Join.raw) k]; exact runF_ok tabOk ok_lead_Lead_Hear_1 mix Tryz.func67 Tryz.call67 deps_Join.cuts deps_Join.ps deps_Join.r (by rw [Tryz.ntmps67]; decide) k
def quorum_Members.s3 : List CK := [.tmp 0 Ty.i64, .own 3 3 Ty.i64, .tmp 5 Ty.i64]
def quorum_Members.cuts : List (Nat × List CK) := [(3, quorum_Members.s3)]
abbrev quorum_Members.ps : List PK := [.val Ty.i64]
abbrev quorum_Members.r : Ty := (.sl 3 Ty.i64)
noncomputable def quorum_Members.raw (k : Nat) (a0 : Int) : Option (List Int) := runF Alg.std G_deps_Join T Tryz.f88 quorum_Members.cuts quorum_Members.ps quorum_Members.r k a0
noncomputable def quorum_Members (k : Nat) (a0 : Int) : Option (List Int) := sealed quorum_Members.raw k a0
theorem quorum_Members_raw (k : Nat) (a0 : Int) : quorum_Members k a0 = quorum_Members.raw k a0 := by unfold quorum_Members; rw [sealed_eq]
noncomputable def quorum_Members.c3 (k : Nat) (x0 : Int) (x3 : List Int) (x5 : Int) : Option (List Int) := runC Alg.std G_deps_Join T Tryz.f88 quorum_Members.cuts quorum_Members.r 3 quorum_Members.s3 k (x0, x3, x5, ())
noncomputable def G_quorum_Members (k : Nat) : Gam := ins 88 (.pu quorum_Members.ps quorum_Members.r (quorum_Members k)) (G_deps_Join k)
theorem ok_quorum_Members : GOk Tryz.prog G_quorum_Members := ok_deps_Join.ins fun k => by rw [show quorum_Members k = quorum_Members.raw k from congrFun (sealed_eq quorum_Members.raw) k]; exact runF_ok tabOk ok_deps_Join mix Tryz.func88 Tryz.call88 quorum_Members.cuts quorum_Members.ps quorum_Members.r (by rw [Tryz.ntmps88]; decide) k
def quorum_Count.cuts : List (Nat × List CK) := []
abbrev quorum_Count.ps : List PK := [.val Ty.i64]
abbrev quorum_Count.r : Ty := Ty.i64
noncomputable def quorum_Count.raw (k : Nat) (a0 : Int) : Option Int := runF Alg.std G_quorum_Members T Tryz.f68 quorum_Count.cuts quorum_Count.ps quorum_Count.r k a0
noncomputable def quorum_Count (k : Nat) (a0 : Int) : Option Int := sealed quorum_Count.raw k a0
theorem quorum_Count_raw (k : Nat) (a0 : Int) : quorum_Count k a0 = quorum_Count.raw k a0 := by unfold quorum_Count; rw [sealed_eq]
noncomputable def G_quorum_Count (k : Nat) : Gam := ins 68 (.pu quorum_Count.ps quorum_Count.r (quorum_Count k)) (G_quorum_Members k)
theorem ok_quorum_Count : GOk Tryz.prog G_quorum_Count := ok_quorum_Members.ins fun k => by rw [show quorum_Count k = quorum_Count.raw k from congrFun (sealed_eq quorum_Count.raw) k]; exact runF_ok tabOk ok_quorum_Members mix Tryz.func68 Tryz.call68 quorum_Count.cuts quorum_Count.ps quorum_Count.r (by rw [Tryz.ntmps68]; decide) k
def quorum_Fast.cuts : List (Nat × List CK) := []
abbrev quorum_Fast.ps : List PK := [.val Ty.i64]
abbrev quorum_Fast.r : Ty := Ty.i64
noncomputable def quorum_Fast.raw (k : Nat) (a0 : Int) : Option Int := runF Alg.std G_quorum_Count T Tryz.f69 quorum_Fast.cuts quorum_Fast.ps quorum_Fast.r k a0
noncomputable def quorum_Fast (k : Nat) (a0 : Int) : Option Int := sealed quorum_Fast.raw k a0
theorem quorum_Fast_raw (k : Nat) (a0 : Int) : quorum_Fast k a0 = quorum_Fast.raw k a0 := by unfold quorum_Fast; rw [sealed_eq]
noncomputable def G_quorum_Fast (k : Nat) : Gam := ins 69 (.pu quorum_Fast.ps quorum_Fast.r (quorum_Fast k)) (G_quorum_Count k)
theorem ok_quorum_Fast : GOk Tryz.prog G_quorum_Fast := ok_quorum_Count.ins fun k => by rw [show quorum_Fast k = quorum_Fast.raw k from congrFun (sealed_eq quorum_Fast.raw) k]; exact runF_ok tabOk ok_quorum_Count mix Tryz.func69 Tryz.call69 quorum_Fast.cuts quorum_Fast.ps quorum_Fast.r (by rw [Tryz.ntmps69]; decide) k
def lead_Lead_commit.s4 : List CK := [.ptr 3 3 Ty_lead_Lead, .ptr 5 5 Ty_api_Record, .ptr 6 6 Ty_lead_Lead, .ptr 7 7 Ty_lead_Step, .box 3 Ty_lead_Lead [], .box 5 Ty_api_Record [], .box 6 Ty_lead_Lead [], .box 7 Ty_lead_Step []]
def lead_Lead_commit.cuts : List (Nat × List CK) := [(4, lead_Lead_commit.s4)]
abbrev lead_Lead_commit.ps : List PK := [.val Ty_lead_Lead, .val Ty_api_Record, .val Ty_api_Record]
abbrev lead_Lead_commit.r : Ty := (.tup (.pair Ty_lead_Lead Ty_lead_Step))
noncomputable def lead_Lead_commit.raw (k : Nat) (a0 : Ty_lead_Lead.den) (a1 : Ty_api_Record.den) (a2 : Ty_api_Record.den) : Option (Ty_lead_Lead.den × Ty_lead_Step.den) := runF Alg.std G_quorum_Fast T Tryz.f40 lead_Lead_commit.cuts lead_Lead_commit.ps lead_Lead_commit.r k a0 a1 a2
noncomputable def lead_Lead_commit (k : Nat) (a0 : Ty_lead_Lead.den) (a1 : Ty_api_Record.den) (a2 : Ty_api_Record.den) : Option (Ty_lead_Lead.den × Ty_lead_Step.den) := sealed lead_Lead_commit.raw k a0 a1 a2
theorem lead_Lead_commit_raw (k : Nat) (a0 : Ty_lead_Lead.den) (a1 : Ty_api_Record.den) (a2 : Ty_api_Record.den) : lead_Lead_commit k a0 a1 a2 = lead_Lead_commit.raw k a0 a1 a2 := by unfold lead_Lead_commit; rw [sealed_eq]
noncomputable def lead_Lead_commit.c4 (k : Nat) (b3 : Ty_lead_Lead.den) (b5 : Ty_api_Record.den) (b6 : Ty_lead_Lead.den) (b7 : Ty_lead_Step.den) : Option (Ty_lead_Lead.den × Ty_lead_Step.den) := runC Alg.std G_quorum_Fast T Tryz.f40 lead_Lead_commit.cuts lead_Lead_commit.r 4 lead_Lead_commit.s4 k ((), (), (), (), b3, b5, b6, b7, ())
noncomputable def G_lead_Lead_commit (k : Nat) : Gam := ins 40 (.pu lead_Lead_commit.ps lead_Lead_commit.r (lead_Lead_commit k)) (G_quorum_Fast k)
theorem ok_lead_Lead_commit : GOk Tryz.prog G_lead_Lead_commit := ok_quorum_Fast.ins fun k => by rw [show lead_Lead_commit k = lead_Lead_commit.raw k from congrFun (sealed_eq lead_Lead_commit.raw) k]; exact runF_ok tabOk ok_quorum_Fast mix Tryz.func40 Tryz.call40 lead_Lead_commit.cuts lead_Lead_commit.ps lead_Lead_commit.r (by rw [Tryz.ntmps40]; decide) k
def quorum_Slow.cuts : List (Nat × List CK) := []
abbrev quorum_Slow.ps : List PK := [.val Ty.i64]
abbrev quorum_Slow.r : Ty := Ty.i64
noncomputable def quorum_Slow.raw (k : Nat) (a0 : Int) : Option Int := runF Alg.std G_lead_Lead_commit T Tryz.f70 quorum_Slow.cuts quorum_Slow.ps quorum_Slow.r k a0
noncomputable def quorum_Slow (k : Nat) (a0 : Int) : Option Int := sealed quorum_Slow.raw k a0
theorem quorum_Slow_raw (k : Nat) (a0 : Int) : quorum_Slow k a0 = quorum_Slow.raw k a0 := by unfold quorum_Slow; rw [sealed_eq]
noncomputable def G_quorum_Slow (k : Nat) : Gam := ins 70 (.pu quorum_Slow.ps quorum_Slow.r (quorum_Slow k)) (G_lead_Lead_commit k)
theorem ok_quorum_Slow : GOk Tryz.prog G_quorum_Slow := ok_lead_Lead_commit.ins fun k => by rw [show quorum_Slow k = quorum_Slow.raw k from congrFun (sealed_eq quorum_Slow.raw) k]; exact runF_ok tabOk ok_lead_Lead_commit mix Tryz.func70 Tryz.call70 quorum_Slow.cuts quorum_Slow.ps quorum_Slow.r (by rw [Tryz.ntmps70]; decide) k
def quorum_All.cuts : List (Nat × List CK) := []
abbrev quorum_All.ps : List PK := [.val Ty.i64]
abbrev quorum_All.r : Ty := Ty.i64
noncomputable def quorum_All.raw (k : Nat) (a0 : Int) : Option Int := runF Alg.std G_quorum_Slow T Tryz.f71 quorum_All.cuts quorum_All.ps quorum_All.r k a0
noncomputable def quorum_All (k : Nat) (a0 : Int) : Option Int := sealed quorum_All.raw k a0
theorem quorum_All_raw (k : Nat) (a0 : Int) : quorum_All k a0 = quorum_All.raw k a0 := by unfold quorum_All; rw [sealed_eq]
noncomputable def G_quorum_All (k : Nat) : Gam := ins 71 (.pu quorum_All.ps quorum_All.r (quorum_All k)) (G_quorum_Slow k)
theorem ok_quorum_All : GOk Tryz.prog G_quorum_All := ok_quorum_Slow.ins fun k => by rw [show quorum_All k = quorum_All.raw k from congrFun (sealed_eq quorum_All.raw) k]; exact runF_ok tabOk ok_quorum_Slow mix Tryz.func71 Tryz.call71 quorum_All.cuts quorum_All.ps quorum_All.r (by rw [Tryz.ntmps71]; decide) k
def quorum_Major.cuts : List (Nat × List CK) := []
abbrev quorum_Major.ps : List PK := [.val Ty.i64, .val Ty.i64]
abbrev quorum_Major.r : Ty := .bool
noncomputable def quorum_Major.raw (k : Nat) (a0 : Int) (a1 : Int) : Option Bool := runF Alg.std G_quorum_All T Tryz.f39 quorum_Major.cuts quorum_Major.ps quorum_Major.r k a0 a1
noncomputable def quorum_Major (k : Nat) (a0 : Int) (a1 : Int) : Option Bool := sealed quorum_Major.raw k a0 a1
theorem quorum_Major_raw (k : Nat) (a0 : Int) (a1 : Int) : quorum_Major k a0 a1 = quorum_Major.raw k a0 a1 := by unfold quorum_Major; rw [sealed_eq]
noncomputable def G_quorum_Major (k : Nat) : Gam := ins 39 (.pu quorum_Major.ps quorum_Major.r (quorum_Major k)) (G_quorum_All k)
theorem ok_quorum_Major : GOk Tryz.prog G_quorum_Major := ok_quorum_All.ins fun k => by rw [show quorum_Major k = quorum_Major.raw k from congrFun (sealed_eq quorum_Major.raw) k]; exact runF_ok tabOk ok_quorum_All mix Tryz.func39 Tryz.call39 quorum_Major.cuts quorum_Major.ps quorum_Major.r (by rw [Tryz.ntmps39]; decide) k
def lead_Lead_all.cuts : List (Nat × List CK) := []
abbrev lead_Lead_all.ps : List PK := [.val Ty_lead_Lead]
abbrev lead_Lead_all.r : Ty := Ty_api_Record
noncomputable def lead_Lead_all.raw (k : Nat) (a0 : Ty_lead_Lead.den) : Option Ty_api_Record.den := runF Alg.std G_quorum_Major T Tryz.f49 lead_Lead_all.cuts lead_Lead_all.ps lead_Lead_all.r k a0
noncomputable def lead_Lead_all (k : Nat) (a0 : Ty_lead_Lead.den) : Option Ty_api_Record.den := sealed lead_Lead_all.raw k a0
theorem lead_Lead_all_raw (k : Nat) (a0 : Ty_lead_Lead.den) : lead_Lead_all k a0 = lead_Lead_all.raw k a0 := by unfold lead_Lead_all; rw [sealed_eq]
noncomputable def G_lead_Lead_all (k : Nat) : Gam := ins 49 (.pu lead_Lead_all.ps lead_Lead_all.r (lead_Lead_all k)) (G_quorum_Major k)
theorem ok_lead_Lead_all : GOk Tryz.prog G_lead_Lead_all := ok_quorum_Major.ins fun k => by rw [show lead_Lead_all k = lead_Lead_all.raw k from congrFun (sealed_eq lead_Lead_all.raw) k]; exact runF_ok tabOk ok_quorum_Major mix Tryz.func49 Tryz.call49 lead_Lead_all.cuts lead_Lead_all.ps lead_Lead_all.r (by rw [Tryz.ntmps49]; decide) k
def lead_Lead_put.cuts : List (Nat × List CK) := []
abbrev lead_Lead_put.ps : List PK := [.val Ty_lead_Lead, .val Ty_api_Record]
abbrev lead_Lead_put.r : Ty := (.tup (.pair Ty_lead_Lead Ty_lead_Step))
noncomputable def lead_Lead_put.raw (k : Nat) (a0 : Ty_lead_Lead.den) (a1 : Ty_api_Record.den) : Option (Ty_lead_Lead.den × Ty_lead_Step.den) := runF Alg.std G_lead_Lead_all T Tryz.f48 lead_Lead_put.cuts lead_Lead_put.ps lead_Lead_put.r k a0 a1
noncomputable def lead_Lead_put (k : Nat) (a0 : Ty_lead_Lead.den) (a1 : Ty_api_Record.den) : Option (Ty_lead_Lead.den × Ty_lead_Step.den) := sealed lead_Lead_put.raw k a0 a1
theorem lead_Lead_put_raw (k : Nat) (a0 : Ty_lead_Lead.den) (a1 : Ty_api_Record.den) : lead_Lead_put k a0 a1 = lead_Lead_put.raw k a0 a1 := by unfold lead_Lead_put; rw [sealed_eq]
noncomputable def G_lead_Lead_put (k : Nat) : Gam := ins 48 (.pu lead_Lead_put.ps lead_Lead_put.r (lead_Lead_put k)) (G_lead_Lead_all k)
theorem ok_lead_Lead_put : GOk Tryz.prog G_lead_Lead_put := ok_lead_Lead_all.ins fun k => by rw [show lead_Lead_put k = lead_Lead_put.raw k from congrFun (sealed_eq lead_Lead_put.raw) k]; exact runF_ok tabOk ok_lead_Lead_all mix Tryz.func48 Tryz.call48 lead_Lead_put.cuts lead_Lead_put.ps lead_Lead_put.r (by rw [Tryz.ntmps48]; decide) k
def lead_Lead_asked.s2 : List CK := [.ptr 3 3 Ty_lead_Lead, .ptr 4 4 Ty_api_Record, .ptr 5 5 Ty_api_Record, .ptr 6 6 Ty_lead_Lead, .ptr 7 7 Ty_lead_Step, .box 3 Ty_lead_Lead [], .box 4 Ty_api_Record [], .box 5 Ty_api_Record [], .box 6 Ty_lead_Lead [], .box 7 Ty_lead_Step []]
def lead_Lead_asked.s4 : List CK := [.ptr 3 3 Ty_lead_Lead, .ptr 4 4 Ty_api_Record, .ptr 6 6 Ty_lead_Lead, .ptr 7 7 Ty_lead_Step, .box 3 Ty_lead_Lead [], .box 4 Ty_api_Record [], .box 6 Ty_lead_Lead [], .box 7 Ty_lead_Step []]
def lead_Lead_asked.s5 : List CK := [.ptr 3 3 Ty_lead_Lead, .ptr 6 6 Ty_lead_Lead, .ptr 7 7 Ty_lead_Step, .box 3 Ty_lead_Lead [], .box 6 Ty_lead_Lead [], .box 7 Ty_lead_Step []]
def lead_Lead_asked.s6 : List CK := [.ptr 3 3 Ty_lead_Lead, .ptr 6 6 Ty_lead_Lead, .ptr 7 7 Ty_lead_Step, .box 3 Ty_lead_Lead [], .box 6 Ty_lead_Lead [], .box 7 Ty_lead_Step []]
def lead_Lead_asked.cuts : List (Nat × List CK) := [(2, lead_Lead_asked.s2), (4, lead_Lead_asked.s4), (5, lead_Lead_asked.s5), (6, lead_Lead_asked.s6)]
abbrev lead_Lead_asked.ps : List PK := [.val Ty_lead_Lead, .val Ty_api_Record, .val Ty_api_Record]
abbrev lead_Lead_asked.r : Ty := (.tup (.pair Ty_lead_Lead Ty_lead_Step))
noncomputable def lead_Lead_asked.raw (k : Nat) (a0 : Ty_lead_Lead.den) (a1 : Ty_api_Record.den) (a2 : Ty_api_Record.den) : Option (Ty_lead_Lead.den × Ty_lead_Step.den) := runF Alg.std G_lead_Lead_put T Tryz.f38 lead_Lead_asked.cuts lead_Lead_asked.ps lead_Lead_asked.r k a0 a1 a2
noncomputable def lead_Lead_asked (k : Nat) (a0 : Ty_lead_Lead.den) (a1 : Ty_api_Record.den) (a2 : Ty_api_Record.den) : Option (Ty_lead_Lead.den × Ty_lead_Step.den) := sealed lead_Lead_asked.raw k a0 a1 a2
theorem lead_Lead_asked_raw (k : Nat) (a0 : Ty_lead_Lead.den) (a1 : Ty_api_Record.den) (a2 : Ty_api_Record.den) : lead_Lead_asked k a0 a1 a2 = lead_Lead_asked.raw k a0 a1 a2 := by unfold lead_Lead_asked; rw [sealed_eq]
noncomputable def lead_Lead_asked.c2 (k : Nat) (b3 : Ty_lead_Lead.den) (b4 : Ty_api_Record.den) (b5 : Ty_api_Record.den) (b6 : Ty_lead_Lead.den) (b7 : Ty_lead_Step.den) : Option (Ty_lead_Lead.den × Ty_lead_Step.den) := runC Alg.std G_lead_Lead_put T Tryz.f38 lead_Lead_asked.cuts lead_Lead_asked.r 2 lead_Lead_asked.s2 k ((), (), (), (), (), b3, b4, b5, b6, b7, ())
noncomputable def lead_Lead_asked.c4 (k : Nat) (b3 : Ty_lead_Lead.den) (b4 : Ty_api_Record.den) (b6 : Ty_lead_Lead.den) (b7 : Ty_lead_Step.den) : Option (Ty_lead_Lead.den × Ty_lead_Step.den) := runC Alg.std G_lead_Lead_put T Tryz.f38 lead_Lead_asked.cuts lead_Lead_asked.r 4 lead_Lead_asked.s4 k ((), (), (), (), b3, b4, b6, b7, ())
noncomputable def lead_Lead_asked.c5 (k : Nat) (b3 : Ty_lead_Lead.den) (b6 : Ty_lead_Lead.den) (b7 : Ty_lead_Step.den) : Option (Ty_lead_Lead.den × Ty_lead_Step.den) := runC Alg.std G_lead_Lead_put T Tryz.f38 lead_Lead_asked.cuts lead_Lead_asked.r 5 lead_Lead_asked.s5 k ((), (), (), b3, b6, b7, ())
noncomputable def lead_Lead_asked.c6 (k : Nat) (b3 : Ty_lead_Lead.den) (b6 : Ty_lead_Lead.den) (b7 : Ty_lead_Step.den) : Option (Ty_lead_Lead.den × Ty_lead_Step.den) := runC Alg.std G_lead_Lead_put T Tryz.f38 lead_Lead_asked.cuts lead_Lead_asked.r 6 lead_Lead_asked.s6 k ((), (), (), b3, b6, b7, ())
noncomputable def G_lead_Lead_asked (k : Nat) : Gam := ins 38 (.pu lead_Lead_asked.ps lead_Lead_asked.r (lead_Lead_asked k)) (G_lead_Lead_put k)
theorem ok_lead_Lead_asked : GOk Tryz.prog G_lead_Lead_asked := ok_lead_Lead_put.ins fun k => by rw [show lead_Lead_asked k = lead_Lead_asked.raw k from congrFun (sealed_eq lead_Lead_asked.raw) k]; exact runF_ok tabOk ok_lead_Lead_put mix Tryz.func38 Tryz.call38 lead_Lead_asked.cuts lead_Lead_asked.ps lead_Lead_asked.r (by rw [Tryz.ntmps38]; decide) k
def repair_counted.s4 : List CK := [.own 4 80 Ty_repair_Vote, .mapo 5 Ty.i64 Ty.i64, .tmp 9 (.sl 80 Ty_repair_Vote), .tmp 10 Ty.i64, .tmp 11 Ty.i64]
def repair_counted.cuts : List (Nat × List CK) := [(4, repair_counted.s4)]
abbrev repair_counted.ps : List PK := [.val (.sl 80 Ty_repair_Vote)]
abbrev repair_counted.r : Ty := (.tup (.pair (.sl 80 Ty_repair_Vote) (.mp Ty.i64 Ty.i64)))
noncomputable def repair_counted.raw (k : Nat) (a0 : List Ty_repair_Vote.den) : Option ((List Ty_repair_Vote.den) × (List (Int × Int))) := runF Alg.std G_lead_Lead_asked T Tryz.f90 repair_counted.cuts repair_counted.ps repair_counted.r k a0
noncomputable def repair_counted (k : Nat) (a0 : List Ty_repair_Vote.den) : Option ((List Ty_repair_Vote.den) × (List (Int × Int))) := sealed repair_counted.raw k a0
theorem repair_counted_raw (k : Nat) (a0 : List Ty_repair_Vote.den) : repair_counted k a0 = repair_counted.raw k a0 := by unfold repair_counted; rw [sealed_eq]
noncomputable def repair_counted.c4 (k : Nat) (x4 : List Ty_repair_Vote.den) (x5 : List (Int × Int)) (x9 : List Ty_repair_Vote.den) (x10 : Int) (x11 : Int) : Option ((List Ty_repair_Vote.den) × (List (Int × Int))) := runC Alg.std G_lead_Lead_asked T Tryz.f90 repair_counted.cuts repair_counted.r 4 repair_counted.s4 k (x4, x5, x9, x10, x11, ())
noncomputable def G_repair_counted (k : Nat) : Gam := ins 90 (.pu repair_counted.ps repair_counted.r (repair_counted k)) (G_lead_Lead_asked k)
theorem ok_repair_counted : GOk Tryz.prog G_repair_counted := ok_lead_Lead_asked.ins fun k => by rw [show repair_counted k = repair_counted.raw k from congrFun (sealed_eq repair_counted.raw) k]; exact runF_ok tabOk ok_lead_Lead_asked mix Tryz.func90 Tryz.call90 repair_counted.cuts repair_counted.ps repair_counted.r (by rw [Tryz.ntmps90]; decide) k
def repair_may.s5 : List CK := [.tmp 0 Ty.i64, .tmp 2 (.sl 80 Ty_repair_Vote), .ptr 4 4 Ty_api_Instance, .tmp 7 Ty.i64, .tmp 21 (.sl 80 Ty_repair_Vote), .tmp 22 Ty.i64, .tmp 23 Ty.i64, .box 4 Ty_api_Instance []]
def repair_may.cuts : List (Nat × List CK) := [(5, repair_may.s5)]
abbrev repair_may.ps : List PK := [.val Ty.i64, .val Ty_api_Instance, .val (.sl 80 Ty_repair_Vote)]
abbrev repair_may.r : Ty := Ty.i64
noncomputable def repair_may.raw (k : Nat) (a0 : Int) (a1 : Ty_api_Instance.den) (a2 : List Ty_repair_Vote.den) : Option Int := runF Alg.std G_repair_counted T Tryz.f91 repair_may.cuts repair_may.ps repair_may.r k a0 a1 a2
noncomputable def repair_may (k : Nat) (a0 : Int) (a1 : Ty_api_Instance.den) (a2 : List Ty_repair_Vote.den) : Option Int := sealed repair_may.raw k a0 a1 a2
theorem repair_may_raw (k : Nat) (a0 : Int) (a1 : Ty_api_Instance.den) (a2 : List Ty_repair_Vote.den) : repair_may k a0 a1 a2 = repair_may.raw k a0 a1 a2 := by unfold repair_may; rw [sealed_eq]
noncomputable def repair_may.c5 (k : Nat) (x0 : Int) (x2 : List Ty_repair_Vote.den) (x7 : Int) (x21 : List Ty_repair_Vote.den) (x22 : Int) (x23 : Int) (b4 : Ty_api_Instance.den) : Option Int := runC Alg.std G_repair_counted T Tryz.f91 repair_may.cuts repair_may.r 5 repair_may.s5 k (x0, x2, (), x7, x21, x22, x23, b4, ())
noncomputable def G_repair_may (k : Nat) : Gam := ins 91 (.pu repair_may.ps repair_may.r (repair_may k)) (G_repair_counted k)
theorem ok_repair_may : GOk Tryz.prog G_repair_may := ok_repair_counted.ins fun k => by rw [show repair_may k = repair_may.raw k from congrFun (sealed_eq repair_may.raw) k]; exact runF_ok tabOk ok_repair_counted mix Tryz.func91 Tryz.call91 repair_may.cuts repair_may.ps repair_may.r (by rw [Tryz.ntmps91]; decide) k
noncomputable def G_repair_Decide_1 (k : Nat) : Gam := ins 92 (repair_Decide_1.spec k) (G_repair_may k)
theorem ok_repair_Decide_1 : GOk Tryz.prog G_repair_Decide_1 := ok_repair_may.ins (repair_Decide_1.ok)
def repair_as.cuts : List (Nat × List CK) := []
abbrev repair_as.ps : List PK := [.val Ty_api_Record, .val Ty.i64]
abbrev repair_as.r : Ty := Ty_api_Record
noncomputable def repair_as.raw (k : Nat) (a0 : Ty_api_Record.den) (a1 : Int) : Option Ty_api_Record.den := runF Alg.std G_repair_Decide_1 T Tryz.f94 repair_as.cuts repair_as.ps repair_as.r k a0 a1
noncomputable def repair_as (k : Nat) (a0 : Ty_api_Record.den) (a1 : Int) : Option Ty_api_Record.den := sealed repair_as.raw k a0 a1
theorem repair_as_raw (k : Nat) (a0 : Ty_api_Record.den) (a1 : Int) : repair_as k a0 a1 = repair_as.raw k a0 a1 := by unfold repair_as; rw [sealed_eq]
noncomputable def G_repair_as (k : Nat) : Gam := ins 94 (.pu repair_as.ps repair_as.r (repair_as k)) (G_repair_Decide_1 k)
theorem ok_repair_as : GOk Tryz.prog G_repair_as := ok_repair_Decide_1.ins fun k => by rw [show repair_as k = repair_as.raw k from congrFun (sealed_eq repair_as.raw) k]; exact runF_ok tabOk ok_repair_Decide_1 mix Tryz.func94 Tryz.call94 repair_as.cuts repair_as.ps repair_as.r (by rw [Tryz.ntmps94]; decide) k
def repair_pick.s3 : List CK := [.tmp 0 (.sl 80 Ty_repair_Vote), .fnp 1 Ty_repair_Vote .bool, .ptr 4 4 Ty_api_Record, .tmp 6 Ty.i64, .tmp 9 (.sl 80 Ty_repair_Vote), .tmp 10 Ty.i64, .tmp 11 Ty.i64, .box 4 Ty_api_Record []]
def repair_pick.cuts : List (Nat × List CK) := [(3, repair_pick.s3)]
abbrev repair_pick.ps : List PK := [.val (.sl 80 Ty_repair_Vote), .fn Ty_repair_Vote .bool]
abbrev repair_pick.r : Ty := (.tup (.pair Ty_api_Record .bool))
noncomputable def repair_pick.raw (k : Nat) (a0 : List Ty_repair_Vote.den) (a1 : Ty_repair_Vote.den → Option Bool) : Option (Ty_api_Record.den × Bool) := runF Alg.std G_repair_as T Tryz.f95 repair_pick.cuts repair_pick.ps repair_pick.r k a0 a1
noncomputable def repair_pick (k : Nat) (a0 : List Ty_repair_Vote.den) (a1 : Ty_repair_Vote.den → Option Bool) : Option (Ty_api_Record.den × Bool) := sealed repair_pick.raw k a0 a1
theorem repair_pick_raw (k : Nat) (a0 : List Ty_repair_Vote.den) (a1 : Ty_repair_Vote.den → Option Bool) : repair_pick k a0 a1 = repair_pick.raw k a0 a1 := by unfold repair_pick; rw [sealed_eq]
noncomputable def repair_pick.c3 (k : Nat) (x0 : List Ty_repair_Vote.den) (f1 : Ty_repair_Vote.den → Option Bool) (x6 : Int) (x9 : List Ty_repair_Vote.den) (x10 : Int) (x11 : Int) (b4 : Ty_api_Record.den) : Option (Ty_api_Record.den × Bool) := runC Alg.std G_repair_as T Tryz.f95 repair_pick.cuts repair_pick.r 3 repair_pick.s3 k (x0, f1, (), x6, x9, x10, x11, b4, ())
noncomputable def G_repair_pick (k : Nat) : Gam := ins 95 (.pu repair_pick.ps repair_pick.r (repair_pick k)) (G_repair_as k)
theorem ok_repair_pick : GOk Tryz.prog G_repair_pick := ok_repair_as.ins fun k => by rw [show repair_pick k = repair_pick.raw k from congrFun (sealed_eq repair_pick.raw) k]; exact runF_ok tabOk ok_repair_as mix Tryz.func95 Tryz.call95 repair_pick.cuts repair_pick.ps repair_pick.r (by rw [Tryz.ntmps95]; decide) k
def repair_fast.cuts : List (Nat × List CK) := []
abbrev repair_fast.ps : List PK := [.val Ty_repair_Vote]
abbrev repair_fast.r : Ty := .bool
noncomputable def repair_fast.raw (k : Nat) (a0 : Ty_repair_Vote.den) : Option Bool := runF Alg.std G_repair_pick T Tryz.f97 repair_fast.cuts repair_fast.ps repair_fast.r k a0
noncomputable def repair_fast (k : Nat) (a0 : Ty_repair_Vote.den) : Option Bool := sealed repair_fast.raw k a0
theorem repair_fast_raw (k : Nat) (a0 : Ty_repair_Vote.den) : repair_fast k a0 = repair_fast.raw k a0 := by unfold repair_fast; rw [sealed_eq]
noncomputable def G_repair_fast (k : Nat) : Gam := ins 97 (.pu repair_fast.ps repair_fast.r (repair_fast k)) (G_repair_pick k)
theorem ok_repair_fast : GOk Tryz.prog G_repair_fast := ok_repair_pick.ins fun k => by rw [show repair_fast k = repair_fast.raw k from congrFun (sealed_eq repair_fast.raw) k]; exact runF_ok tabOk ok_repair_pick mix Tryz.func97 Tryz.call97 repair_fast.cuts repair_fast.ps repair_fast.r (by rw [Tryz.ntmps97]; decide) k
def repair_Fast.s6 : List CK := [.tmp 0 Ty.i64, .tmp 8 Ty.i64, .tmp 28 (.sl 80 Ty_repair_Vote), .tmp 29 Ty.i64, .tmp 30 Ty.i64]
def repair_Fast.cuts : List (Nat × List CK) := [(6, repair_Fast.s6)]
abbrev repair_Fast.ps : List PK := [.val Ty.i64, .val Ty_api_Instance, .val (.sl 80 Ty_repair_Vote)]
abbrev repair_Fast.r : Ty := .bool
noncomputable def repair_Fast.raw (k : Nat) (a0 : Int) (a1 : Ty_api_Instance.den) (a2 : List Ty_repair_Vote.den) : Option Bool := runF Alg.std G_repair_fast T Tryz.f96 repair_Fast.cuts repair_Fast.ps repair_Fast.r k a0 a1 a2
noncomputable def repair_Fast (k : Nat) (a0 : Int) (a1 : Ty_api_Instance.den) (a2 : List Ty_repair_Vote.den) : Option Bool := sealed repair_Fast.raw k a0 a1 a2
theorem repair_Fast_raw (k : Nat) (a0 : Int) (a1 : Ty_api_Instance.den) (a2 : List Ty_repair_Vote.den) : repair_Fast k a0 a1 a2 = repair_Fast.raw k a0 a1 a2 := by unfold repair_Fast; rw [sealed_eq]
noncomputable def repair_Fast.c6 (k : Nat) (x0 : Int) (x8 : Int) (x28 : List Ty_repair_Vote.den) (x29 : Int) (x30 : Int) : Option Bool := runC Alg.std G_repair_fast T Tryz.f96 repair_Fast.cuts repair_Fast.r 6 repair_Fast.s6 k (x0, x8, x28, x29, x30, ())
noncomputable def G_repair_Fast (k : Nat) : Gam := ins 96 (.pu repair_Fast.ps repair_Fast.r (repair_Fast k)) (G_repair_fast k)
theorem ok_repair_Fast : GOk Tryz.prog G_repair_Fast := ok_repair_fast.ins fun k => by rw [show repair_Fast k = repair_Fast.raw k from congrFun (sealed_eq repair_Fast.raw) k]; exact runF_ok tabOk ok_repair_fast mix Tryz.func96 Tryz.call96 repair_Fast.cuts repair_Fast.ps repair_Fast.r (by rw [Tryz.ntmps96]; decide) k
def repair_Decide.s7 : List CK := [.tmp 0 Ty.i64, .tmp 2 (.sl 80 Ty_repair_Vote), .ptr 4 4 Ty_api_Instance, .ptr 6 6 Ty_api_Record, .clo 9 92 [], .tmp 32 (.sl 80 Ty_repair_Vote), .tmp 33 Ty.i64, .tmp 34 Ty.i64, .box 4 Ty_api_Instance [], .box 6 Ty_api_Record []]
def repair_Decide.cuts : List (Nat × List CK) := [(7, repair_Decide.s7)]
abbrev repair_Decide.ps : List PK := [.val Ty.i64, .val Ty_api_Instance, .val (.sl 80 Ty_repair_Vote)]
abbrev repair_Decide.r : Ty := (.tup (.pair Ty_api_Record Ty.i64))
noncomputable def repair_Decide.raw (k : Nat) (a0 : Int) (a1 : Ty_api_Instance.den) (a2 : List Ty_repair_Vote.den) : Option (Ty_api_Record.den × Int) := runF Alg.std G_repair_Fast T Tryz.f72 repair_Decide.cuts repair_Decide.ps repair_Decide.r k a0 a1 a2
noncomputable def repair_Decide (k : Nat) (a0 : Int) (a1 : Ty_api_Instance.den) (a2 : List Ty_repair_Vote.den) : Option (Ty_api_Record.den × Int) := sealed repair_Decide.raw k a0 a1 a2
theorem repair_Decide_raw (k : Nat) (a0 : Int) (a1 : Ty_api_Instance.den) (a2 : List Ty_repair_Vote.den) : repair_Decide k a0 a1 a2 = repair_Decide.raw k a0 a1 a2 := by unfold repair_Decide; rw [sealed_eq]
noncomputable def repair_Decide.c7 (k : Nat) (x0 : Int) (x2 : List Ty_repair_Vote.den) (x32 : List Ty_repair_Vote.den) (x33 : Int) (x34 : Int) (b4 : Ty_api_Instance.den) (b6 : Ty_api_Record.den) : Option (Ty_api_Record.den × Int) := runC Alg.std G_repair_Fast T Tryz.f72 repair_Decide.cuts repair_Decide.r 7 repair_Decide.s7 k (x0, x2, (), (), (), x32, x33, x34, b4, b6, ())
noncomputable def G_repair_Decide (k : Nat) : Gam := ins 72 (.pu repair_Decide.ps repair_Decide.r (repair_Decide k)) (G_repair_Fast k)
theorem ok_repair_Decide : GOk Tryz.prog G_repair_Decide := ok_repair_Fast.ins fun k => by rw [show repair_Decide k = repair_Decide.raw k from congrFun (sealed_eq repair_Decide.raw) k]; exact runF_ok tabOk ok_repair_Fast mix Tryz.func72 Tryz.call72 repair_Decide.cuts repair_Decide.ps repair_Decide.r (by rw [Tryz.ntmps72]; decide) k
def lead_Lead_ask.s5 : List CK := [.ptr 3 3 Ty_lead_Lead, .ptr 5 5 Ty_api_Record, .ptr 6 6 Ty_lead_Lead, .ptr 7 7 Ty_lead_Step, .ptr 8 8 Ty_api_Record, .box 3 Ty_lead_Lead [], .box 5 Ty_api_Record [], .box 6 Ty_lead_Lead [], .box 7 Ty_lead_Step [], .box 8 Ty_api_Record []]
def lead_Lead_ask.cuts : List (Nat × List CK) := [(5, lead_Lead_ask.s5)]
abbrev lead_Lead_ask.ps : List PK := [.val Ty_lead_Lead, .val (.sl 37 Ty_api_Record), .val Ty_api_Record]
abbrev lead_Lead_ask.r : Ty := (.tup (.pair Ty_lead_Lead Ty_lead_Step))
noncomputable def lead_Lead_ask.raw (k : Nat) (a0 : Ty_lead_Lead.den) (a1 : List Ty_api_Record.den) (a2 : Ty_api_Record.den) : Option (Ty_lead_Lead.den × Ty_lead_Step.den) := runF Alg.std G_repair_Decide T Tryz.f73 lead_Lead_ask.cuts lead_Lead_ask.ps lead_Lead_ask.r k a0 a1 a2
noncomputable def lead_Lead_ask (k : Nat) (a0 : Ty_lead_Lead.den) (a1 : List Ty_api_Record.den) (a2 : Ty_api_Record.den) : Option (Ty_lead_Lead.den × Ty_lead_Step.den) := sealed lead_Lead_ask.raw k a0 a1 a2
theorem lead_Lead_ask_raw (k : Nat) (a0 : Ty_lead_Lead.den) (a1 : List Ty_api_Record.den) (a2 : Ty_api_Record.den) : lead_Lead_ask k a0 a1 a2 = lead_Lead_ask.raw k a0 a1 a2 := by unfold lead_Lead_ask; rw [sealed_eq]
noncomputable def lead_Lead_ask.c5 (k : Nat) (b3 : Ty_lead_Lead.den) (b5 : Ty_api_Record.den) (b6 : Ty_lead_Lead.den) (b7 : Ty_lead_Step.den) (b8 : Ty_api_Record.den) : Option (Ty_lead_Lead.den × Ty_lead_Step.den) := runC Alg.std G_repair_Decide T Tryz.f73 lead_Lead_ask.cuts lead_Lead_ask.r 5 lead_Lead_ask.s5 k ((), (), (), (), (), b3, b5, b6, b7, b8, ())
noncomputable def G_lead_Lead_ask (k : Nat) : Gam := ins 73 (.pu lead_Lead_ask.ps lead_Lead_ask.r (lead_Lead_ask k)) (G_repair_Decide k)
theorem ok_lead_Lead_ask : GOk Tryz.prog G_lead_Lead_ask := ok_repair_Decide.ins fun k => by rw [show lead_Lead_ask k = lead_Lead_ask.raw k from congrFun (sealed_eq lead_Lead_ask.raw) k]; exact runF_ok tabOk ok_repair_Decide mix Tryz.func73 Tryz.call73 lead_Lead_ask.cuts lead_Lead_ask.ps lead_Lead_ask.r (by rw [Tryz.ntmps73]; decide) k
def lead_Lead_looked.cuts : List (Nat × List CK) := []
abbrev lead_Lead_looked.ps : List PK := [.val Ty_lead_Lead, .val (.sl 37 Ty_api_Record), .val Ty_api_Record, .val Ty_api_Message]
abbrev lead_Lead_looked.r : Ty := (.tup (.pair Ty_lead_Lead Ty_lead_Step))
noncomputable def lead_Lead_looked.raw (k : Nat) (a0 : Ty_lead_Lead.den) (a1 : List Ty_api_Record.den) (a2 : Ty_api_Record.den) (a3 : Ty_api_Message.den) : Option (Ty_lead_Lead.den × Ty_lead_Step.den) := runF Alg.std G_lead_Lead_ask T Tryz.f41 lead_Lead_looked.cuts lead_Lead_looked.ps lead_Lead_looked.r k a0 a1 a2 a3
noncomputable def lead_Lead_looked (k : Nat) (a0 : Ty_lead_Lead.den) (a1 : List Ty_api_Record.den) (a2 : Ty_api_Record.den) (a3 : Ty_api_Message.den) : Option (Ty_lead_Lead.den × Ty_lead_Step.den) := sealed lead_Lead_looked.raw k a0 a1 a2 a3
theorem lead_Lead_looked_raw (k : Nat) (a0 : Ty_lead_Lead.den) (a1 : List Ty_api_Record.den) (a2 : Ty_api_Record.den) (a3 : Ty_api_Message.den) : lead_Lead_looked k a0 a1 a2 a3 = lead_Lead_looked.raw k a0 a1 a2 a3 := by unfold lead_Lead_looked; rw [sealed_eq]
noncomputable def G_lead_Lead_looked (k : Nat) : Gam := ins 41 (.pu lead_Lead_looked.ps lead_Lead_looked.r (lead_Lead_looked k)) (G_lead_Lead_ask k)
theorem ok_lead_Lead_looked : GOk Tryz.prog G_lead_Lead_looked := ok_lead_Lead_ask.ins fun k => by rw [show lead_Lead_looked k = lead_Lead_looked.raw k from congrFun (sealed_eq lead_Lead_looked.raw) k]; exact runF_ok tabOk ok_lead_Lead_ask mix Tryz.func41 Tryz.call41 lead_Lead_looked.cuts lead_Lead_looked.ps lead_Lead_looked.r (by rw [Tryz.ntmps41]; decide) k
def lead_Lead_Hear.s5 : List CK := [.ptr 3 3 Ty_lead_Lead, .ptr 6 6 Ty_lead_Lead, .ptr 7 7 Ty_lead_Step, .box 3 Ty_lead_Lead [], .box 6 Ty_lead_Lead [], .box 7 Ty_lead_Step []]
def lead_Lead_Hear.s7 : List CK := [.tmp 1 (.sl 37 Ty_api_Record), .ptr 3 3 Ty_lead_Lead, .ptr 5 5 Ty_api_Message, .ptr 6 6 Ty_lead_Lead, .ptr 7 7 Ty_lead_Step, .ptr 8 8 Ty_api_Record, .box 3 Ty_lead_Lead [], .box 5 Ty_api_Message [], .box 6 Ty_lead_Lead [], .box 7 Ty_lead_Step [], .box 8 Ty_api_Record []]
def lead_Lead_Hear.s9 : List CK := [.tmp 1 (.sl 37 Ty_api_Record), .ptr 3 3 Ty_lead_Lead, .ptr 5 5 Ty_api_Message, .ptr 6 6 Ty_lead_Lead, .ptr 7 7 Ty_lead_Step, .ptr 8 8 Ty_api_Record, .box 3 Ty_lead_Lead [], .box 5 Ty_api_Message [], .box 6 Ty_lead_Lead [], .box 7 Ty_lead_Step [], .box 8 Ty_api_Record []]
def lead_Lead_Hear.s11 : List CK := [.ptr 3 3 Ty_lead_Lead, .ptr 5 5 Ty_api_Message, .ptr 6 6 Ty_lead_Lead, .ptr 7 7 Ty_lead_Step, .ptr 8 8 Ty_api_Record, .clo 9 36 [.ptr 3 Ty_lead_Lead, .ptr 5 Ty_api_Message], .box 3 Ty_lead_Lead [], .box 5 Ty_api_Message [], .box 6 Ty_lead_Lead [], .box 7 Ty_lead_Step [], .box 8 Ty_api_Record []]
def lead_Lead_Hear.s13 : List CK := [.tmp 1 (.sl 37 Ty_api_Record), .ptr 3 3 Ty_lead_Lead, .ptr 5 5 Ty_api_Message, .ptr 6 6 Ty_lead_Lead, .ptr 7 7 Ty_lead_Step, .ptr 8 8 Ty_api_Record, .clo 9 36 [.ptr 3 Ty_lead_Lead, .ptr 5 Ty_api_Message], .box 3 Ty_lead_Lead [], .box 5 Ty_api_Message [], .box 6 Ty_lead_Lead [], .box 7 Ty_lead_Step [], .box 8 Ty_api_Record []]
def lead_Lead_Hear.s14 : List CK := [.ptr 3 3 Ty_lead_Lead, .ptr 6 6 Ty_lead_Lead, .ptr 7 7 Ty_lead_Step, .ptr 8 8 Ty_api_Record, .clo 9 36 [.ptr 3 Ty_lead_Lead, .ptr 5 Ty_api_Message], .box 3 Ty_lead_Lead [], .box 5 Ty_api_Message [], .box 6 Ty_lead_Lead [], .box 7 Ty_lead_Step [], .box 8 Ty_api_Record []]
def lead_Lead_Hear.s17 : List CK := [.tmp 1 (.sl 37 Ty_api_Record), .ptr 3 3 Ty_lead_Lead, .ptr 5 5 Ty_api_Message, .ptr 6 6 Ty_lead_Lead, .ptr 7 7 Ty_lead_Step, .ptr 8 8 Ty_api_Record, .clo 9 36 [.ptr 3 Ty_lead_Lead, .ptr 5 Ty_api_Message], .box 3 Ty_lead_Lead [], .box 5 Ty_api_Message [], .box 6 Ty_lead_Lead [], .box 7 Ty_lead_Step [], .box 8 Ty_api_Record []]
def lead_Lead_Hear.s18 : List CK := [.tmp 1 (.sl 37 Ty_api_Record), .ptr 3 3 Ty_lead_Lead, .ptr 5 5 Ty_api_Message, .ptr 6 6 Ty_lead_Lead, .ptr 7 7 Ty_lead_Step, .ptr 8 8 Ty_api_Record, .clo 9 36 [.ptr 3 Ty_lead_Lead, .ptr 5 Ty_api_Message], .box 3 Ty_lead_Lead [], .box 5 Ty_api_Message [], .box 6 Ty_lead_Lead [], .box 7 Ty_lead_Step [], .box 8 Ty_api_Record []]
def lead_Lead_Hear.s20 : List CK := [.ptr 3 3 Ty_lead_Lead, .ptr 6 6 Ty_lead_Lead, .ptr 7 7 Ty_lead_Step, .box 3 Ty_lead_Lead [], .box 6 Ty_lead_Lead [], .box 7 Ty_lead_Step []]
def lead_Lead_Hear.cuts : List (Nat × List CK) := [(5, lead_Lead_Hear.s5), (7, lead_Lead_Hear.s7), (9, lead_Lead_Hear.s9), (11, lead_Lead_Hear.s11), (13, lead_Lead_Hear.s13), (14, lead_Lead_Hear.s14), (17, lead_Lead_Hear.s17), (18, lead_Lead_Hear.s18), (20, lead_Lead_Hear.s20)]
abbrev lead_Lead_Hear.ps : List PK := [.val Ty_lead_Lead, .val (.sl 37 Ty_api_Record), .val Ty_api_Message]
abbrev lead_Lead_Hear.r : Ty := (.tup (.pair Ty_lead_Lead Ty_lead_Step))
noncomputable def lead_Lead_Hear.raw (k : Nat) (a0 : Ty_lead_Lead.den) (a1 : List Ty_api_Record.den) (a2 : Ty_api_Message.den) : Option (Ty_lead_Lead.den × Ty_lead_Step.den) := runF Alg.std G_lead_Lead_looked T Tryz.f11 lead_Lead_Hear.cuts lead_Lead_Hear.ps lead_Lead_Hear.r k a0 a1 a2
noncomputable def lead_Lead_Hear (k : Nat) (a0 : Ty_lead_Lead.den) (a1 : List Ty_api_Record.den) (a2 : Ty_api_Message.den) : Option (Ty_lead_Lead.den × Ty_lead_Step.den) := sealed lead_Lead_Hear.raw k a0 a1 a2
theorem lead_Lead_Hear_raw (k : Nat) (a0 : Ty_lead_Lead.den) (a1 : List Ty_api_Record.den) (a2 : Ty_api_Message.den) : lead_Lead_Hear k a0 a1 a2 = lead_Lead_Hear.raw k a0 a1 a2 := by unfold lead_Lead_Hear; rw [sealed_eq]
noncomputable def lead_Lead_Hear.c5 (k : Nat) (b3 : Ty_lead_Lead.den) (b6 : Ty_lead_Lead.den) (b7 : Ty_lead_Step.den) : Option (Ty_lead_Lead.den × Ty_lead_Step.den) := runC Alg.std G_lead_Lead_looked T Tryz.f11 lead_Lead_Hear.cuts lead_Lead_Hear.r 5 lead_Lead_Hear.s5 k ((), (), (), b3, b6, b7, ())
noncomputable def lead_Lead_Hear.c7 (k : Nat) (x1 : List Ty_api_Record.den) (b3 : Ty_lead_Lead.den) (b5 : Ty_api_Message.den) (b6 : Ty_lead_Lead.den) (b7 : Ty_lead_Step.den) (b8 : Ty_api_Record.den) : Option (Ty_lead_Lead.den × Ty_lead_Step.den) := runC Alg.std G_lead_Lead_looked T Tryz.f11 lead_Lead_Hear.cuts lead_Lead_Hear.r 7 lead_Lead_Hear.s7 k (x1, (), (), (), (), (), b3, b5, b6, b7, b8, ())
noncomputable def lead_Lead_Hear.c9 (k : Nat) (x1 : List Ty_api_Record.den) (b3 : Ty_lead_Lead.den) (b5 : Ty_api_Message.den) (b6 : Ty_lead_Lead.den) (b7 : Ty_lead_Step.den) (b8 : Ty_api_Record.den) : Option (Ty_lead_Lead.den × Ty_lead_Step.den) := runC Alg.std G_lead_Lead_looked T Tryz.f11 lead_Lead_Hear.cuts lead_Lead_Hear.r 9 lead_Lead_Hear.s9 k (x1, (), (), (), (), (), b3, b5, b6, b7, b8, ())
noncomputable def lead_Lead_Hear.c11 (k : Nat) (b3 : Ty_lead_Lead.den) (b5 : Ty_api_Message.den) (b6 : Ty_lead_Lead.den) (b7 : Ty_lead_Step.den) (b8 : Ty_api_Record.den) : Option (Ty_lead_Lead.den × Ty_lead_Step.den) := runC Alg.std G_lead_Lead_looked T Tryz.f11 lead_Lead_Hear.cuts lead_Lead_Hear.r 11 lead_Lead_Hear.s11 k ((), (), (), (), (), (), b3, b5, b6, b7, b8, ())
noncomputable def lead_Lead_Hear.c13 (k : Nat) (x1 : List Ty_api_Record.den) (b3 : Ty_lead_Lead.den) (b5 : Ty_api_Message.den) (b6 : Ty_lead_Lead.den) (b7 : Ty_lead_Step.den) (b8 : Ty_api_Record.den) : Option (Ty_lead_Lead.den × Ty_lead_Step.den) := runC Alg.std G_lead_Lead_looked T Tryz.f11 lead_Lead_Hear.cuts lead_Lead_Hear.r 13 lead_Lead_Hear.s13 k (x1, (), (), (), (), (), (), b3, b5, b6, b7, b8, ())
noncomputable def lead_Lead_Hear.c14 (k : Nat) (b3 : Ty_lead_Lead.den) (b5 : Ty_api_Message.den) (b6 : Ty_lead_Lead.den) (b7 : Ty_lead_Step.den) (b8 : Ty_api_Record.den) : Option (Ty_lead_Lead.den × Ty_lead_Step.den) := runC Alg.std G_lead_Lead_looked T Tryz.f11 lead_Lead_Hear.cuts lead_Lead_Hear.r 14 lead_Lead_Hear.s14 k ((), (), (), (), (), b3, b5, b6, b7, b8, ())
noncomputable def lead_Lead_Hear.c17 (k : Nat) (x1 : List Ty_api_Record.den) (b3 : Ty_lead_Lead.den) (b5 : Ty_api_Message.den) (b6 : Ty_lead_Lead.den) (b7 : Ty_lead_Step.den) (b8 : Ty_api_Record.den) : Option (Ty_lead_Lead.den × Ty_lead_Step.den) := runC Alg.std G_lead_Lead_looked T Tryz.f11 lead_Lead_Hear.cuts lead_Lead_Hear.r 17 lead_Lead_Hear.s17 k (x1, (), (), (), (), (), (), b3, b5, b6, b7, b8, ())
noncomputable def lead_Lead_Hear.c18 (k : Nat) (x1 : List Ty_api_Record.den) (b3 : Ty_lead_Lead.den) (b5 : Ty_api_Message.den) (b6 : Ty_lead_Lead.den) (b7 : Ty_lead_Step.den) (b8 : Ty_api_Record.den) : Option (Ty_lead_Lead.den × Ty_lead_Step.den) := runC Alg.std G_lead_Lead_looked T Tryz.f11 lead_Lead_Hear.cuts lead_Lead_Hear.r 18 lead_Lead_Hear.s18 k (x1, (), (), (), (), (), (), b3, b5, b6, b7, b8, ())
noncomputable def lead_Lead_Hear.c20 (k : Nat) (b3 : Ty_lead_Lead.den) (b6 : Ty_lead_Lead.den) (b7 : Ty_lead_Step.den) : Option (Ty_lead_Lead.den × Ty_lead_Step.den) := runC Alg.std G_lead_Lead_looked T Tryz.f11 lead_Lead_Hear.cuts lead_Lead_Hear.r 20 lead_Lead_Hear.s20 k ((), (), (), b3, b6, b7, ())
noncomputable def G_lead_Lead_Hear (k : Nat) : Gam := ins 11 (.pu lead_Lead_Hear.ps lead_Lead_Hear.r (lead_Lead_Hear k)) (G_lead_Lead_looked k)
theorem ok_lead_Lead_Hear : GOk Tryz.prog G_lead_Lead_Hear := ok_lead_Lead_looked.ins fun k => by rw [show lead_Lead_Hear k = lead_Lead_Hear.raw k from congrFun (sealed_eq lead_Lead_Hear.raw) k]; exact runF_ok tabOk ok_lead_Lead_looked mix Tryz.func11 Tryz.call11 lead_Lead_Hear.cuts lead_Lead_Hear.ps lead_Lead_Hear.r (by rw [Tryz.ntmps11]; decide) k
def althinglaw14_awake.cuts : List (Nat × List CK) := []
abbrev althinglaw14_awake.ps : List PK := []
abbrev althinglaw14_awake.r : Ty := .bool
noncomputable def althinglaw14_awake.raw (k : Nat) : Option Bool := runF Alg.std G_lead_Lead_Hear T Tryz.f9 althinglaw14_awake.cuts althinglaw14_awake.ps althinglaw14_awake.r k
noncomputable def althinglaw14_awake (k : Nat) : Option Bool := sealed althinglaw14_awake.raw k
theorem althinglaw14_awake_raw (k : Nat) : althinglaw14_awake k = althinglaw14_awake.raw k := by unfold althinglaw14_awake; rw [sealed_eq]
noncomputable def G_althinglaw14_awake (k : Nat) : Gam := ins 9 (.pu althinglaw14_awake.ps althinglaw14_awake.r (althinglaw14_awake k)) (G_lead_Lead_Hear k)
theorem ok_althinglaw14_awake : GOk Tryz.prog G_althinglaw14_awake := ok_lead_Lead_Hear.ins fun k => by rw [show althinglaw14_awake k = althinglaw14_awake.raw k from congrFun (sealed_eq althinglaw14_awake.raw) k]; exact runF_ok tabOk ok_lead_Lead_Hear mix Tryz.func9 Tryz.call9 althinglaw14_awake.cuts althinglaw14_awake.ps althinglaw14_awake.r (by rw [Tryz.ntmps9]; decide) k
def althinglaw14_given.s3 : List CK := [.ptr 2 2 Ty_lead_Lead, .ptr 3 3 Ty_lead_Lead, .tmp 26 (.sl 58 Ty_repair_Vote), .tmp 27 Ty.i64, .tmp 28 Ty.i64, .box 2 Ty_lead_Lead [], .lnk 44 3 9 80 Ty_repair_Vote, .box 3 Ty_lead_Lead [9]]
def althinglaw14_given.cuts : List (Nat × List CK) := [(3, althinglaw14_given.s3)]
abbrev althinglaw14_given.ps : List PK := [.val Ty_althingref14_Lead]
abbrev althinglaw14_given.r : Ty := Ty_lead_Lead
noncomputable def althinglaw14_given.raw (k : Nat) (a0 : Ty_althingref14_Lead.den) : Option Ty_lead_Lead.den := runF Alg.std G_althinglaw14_awake T Tryz.f10 althinglaw14_given.cuts althinglaw14_given.ps althinglaw14_given.r k a0
noncomputable def althinglaw14_given (k : Nat) (a0 : Ty_althingref14_Lead.den) : Option Ty_lead_Lead.den := sealed althinglaw14_given.raw k a0
theorem althinglaw14_given_raw (k : Nat) (a0 : Ty_althingref14_Lead.den) : althinglaw14_given k a0 = althinglaw14_given.raw k a0 := by unfold althinglaw14_given; rw [sealed_eq]
noncomputable def althinglaw14_given.c3 (k : Nat) (x26 : List Ty_repair_Vote.den) (x27 : Int) (x28 : Int) (b2 : Ty_lead_Lead.den) (l3_9 : List Ty_repair_Vote.den) (b3 : Ty_lead_Lead.den) : Option Ty_lead_Lead.den := runC Alg.std G_althinglaw14_awake T Tryz.f10 althinglaw14_given.cuts althinglaw14_given.r 3 althinglaw14_given.s3 k ((), (), x26, x27, x28, b2, l3_9, b3, ())
noncomputable def G_althinglaw14_given (k : Nat) : Gam := ins 10 (.pu althinglaw14_given.ps althinglaw14_given.r (althinglaw14_given k)) (G_althinglaw14_awake k)
theorem ok_althinglaw14_given : GOk Tryz.prog G_althinglaw14_given := ok_althinglaw14_awake.ins fun k => by rw [show althinglaw14_given k = althinglaw14_given.raw k from congrFun (sealed_eq althinglaw14_given.raw) k]; exact runF_ok tabOk ok_althinglaw14_awake mix Tryz.func10 Tryz.call10 althinglaw14_given.cuts althinglaw14_given.ps althinglaw14_given.r (by rw [Tryz.ntmps10]; decide) k
def althingref05_Same.s4 : List CK := [.ptr 2 2 Ty_api_Command, .ptr 3 3 Ty_api_Command, .tmp 5 Ty.i64, .box 2 Ty_api_Command [], .box 3 Ty_api_Command []]
def althingref05_Same.s9 : List CK := [.ptr 2 2 Ty_api_Command, .ptr 3 3 Ty_api_Command, .tmp 6 Ty.i64, .box 2 Ty_api_Command [], .box 3 Ty_api_Command []]
def althingref05_Same.cuts : List (Nat × List CK) := [(4, althingref05_Same.s4), (9, althingref05_Same.s9)]
abbrev althingref05_Same.ps : List PK := [.val Ty_api_Command, .val Ty_api_Command]
abbrev althingref05_Same.r : Ty := .bool
noncomputable def althingref05_Same.raw (k : Nat) (a0 : Ty_api_Command.den) (a1 : Ty_api_Command.den) : Option Bool := runF Alg.std G_althinglaw14_given T Tryz.f42 althingref05_Same.cuts althingref05_Same.ps althingref05_Same.r k a0 a1
noncomputable def althingref05_Same (k : Nat) (a0 : Ty_api_Command.den) (a1 : Ty_api_Command.den) : Option Bool := sealed althingref05_Same.raw k a0 a1
theorem althingref05_Same_raw (k : Nat) (a0 : Ty_api_Command.den) (a1 : Ty_api_Command.den) : althingref05_Same k a0 a1 = althingref05_Same.raw k a0 a1 := by unfold althingref05_Same; rw [sealed_eq]
noncomputable def althingref05_Same.c4 (k : Nat) (x5 : Int) (b2 : Ty_api_Command.den) (b3 : Ty_api_Command.den) : Option Bool := runC Alg.std G_althinglaw14_given T Tryz.f42 althingref05_Same.cuts althingref05_Same.r 4 althingref05_Same.s4 k ((), (), x5, b2, b3, ())
noncomputable def althingref05_Same.c9 (k : Nat) (x6 : Int) (b2 : Ty_api_Command.den) (b3 : Ty_api_Command.den) : Option Bool := runC Alg.std G_althinglaw14_given T Tryz.f42 althingref05_Same.cuts althingref05_Same.r 9 althingref05_Same.s9 k ((), (), x6, b2, b3, ())
noncomputable def G_althingref05_Same (k : Nat) : Gam := ins 42 (.pu althingref05_Same.ps althingref05_Same.r (althingref05_Same k)) (G_althinglaw14_given k)
theorem ok_althingref05_Same : GOk Tryz.prog G_althingref05_Same := ok_althinglaw14_given.ins fun k => by rw [show althingref05_Same k = althingref05_Same.raw k from congrFun (sealed_eq althingref05_Same.raw) k]; exact runF_ok tabOk ok_althinglaw14_given mix Tryz.func42 Tryz.call42 althingref05_Same.cuts althingref05_Same.ps althingref05_Same.r (by rw [Tryz.ntmps42]; decide) k
def althingref07_Same.cuts : List (Nat × List CK) := []
abbrev althingref07_Same.ps : List PK := [.val Ty_api_Record, .val Ty_api_Record]
abbrev althingref07_Same.r : Ty := .bool
noncomputable def althingref07_Same.raw (k : Nat) (a0 : Ty_api_Record.den) (a1 : Ty_api_Record.den) : Option Bool := runF Alg.std G_althingref05_Same T Tryz.f12 althingref07_Same.cuts althingref07_Same.ps althingref07_Same.r k a0 a1
noncomputable def althingref07_Same (k : Nat) (a0 : Ty_api_Record.den) (a1 : Ty_api_Record.den) : Option Bool := sealed althingref07_Same.raw k a0 a1
theorem althingref07_Same_raw (k : Nat) (a0 : Ty_api_Record.den) (a1 : Ty_api_Record.den) : althingref07_Same k a0 a1 = althingref07_Same.raw k a0 a1 := by unfold althingref07_Same; rw [sealed_eq]
noncomputable def G_althingref07_Same (k : Nat) : Gam := ins 12 (.pu althingref07_Same.ps althingref07_Same.r (althingref07_Same k)) (G_althingref05_Same k)
theorem ok_althingref07_Same : GOk Tryz.prog G_althingref07_Same := ok_althingref05_Same.ins fun k => by rw [show althingref07_Same k = althingref07_Same.raw k from congrFun (sealed_eq althingref07_Same.raw) k]; exact runF_ok tabOk ok_althingref05_Same mix Tryz.func12 Tryz.call12 althingref07_Same.cuts althingref07_Same.ps althingref07_Same.r (by rw [Tryz.ntmps12]; decide) k
def althingref01_Has.s5 : List CK := [.tmp 1 Ty.i64, .tmp 5 (.int .u64), .tmp 6 Ty.i64]
def althingref01_Has.cuts : List (Nat × List CK) := [(5, althingref01_Has.s5)]
abbrev althingref01_Has.ps : List PK := [.val Ty.i64, .val Ty.i64]
abbrev althingref01_Has.r : Ty := .bool
noncomputable def althingref01_Has.raw (k : Nat) (a0 : Int) (a1 : Int) : Option Bool := runF Alg.std G_althingref07_Same T Tryz.f44 althingref01_Has.cuts althingref01_Has.ps althingref01_Has.r k a0 a1
noncomputable def althingref01_Has (k : Nat) (a0 : Int) (a1 : Int) : Option Bool := sealed althingref01_Has.raw k a0 a1
theorem althingref01_Has_raw (k : Nat) (a0 : Int) (a1 : Int) : althingref01_Has k a0 a1 = althingref01_Has.raw k a0 a1 := by unfold althingref01_Has; rw [sealed_eq]
noncomputable def althingref01_Has.c5 (k : Nat) (x1 : Int) (x5 : Int) (x6 : Int) : Option Bool := runC Alg.std G_althingref07_Same T Tryz.f44 althingref01_Has.cuts althingref01_Has.r 5 althingref01_Has.s5 k (x1, x5, x6, ())
noncomputable def G_althingref01_Has (k : Nat) : Gam := ins 44 (.pu althingref01_Has.ps althingref01_Has.r (althingref01_Has k)) (G_althingref07_Same k)
theorem ok_althingref01_Has : GOk Tryz.prog G_althingref01_Has := ok_althingref07_Same.ins fun k => by rw [show althingref01_Has k = althingref01_Has.raw k from congrFun (sealed_eq althingref01_Has.raw) k]; exact runF_ok tabOk ok_althingref07_Same mix Tryz.func44 Tryz.call44 althingref01_Has.cuts althingref01_Has.ps althingref01_Has.r (by rw [Tryz.ntmps44]; decide) k
def althingref01_Members.s3 : List CK := [.tmp 0 Ty.i64, .own 3 3 Ty.i64, .tmp 4 Ty.i64]
def althingref01_Members.cuts : List (Nat × List CK) := [(3, althingref01_Members.s3)]
abbrev althingref01_Members.ps : List PK := [.val Ty.i64]
abbrev althingref01_Members.r : Ty := (.sl 3 Ty.i64)
noncomputable def althingref01_Members.raw (k : Nat) (a0 : Int) : Option (List Int) := runF Alg.std G_althingref01_Has T Tryz.f43 althingref01_Members.cuts althingref01_Members.ps althingref01_Members.r k a0
noncomputable def althingref01_Members (k : Nat) (a0 : Int) : Option (List Int) := sealed althingref01_Members.raw k a0
theorem althingref01_Members_raw (k : Nat) (a0 : Int) : althingref01_Members k a0 = althingref01_Members.raw k a0 := by unfold althingref01_Members; rw [sealed_eq]
noncomputable def althingref01_Members.c3 (k : Nat) (x0 : Int) (x3 : List Int) (x4 : Int) : Option (List Int) := runC Alg.std G_althingref01_Has T Tryz.f43 althingref01_Members.cuts althingref01_Members.r 3 althingref01_Members.s3 k (x0, x3, x4, ())
noncomputable def G_althingref01_Members (k : Nat) : Gam := ins 43 (.pu althingref01_Members.ps althingref01_Members.r (althingref01_Members k)) (G_althingref01_Has k)
theorem ok_althingref01_Members : GOk Tryz.prog G_althingref01_Members := ok_althingref01_Has.ins fun k => by rw [show althingref01_Members k = althingref01_Members.raw k from congrFun (sealed_eq althingref01_Members.raw) k]; exact runF_ok tabOk ok_althingref01_Has mix Tryz.func43 Tryz.call43 althingref01_Members.cuts althingref01_Members.ps althingref01_Members.r (by rw [Tryz.ntmps43]; decide) k
def althingref01_Count.cuts : List (Nat × List CK) := []
abbrev althingref01_Count.ps : List PK := [.val Ty.i64]
abbrev althingref01_Count.r : Ty := Ty.i64
noncomputable def althingref01_Count.raw (k : Nat) (a0 : Int) : Option Int := runF Alg.std G_althingref01_Members T Tryz.f13 althingref01_Count.cuts althingref01_Count.ps althingref01_Count.r k a0
noncomputable def althingref01_Count (k : Nat) (a0 : Int) : Option Int := sealed althingref01_Count.raw k a0
theorem althingref01_Count_raw (k : Nat) (a0 : Int) : althingref01_Count k a0 = althingref01_Count.raw k a0 := by unfold althingref01_Count; rw [sealed_eq]
noncomputable def G_althingref01_Count (k : Nat) : Gam := ins 13 (.pu althingref01_Count.ps althingref01_Count.r (althingref01_Count k)) (G_althingref01_Members k)
theorem ok_althingref01_Count : GOk Tryz.prog G_althingref01_Count := ok_althingref01_Members.ins fun k => by rw [show althingref01_Count k = althingref01_Count.raw k from congrFun (sealed_eq althingref01_Count.raw) k]; exact runF_ok tabOk ok_althingref01_Members mix Tryz.func13 Tryz.call13 althingref01_Count.cuts althingref01_Count.ps althingref01_Count.r (by rw [Tryz.ntmps13]; decide) k
def althingref01_Size.cuts : List (Nat × List CK) := []
abbrev althingref01_Size.ps : List PK := [.val Ty.i64]
abbrev althingref01_Size.r : Ty := Ty.i64
noncomputable def althingref01_Size.raw (k : Nat) (a0 : Int) : Option Int := runF Alg.std G_althingref01_Count T Tryz.f22 althingref01_Size.cuts althingref01_Size.ps althingref01_Size.r k a0
noncomputable def althingref01_Size (k : Nat) (a0 : Int) : Option Int := sealed althingref01_Size.raw k a0
theorem althingref01_Size_raw (k : Nat) (a0 : Int) : althingref01_Size k a0 = althingref01_Size.raw k a0 := by unfold althingref01_Size; rw [sealed_eq]
noncomputable def G_althingref01_Size (k : Nat) : Gam := ins 22 (.pu althingref01_Size.ps althingref01_Size.r (althingref01_Size k)) (G_althingref01_Count k)
theorem ok_althingref01_Size : GOk Tryz.prog G_althingref01_Size := ok_althingref01_Count.ins fun k => by rw [show althingref01_Size k = althingref01_Size.raw k from congrFun (sealed_eq althingref01_Size.raw) k]; exact runF_ok tabOk ok_althingref01_Count mix Tryz.func22 Tryz.call22 althingref01_Size.cuts althingref01_Size.ps althingref01_Size.r (by rw [Tryz.ntmps22]; decide) k
def althingref01_Slow.cuts : List (Nat × List CK) := []
abbrev althingref01_Slow.ps : List PK := [.val Ty.i64]
abbrev althingref01_Slow.r : Ty := Ty.i64
noncomputable def althingref01_Slow.raw (k : Nat) (a0 : Int) : Option Int := runF Alg.std G_althingref01_Size T Tryz.f45 althingref01_Slow.cuts althingref01_Slow.ps althingref01_Slow.r k a0
noncomputable def althingref01_Slow (k : Nat) (a0 : Int) : Option Int := sealed althingref01_Slow.raw k a0
theorem althingref01_Slow_raw (k : Nat) (a0 : Int) : althingref01_Slow k a0 = althingref01_Slow.raw k a0 := by unfold althingref01_Slow; rw [sealed_eq]
noncomputable def G_althingref01_Slow (k : Nat) : Gam := ins 45 (.pu althingref01_Slow.ps althingref01_Slow.r (althingref01_Slow k)) (G_althingref01_Size k)
theorem ok_althingref01_Slow : GOk Tryz.prog G_althingref01_Slow := ok_althingref01_Size.ins fun k => by rw [show althingref01_Slow k = althingref01_Slow.raw k from congrFun (sealed_eq althingref01_Slow.raw) k]; exact runF_ok tabOk ok_althingref01_Size mix Tryz.func45 Tryz.call45 althingref01_Slow.cuts althingref01_Slow.ps althingref01_Slow.r (by rw [Tryz.ntmps45]; decide) k
def althingref01_Major.s3 : List CK := [.tmp 0 Ty.i64, .tmp 1 Ty.i64, .tmp 5 Ty.i64, .tmp 6 Ty.i64]
def althingref01_Major.cuts : List (Nat × List CK) := [(3, althingref01_Major.s3)]
abbrev althingref01_Major.ps : List PK := [.val Ty.i64, .val Ty.i64]
abbrev althingref01_Major.r : Ty := .bool
noncomputable def althingref01_Major.raw (k : Nat) (a0 : Int) (a1 : Int) : Option Bool := runF Alg.std G_althingref01_Slow T Tryz.f14 althingref01_Major.cuts althingref01_Major.ps althingref01_Major.r k a0 a1
noncomputable def althingref01_Major (k : Nat) (a0 : Int) (a1 : Int) : Option Bool := sealed althingref01_Major.raw k a0 a1
theorem althingref01_Major_raw (k : Nat) (a0 : Int) (a1 : Int) : althingref01_Major k a0 a1 = althingref01_Major.raw k a0 a1 := by unfold althingref01_Major; rw [sealed_eq]
noncomputable def althingref01_Major.c3 (k : Nat) (x0 : Int) (x1 : Int) (x5 : Int) (x6 : Int) : Option Bool := runC Alg.std G_althingref01_Slow T Tryz.f14 althingref01_Major.cuts althingref01_Major.r 3 althingref01_Major.s3 k (x0, x1, x5, x6, ())
noncomputable def G_althingref01_Major (k : Nat) : Gam := ins 14 (.pu althingref01_Major.ps althingref01_Major.r (althingref01_Major k)) (G_althingref01_Slow k)
theorem ok_althingref01_Major : GOk Tryz.prog G_althingref01_Major := ok_althingref01_Slow.ins fun k => by rw [show althingref01_Major k = althingref01_Major.raw k from congrFun (sealed_eq althingref01_Major.raw) k]; exact runF_ok tabOk ok_althingref01_Slow mix Tryz.func14 Tryz.call14 althingref01_Major.cuts althingref01_Major.ps althingref01_Major.r (by rw [Tryz.ntmps14]; decide) k
def althinglaw14_LeadCommits.s8 : List CK := [.ptr 3 3 Ty_althingref14_Lead, .ptr 5 5 Ty_api_Message, .ptr 7 7 Ty_lead_Lead, .ptr 8 8 Ty_lead_Step, .box 3 Ty_althingref14_Lead [], .box 5 Ty_api_Message [], .box 7 Ty_lead_Lead [], .box 8 Ty_lead_Step []]
def althinglaw14_LeadCommits.s15 : List CK := [.ptr 3 3 Ty_althingref14_Lead, .tmp 9 .bool, .tmp 153 (.sl 58 Ty_repair_Vote), .tmp 154 Ty.i64, .tmp 155 Ty.i64, .box 3 Ty_althingref14_Lead []]
def althinglaw14_LeadCommits.cuts : List (Nat × List CK) := [(8, althinglaw14_LeadCommits.s8), (15, althinglaw14_LeadCommits.s15)]
abbrev althinglaw14_LeadCommits.ps : List PK := [.val Ty_althingref14_Lead, .val (.sl 37 Ty_api_Record), .val Ty_api_Message]
abbrev althinglaw14_LeadCommits.r : Ty := .bool
noncomputable def althinglaw14_LeadCommits.raw (k : Nat) (a0 : Ty_althingref14_Lead.den) (a1 : List Ty_api_Record.den) (a2 : Ty_api_Message.den) : Option Bool := runF Alg.std G_althingref01_Major T Tryz.f3 althinglaw14_LeadCommits.cuts althinglaw14_LeadCommits.ps althinglaw14_LeadCommits.r k a0 a1 a2
noncomputable def althinglaw14_LeadCommits (k : Nat) (a0 : Ty_althingref14_Lead.den) (a1 : List Ty_api_Record.den) (a2 : Ty_api_Message.den) : Option Bool := sealed althinglaw14_LeadCommits.raw k a0 a1 a2
theorem althinglaw14_LeadCommits_raw (k : Nat) (a0 : Ty_althingref14_Lead.den) (a1 : List Ty_api_Record.den) (a2 : Ty_api_Message.den) : althinglaw14_LeadCommits k a0 a1 a2 = althinglaw14_LeadCommits.raw k a0 a1 a2 := by unfold althinglaw14_LeadCommits; rw [sealed_eq]
noncomputable def althinglaw14_LeadCommits.c8 (k : Nat) (b3 : Ty_althingref14_Lead.den) (b5 : Ty_api_Message.den) (b7 : Ty_lead_Lead.den) (b8 : Ty_lead_Step.den) : Option Bool := runC Alg.std G_althingref01_Major T Tryz.f3 althinglaw14_LeadCommits.cuts althinglaw14_LeadCommits.r 8 althinglaw14_LeadCommits.s8 k ((), (), (), (), b3, b5, b7, b8, ())
noncomputable def althinglaw14_LeadCommits.c15 (k : Nat) (x9 : Bool) (x153 : List Ty_repair_Vote.den) (x154 : Int) (x155 : Int) (b3 : Ty_althingref14_Lead.den) : Option Bool := runC Alg.std G_althingref01_Major T Tryz.f3 althinglaw14_LeadCommits.cuts althinglaw14_LeadCommits.r 15 althinglaw14_LeadCommits.s15 k ((), x9, x153, x154, x155, b3, ())
noncomputable def G_althinglaw14_LeadCommits (k : Nat) : Gam := ins 3 (.pu althinglaw14_LeadCommits.ps althinglaw14_LeadCommits.r (althinglaw14_LeadCommits k)) (G_althingref01_Major k)
theorem ok_althinglaw14_LeadCommits : GOk Tryz.prog G_althinglaw14_LeadCommits := ok_althingref01_Major.ins fun k => by rw [show althinglaw14_LeadCommits k = althinglaw14_LeadCommits.raw k from congrFun (sealed_eq althinglaw14_LeadCommits.raw) k]; exact runF_ok tabOk ok_althingref01_Major mix Tryz.func3 Tryz.call3 althinglaw14_LeadCommits.cuts althinglaw14_LeadCommits.ps althinglaw14_LeadCommits.r (by rw [Tryz.ntmps3]; decide) k
def althinglaw14_view.s3 : List CK := [.ptr 2 2 Ty_althingref14_Lead, .ptr 3 3 Ty_althingref14_Lead, .tmp 26 (.sl 80 Ty_repair_Vote), .tmp 27 Ty.i64, .tmp 28 Ty.i64, .box 2 Ty_althingref14_Lead [], .lnk 44 3 9 58 Ty_repair_Vote, .box 3 Ty_althingref14_Lead [9]]
def althinglaw14_view.cuts : List (Nat × List CK) := [(3, althinglaw14_view.s3)]
abbrev althinglaw14_view.ps : List PK := [.val Ty_lead_Lead]
abbrev althinglaw14_view.r : Ty := Ty_althingref14_Lead
noncomputable def althinglaw14_view.raw (k : Nat) (a0 : Ty_lead_Lead.den) : Option Ty_althingref14_Lead.den := runF Alg.std G_althinglaw14_LeadCommits T Tryz.f16 althinglaw14_view.cuts althinglaw14_view.ps althinglaw14_view.r k a0
noncomputable def althinglaw14_view (k : Nat) (a0 : Ty_lead_Lead.den) : Option Ty_althingref14_Lead.den := sealed althinglaw14_view.raw k a0
theorem althinglaw14_view_raw (k : Nat) (a0 : Ty_lead_Lead.den) : althinglaw14_view k a0 = althinglaw14_view.raw k a0 := by unfold althinglaw14_view; rw [sealed_eq]
noncomputable def althinglaw14_view.c3 (k : Nat) (x26 : List Ty_repair_Vote.den) (x27 : Int) (x28 : Int) (b2 : Ty_althingref14_Lead.den) (l3_9 : List Ty_repair_Vote.den) (b3 : Ty_althingref14_Lead.den) : Option Ty_althingref14_Lead.den := runC Alg.std G_althinglaw14_LeadCommits T Tryz.f16 althinglaw14_view.cuts althinglaw14_view.r 3 althinglaw14_view.s3 k ((), (), x26, x27, x28, b2, l3_9, b3, ())
noncomputable def G_althinglaw14_view (k : Nat) : Gam := ins 16 (.pu althinglaw14_view.ps althinglaw14_view.r (althinglaw14_view k)) (G_althinglaw14_LeadCommits k)
theorem ok_althinglaw14_view : GOk Tryz.prog G_althinglaw14_view := ok_althinglaw14_LeadCommits.ins fun k => by rw [show althinglaw14_view k = althinglaw14_view.raw k from congrFun (sealed_eq althinglaw14_view.raw) k]; exact runF_ok tabOk ok_althinglaw14_LeadCommits mix Tryz.func16 Tryz.call16 althinglaw14_view.cuts althinglaw14_view.ps althinglaw14_view.r (by rw [Tryz.ntmps16]; decide) k
def althingref14_Same.s4 : List CK := [.ptr 2 2 Ty_althingref14_Lead, .ptr 3 3 Ty_althingref14_Lead, .tmp 5 Ty.i64, .box 2 Ty_althingref14_Lead [], .box 3 Ty_althingref14_Lead []]
def althingref14_Same.cuts : List (Nat × List CK) := [(4, althingref14_Same.s4)]
abbrev althingref14_Same.ps : List PK := [.val Ty_althingref14_Lead, .val Ty_althingref14_Lead]
abbrev althingref14_Same.r : Ty := .bool
noncomputable def althingref14_Same.raw (k : Nat) (a0 : Ty_althingref14_Lead.den) (a1 : Ty_althingref14_Lead.den) : Option Bool := runF Alg.std G_althinglaw14_view T Tryz.f15 althingref14_Same.cuts althingref14_Same.ps althingref14_Same.r k a0 a1
noncomputable def althingref14_Same (k : Nat) (a0 : Ty_althingref14_Lead.den) (a1 : Ty_althingref14_Lead.den) : Option Bool := sealed althingref14_Same.raw k a0 a1
theorem althingref14_Same_raw (k : Nat) (a0 : Ty_althingref14_Lead.den) (a1 : Ty_althingref14_Lead.den) : althingref14_Same k a0 a1 = althingref14_Same.raw k a0 a1 := by unfold althingref14_Same; rw [sealed_eq]
noncomputable def althingref14_Same.c4 (k : Nat) (x5 : Int) (b2 : Ty_althingref14_Lead.den) (b3 : Ty_althingref14_Lead.den) : Option Bool := runC Alg.std G_althinglaw14_view T Tryz.f15 althingref14_Same.cuts althingref14_Same.r 4 althingref14_Same.s4 k ((), (), x5, b2, b3, ())
noncomputable def G_althingref14_Same (k : Nat) : Gam := ins 15 (.pu althingref14_Same.ps althingref14_Same.r (althingref14_Same k)) (G_althinglaw14_view k)
theorem ok_althingref14_Same : GOk Tryz.prog G_althingref14_Same := ok_althinglaw14_view.ins fun k => by rw [show althingref14_Same k = althingref14_Same.raw k from congrFun (sealed_eq althingref14_Same.raw) k]; exact runF_ok tabOk ok_althinglaw14_view mix Tryz.func15 Tryz.call15 althingref14_Same.cuts althingref14_Same.ps althingref14_Same.r (by rw [Tryz.ntmps15]; decide) k
def althinglaw14_LeadOnce.s6 : List CK := [.tmp 1 (.sl 37 Ty_api_Record), .ptr 5 5 Ty_api_Message, .ptr 7 7 Ty_lead_Lead, .box 5 Ty_api_Message [], .box 7 Ty_lead_Lead []]
def althinglaw14_LeadOnce.cuts : List (Nat × List CK) := [(6, althinglaw14_LeadOnce.s6)]
abbrev althinglaw14_LeadOnce.ps : List PK := [.val Ty_althingref14_Lead, .val (.sl 37 Ty_api_Record), .val Ty_api_Message]
abbrev althinglaw14_LeadOnce.r : Ty := .bool
noncomputable def althinglaw14_LeadOnce.raw (k : Nat) (a0 : Ty_althingref14_Lead.den) (a1 : List Ty_api_Record.den) (a2 : Ty_api_Message.den) : Option Bool := runF Alg.std G_althingref14_Same T Tryz.f4 althinglaw14_LeadOnce.cuts althinglaw14_LeadOnce.ps althinglaw14_LeadOnce.r k a0 a1 a2
noncomputable def althinglaw14_LeadOnce (k : Nat) (a0 : Ty_althingref14_Lead.den) (a1 : List Ty_api_Record.den) (a2 : Ty_api_Message.den) : Option Bool := sealed althinglaw14_LeadOnce.raw k a0 a1 a2
theorem althinglaw14_LeadOnce_raw (k : Nat) (a0 : Ty_althingref14_Lead.den) (a1 : List Ty_api_Record.den) (a2 : Ty_api_Message.den) : althinglaw14_LeadOnce k a0 a1 a2 = althinglaw14_LeadOnce.raw k a0 a1 a2 := by unfold althinglaw14_LeadOnce; rw [sealed_eq]
noncomputable def althinglaw14_LeadOnce.c6 (k : Nat) (x1 : List Ty_api_Record.den) (b5 : Ty_api_Message.den) (b7 : Ty_lead_Lead.den) : Option Bool := runC Alg.std G_althingref14_Same T Tryz.f4 althinglaw14_LeadOnce.cuts althinglaw14_LeadOnce.r 6 althinglaw14_LeadOnce.s6 k (x1, (), (), b5, b7, ())
noncomputable def G_althinglaw14_LeadOnce (k : Nat) : Gam := ins 4 (.pu althinglaw14_LeadOnce.ps althinglaw14_LeadOnce.r (althinglaw14_LeadOnce k)) (G_althingref14_Same k)
theorem ok_althinglaw14_LeadOnce : GOk Tryz.prog G_althinglaw14_LeadOnce := ok_althingref14_Same.ins fun k => by rw [show althinglaw14_LeadOnce k = althinglaw14_LeadOnce.raw k from congrFun (sealed_eq althinglaw14_LeadOnce.raw) k]; exact runF_ok tabOk ok_althingref14_Same mix Tryz.func4 Tryz.call4 althinglaw14_LeadOnce.cuts althinglaw14_LeadOnce.ps althinglaw14_LeadOnce.r (by rw [Tryz.ntmps4]; decide) k
def althingref02_Order.cuts : List (Nat × List CK) := []
abbrev althingref02_Order.ps : List PK := [.val Ty.i64, .val Ty.i64, .val Ty.i64, .val Ty.i64]
abbrev althingref02_Order.r : Ty := Ty.i64
noncomputable def althingref02_Order.raw (k : Nat) (a0 : Int) (a1 : Int) (a2 : Int) (a3 : Int) : Option Int := runF Alg.std G_althinglaw14_LeadOnce T Tryz.f46 althingref02_Order.cuts althingref02_Order.ps althingref02_Order.r k a0 a1 a2 a3
noncomputable def althingref02_Order (k : Nat) (a0 : Int) (a1 : Int) (a2 : Int) (a3 : Int) : Option Int := sealed althingref02_Order.raw k a0 a1 a2 a3
theorem althingref02_Order_raw (k : Nat) (a0 : Int) (a1 : Int) (a2 : Int) (a3 : Int) : althingref02_Order k a0 a1 a2 a3 = althingref02_Order.raw k a0 a1 a2 a3 := by unfold althingref02_Order; rw [sealed_eq]
noncomputable def G_althingref02_Order (k : Nat) : Gam := ins 46 (.pu althingref02_Order.ps althingref02_Order.r (althingref02_Order k)) (G_althinglaw14_LeadOnce k)
theorem ok_althingref02_Order : GOk Tryz.prog G_althingref02_Order := ok_althinglaw14_LeadOnce.ins fun k => by rw [show althingref02_Order k = althingref02_Order.raw k from congrFun (sealed_eq althingref02_Order.raw) k]; exact runF_ok tabOk ok_althinglaw14_LeadOnce mix Tryz.func46 Tryz.call46 althingref02_Order.cuts althingref02_Order.ps althingref02_Order.r (by rw [Tryz.ntmps46]; decide) k
def althingref02_Lower.cuts : List (Nat × List CK) := []
abbrev althingref02_Lower.ps : List PK := [.val Ty_api_Instance, .val Ty_api_Instance]
abbrev althingref02_Lower.r : Ty := .bool
noncomputable def althingref02_Lower.raw (k : Nat) (a0 : Ty_api_Instance.den) (a1 : Ty_api_Instance.den) : Option Bool := runF Alg.std G_althingref02_Order T Tryz.f17 althingref02_Lower.cuts althingref02_Lower.ps althingref02_Lower.r k a0 a1
noncomputable def althingref02_Lower (k : Nat) (a0 : Ty_api_Instance.den) (a1 : Ty_api_Instance.den) : Option Bool := sealed althingref02_Lower.raw k a0 a1
theorem althingref02_Lower_raw (k : Nat) (a0 : Ty_api_Instance.den) (a1 : Ty_api_Instance.den) : althingref02_Lower k a0 a1 = althingref02_Lower.raw k a0 a1 := by unfold althingref02_Lower; rw [sealed_eq]
noncomputable def G_althingref02_Lower (k : Nat) : Gam := ins 17 (.pu althingref02_Lower.ps althingref02_Lower.r (althingref02_Lower k)) (G_althingref02_Order k)
theorem ok_althingref02_Lower : GOk Tryz.prog G_althingref02_Lower := ok_althingref02_Order.ins fun k => by rw [show althingref02_Lower k = althingref02_Lower.raw k from congrFun (sealed_eq althingref02_Lower.raw) k]; exact runF_ok tabOk ok_althingref02_Order mix Tryz.func17 Tryz.call17 althingref02_Lower.cuts althingref02_Lower.ps althingref02_Lower.r (by rw [Tryz.ntmps17]; decide) k
def althinglaw14_LeadKeeps.cuts : List (Nat × List CK) := []
abbrev althinglaw14_LeadKeeps.ps : List PK := [.val Ty_althingref14_Lead, .val (.sl 37 Ty_api_Record), .val Ty_api_Message]
abbrev althinglaw14_LeadKeeps.r : Ty := .bool
noncomputable def althinglaw14_LeadKeeps.raw (k : Nat) (a0 : Ty_althingref14_Lead.den) (a1 : List Ty_api_Record.den) (a2 : Ty_api_Message.den) : Option Bool := runF Alg.std G_althingref02_Lower T Tryz.f5 althinglaw14_LeadKeeps.cuts althinglaw14_LeadKeeps.ps althinglaw14_LeadKeeps.r k a0 a1 a2
noncomputable def althinglaw14_LeadKeeps (k : Nat) (a0 : Ty_althingref14_Lead.den) (a1 : List Ty_api_Record.den) (a2 : Ty_api_Message.den) : Option Bool := sealed althinglaw14_LeadKeeps.raw k a0 a1 a2
theorem althinglaw14_LeadKeeps_raw (k : Nat) (a0 : Ty_althingref14_Lead.den) (a1 : List Ty_api_Record.den) (a2 : Ty_api_Message.den) : althinglaw14_LeadKeeps k a0 a1 a2 = althinglaw14_LeadKeeps.raw k a0 a1 a2 := by unfold althinglaw14_LeadKeeps; rw [sealed_eq]
noncomputable def G_althinglaw14_LeadKeeps (k : Nat) : Gam := ins 5 (.pu althinglaw14_LeadKeeps.ps althinglaw14_LeadKeeps.r (althinglaw14_LeadKeeps k)) (G_althingref02_Lower k)
theorem ok_althinglaw14_LeadKeeps : GOk Tryz.prog G_althinglaw14_LeadKeeps := ok_althingref02_Lower.ins fun k => by rw [show althinglaw14_LeadKeeps k = althinglaw14_LeadKeeps.raw k from congrFun (sealed_eq althinglaw14_LeadKeeps.raw) k]; exact runF_ok tabOk ok_althingref02_Lower mix Tryz.func5 Tryz.call5 althinglaw14_LeadKeeps.cuts althinglaw14_LeadKeeps.ps althinglaw14_LeadKeeps.r (by rw [Tryz.ntmps5]; decide) k
def lead_Lead_Push.s2 : List CK := [.ptr 2 2 Ty_lead_Lead, .ptr 4 4 Ty_lead_Lead, .ptr 5 5 Ty_lead_Step, .box 2 Ty_lead_Lead [], .box 4 Ty_lead_Lead [], .box 5 Ty_lead_Step []]
def lead_Lead_Push.s4 : List CK := [.ptr 2 2 Ty_lead_Lead, .ptr 4 4 Ty_lead_Lead, .ptr 5 5 Ty_lead_Step, .box 2 Ty_lead_Lead [], .box 4 Ty_lead_Lead [], .box 5 Ty_lead_Step []]
def lead_Lead_Push.s5 : List CK := [.ptr 2 2 Ty_lead_Lead, .ptr 4 4 Ty_lead_Lead, .ptr 5 5 Ty_lead_Step, .box 2 Ty_lead_Lead [], .box 4 Ty_lead_Lead [], .box 5 Ty_lead_Step []]
def lead_Lead_Push.s6 : List CK := [.ptr 2 2 Ty_lead_Lead, .ptr 4 4 Ty_lead_Lead, .ptr 5 5 Ty_lead_Step, .box 2 Ty_lead_Lead [], .box 4 Ty_lead_Lead [], .box 5 Ty_lead_Step []]
def lead_Lead_Push.cuts : List (Nat × List CK) := [(2, lead_Lead_Push.s2), (4, lead_Lead_Push.s4), (5, lead_Lead_Push.s5), (6, lead_Lead_Push.s6)]
abbrev lead_Lead_Push.ps : List PK := [.val Ty_lead_Lead, .val (.sl 37 Ty_api_Record)]
abbrev lead_Lead_Push.r : Ty := (.tup (.pair Ty_lead_Lead Ty_lead_Step))
noncomputable def lead_Lead_Push.raw (k : Nat) (a0 : Ty_lead_Lead.den) (a1 : List Ty_api_Record.den) : Option (Ty_lead_Lead.den × Ty_lead_Step.den) := runF Alg.std G_althinglaw14_LeadKeeps T Tryz.f19 lead_Lead_Push.cuts lead_Lead_Push.ps lead_Lead_Push.r k a0 a1
noncomputable def lead_Lead_Push (k : Nat) (a0 : Ty_lead_Lead.den) (a1 : List Ty_api_Record.den) : Option (Ty_lead_Lead.den × Ty_lead_Step.den) := sealed lead_Lead_Push.raw k a0 a1
theorem lead_Lead_Push_raw (k : Nat) (a0 : Ty_lead_Lead.den) (a1 : List Ty_api_Record.den) : lead_Lead_Push k a0 a1 = lead_Lead_Push.raw k a0 a1 := by unfold lead_Lead_Push; rw [sealed_eq]
noncomputable def lead_Lead_Push.c2 (k : Nat) (b2 : Ty_lead_Lead.den) (b4 : Ty_lead_Lead.den) (b5 : Ty_lead_Step.den) : Option (Ty_lead_Lead.den × Ty_lead_Step.den) := runC Alg.std G_althinglaw14_LeadKeeps T Tryz.f19 lead_Lead_Push.cuts lead_Lead_Push.r 2 lead_Lead_Push.s2 k ((), (), (), b2, b4, b5, ())
noncomputable def lead_Lead_Push.c4 (k : Nat) (b2 : Ty_lead_Lead.den) (b4 : Ty_lead_Lead.den) (b5 : Ty_lead_Step.den) : Option (Ty_lead_Lead.den × Ty_lead_Step.den) := runC Alg.std G_althinglaw14_LeadKeeps T Tryz.f19 lead_Lead_Push.cuts lead_Lead_Push.r 4 lead_Lead_Push.s4 k ((), (), (), b2, b4, b5, ())
noncomputable def lead_Lead_Push.c5 (k : Nat) (b2 : Ty_lead_Lead.den) (b4 : Ty_lead_Lead.den) (b5 : Ty_lead_Step.den) : Option (Ty_lead_Lead.den × Ty_lead_Step.den) := runC Alg.std G_althinglaw14_LeadKeeps T Tryz.f19 lead_Lead_Push.cuts lead_Lead_Push.r 5 lead_Lead_Push.s5 k ((), (), (), b2, b4, b5, ())
noncomputable def lead_Lead_Push.c6 (k : Nat) (b2 : Ty_lead_Lead.den) (b4 : Ty_lead_Lead.den) (b5 : Ty_lead_Step.den) : Option (Ty_lead_Lead.den × Ty_lead_Step.den) := runC Alg.std G_althinglaw14_LeadKeeps T Tryz.f19 lead_Lead_Push.cuts lead_Lead_Push.r 6 lead_Lead_Push.s6 k ((), (), (), b2, b4, b5, ())
noncomputable def G_lead_Lead_Push (k : Nat) : Gam := ins 19 (.pu lead_Lead_Push.ps lead_Lead_Push.r (lead_Lead_Push k)) (G_althinglaw14_LeadKeeps k)
theorem ok_lead_Lead_Push : GOk Tryz.prog G_lead_Lead_Push := ok_althinglaw14_LeadKeeps.ins fun k => by rw [show lead_Lead_Push k = lead_Lead_Push.raw k from congrFun (sealed_eq lead_Lead_Push.raw) k]; exact runF_ok tabOk ok_althinglaw14_LeadKeeps mix Tryz.func19 Tryz.call19 lead_Lead_Push.cuts lead_Lead_Push.ps lead_Lead_Push.r (by rw [Tryz.ntmps19]; decide) k
def althingref14_Gone.cuts : List (Nat × List CK) := []
abbrev althingref14_Gone.ps : List PK := [.val Ty_althingref14_Lead, .val Ty_api_Record]
abbrev althingref14_Gone.r : Ty := .bool
noncomputable def althingref14_Gone.raw (k : Nat) (a0 : Ty_althingref14_Lead.den) (a1 : Ty_api_Record.den) : Option Bool := runF Alg.std G_lead_Lead_Push T Tryz.f20 althingref14_Gone.cuts althingref14_Gone.ps althingref14_Gone.r k a0 a1
noncomputable def althingref14_Gone (k : Nat) (a0 : Ty_althingref14_Lead.den) (a1 : Ty_api_Record.den) : Option Bool := sealed althingref14_Gone.raw k a0 a1
theorem althingref14_Gone_raw (k : Nat) (a0 : Ty_althingref14_Lead.den) (a1 : Ty_api_Record.den) : althingref14_Gone k a0 a1 = althingref14_Gone.raw k a0 a1 := by unfold althingref14_Gone; rw [sealed_eq]
noncomputable def G_althingref14_Gone (k : Nat) : Gam := ins 20 (.pu althingref14_Gone.ps althingref14_Gone.r (althingref14_Gone k)) (G_lead_Lead_Push k)
theorem ok_althingref14_Gone : GOk Tryz.prog G_althingref14_Gone := ok_lead_Lead_Push.ins fun k => by rw [show althingref14_Gone k = althingref14_Gone.raw k from congrFun (sealed_eq althingref14_Gone.raw) k]; exact runF_ok tabOk ok_lead_Lead_Push mix Tryz.func20 Tryz.call20 althingref14_Gone.cuts althingref14_Gone.ps althingref14_Gone.r (by rw [Tryz.ntmps20]; decide) k
def althingref02_RightBallot.cuts : List (Nat × List CK) := []
abbrev althingref02_RightBallot.ps : List PK := [.val Ty_api_Instance]
abbrev althingref02_RightBallot.r : Ty := .bool
noncomputable def althingref02_RightBallot.raw (k : Nat) (a0 : Ty_api_Instance.den) : Option Bool := runF Alg.std G_althingref14_Gone T Tryz.f51 althingref02_RightBallot.cuts althingref02_RightBallot.ps althingref02_RightBallot.r k a0
noncomputable def althingref02_RightBallot (k : Nat) (a0 : Ty_api_Instance.den) : Option Bool := sealed althingref02_RightBallot.raw k a0
theorem althingref02_RightBallot_raw (k : Nat) (a0 : Ty_api_Instance.den) : althingref02_RightBallot k a0 = althingref02_RightBallot.raw k a0 := by unfold althingref02_RightBallot; rw [sealed_eq]
noncomputable def G_althingref02_RightBallot (k : Nat) : Gam := ins 51 (.pu althingref02_RightBallot.ps althingref02_RightBallot.r (althingref02_RightBallot k)) (G_althingref14_Gone k)
theorem ok_althingref02_RightBallot : GOk Tryz.prog G_althingref02_RightBallot := ok_althingref14_Gone.ins fun k => by rw [show althingref02_RightBallot k = althingref02_RightBallot.raw k from congrFun (sealed_eq althingref02_RightBallot.raw) k]; exact runF_ok tabOk ok_althingref14_Gone mix Tryz.func51 Tryz.call51 althingref02_RightBallot.cuts althingref02_RightBallot.ps althingref02_RightBallot.r (by rw [Tryz.ntmps51]; decide) k
def althingref02_RightInst.cuts : List (Nat × List CK) := []
abbrev althingref02_RightInst.ps : List PK := [.val Ty_api_Instance]
abbrev althingref02_RightInst.r : Ty := .bool
noncomputable def althingref02_RightInst.raw (k : Nat) (a0 : Ty_api_Instance.den) : Option Bool := runF Alg.std G_althingref02_RightBallot T Tryz.f61 althingref02_RightInst.cuts althingref02_RightInst.ps althingref02_RightInst.r k a0
noncomputable def althingref02_RightInst (k : Nat) (a0 : Ty_api_Instance.den) : Option Bool := sealed althingref02_RightInst.raw k a0
theorem althingref02_RightInst_raw (k : Nat) (a0 : Ty_api_Instance.den) : althingref02_RightInst k a0 = althingref02_RightInst.raw k a0 := by unfold althingref02_RightInst; rw [sealed_eq]
noncomputable def G_althingref02_RightInst (k : Nat) : Gam := ins 61 (.pu althingref02_RightInst.ps althingref02_RightInst.r (althingref02_RightInst k)) (G_althingref02_RightBallot k)
theorem ok_althingref02_RightInst : GOk Tryz.prog G_althingref02_RightInst := ok_althingref02_RightBallot.ins fun k => by rw [show althingref02_RightInst k = althingref02_RightInst.raw k from congrFun (sealed_eq althingref02_RightInst.raw) k]; exact runF_ok tabOk ok_althingref02_RightBallot mix Tryz.func61 Tryz.call61 althingref02_RightInst.cuts althingref02_RightInst.ps althingref02_RightInst.r (by rw [Tryz.ntmps61]; decide) k
def althingref02_RightTxn.cuts : List (Nat × List CK) := []
abbrev althingref02_RightTxn.ps : List PK := [.val Ty_api_Instance]
abbrev althingref02_RightTxn.r : Ty := .bool
noncomputable def althingref02_RightTxn.raw (k : Nat) (a0 : Ty_api_Instance.den) : Option Bool := runF Alg.std G_althingref02_RightInst T Tryz.f98 althingref02_RightTxn.cuts althingref02_RightTxn.ps althingref02_RightTxn.r k a0
noncomputable def althingref02_RightTxn (k : Nat) (a0 : Ty_api_Instance.den) : Option Bool := sealed althingref02_RightTxn.raw k a0
theorem althingref02_RightTxn_raw (k : Nat) (a0 : Ty_api_Instance.den) : althingref02_RightTxn k a0 = althingref02_RightTxn.raw k a0 := by unfold althingref02_RightTxn; rw [sealed_eq]
noncomputable def G_althingref02_RightTxn (k : Nat) : Gam := ins 98 (.pu althingref02_RightTxn.ps althingref02_RightTxn.r (althingref02_RightTxn k)) (G_althingref02_RightInst k)
theorem ok_althingref02_RightTxn : GOk Tryz.prog G_althingref02_RightTxn := ok_althingref02_RightInst.ins fun k => by rw [show althingref02_RightTxn k = althingref02_RightTxn.raw k from congrFun (sealed_eq althingref02_RightTxn.raw) k]; exact runF_ok tabOk ok_althingref02_RightInst mix Tryz.func98 Tryz.call98 althingref02_RightTxn.cuts althingref02_RightTxn.ps althingref02_RightTxn.r (by rw [Tryz.ntmps98]; decide) k
def althingref02_RightStamp.cuts : List (Nat × List CK) := []
abbrev althingref02_RightStamp.ps : List PK := [.val Ty_api_Instance]
abbrev althingref02_RightStamp.r : Ty := .bool
noncomputable def althingref02_RightStamp.raw (k : Nat) (a0 : Ty_api_Instance.den) : Option Bool := runF Alg.std G_althingref02_RightTxn T Tryz.f99 althingref02_RightStamp.cuts althingref02_RightStamp.ps althingref02_RightStamp.r k a0
noncomputable def althingref02_RightStamp (k : Nat) (a0 : Ty_api_Instance.den) : Option Bool := sealed althingref02_RightStamp.raw k a0
theorem althingref02_RightStamp_raw (k : Nat) (a0 : Ty_api_Instance.den) : althingref02_RightStamp k a0 = althingref02_RightStamp.raw k a0 := by unfold althingref02_RightStamp; rw [sealed_eq]
noncomputable def G_althingref02_RightStamp (k : Nat) : Gam := ins 99 (.pu althingref02_RightStamp.ps althingref02_RightStamp.r (althingref02_RightStamp k)) (G_althingref02_RightTxn k)
theorem ok_althingref02_RightStamp : GOk Tryz.prog G_althingref02_RightStamp := ok_althingref02_RightTxn.ins fun k => by rw [show althingref02_RightStamp k = althingref02_RightStamp.raw k from congrFun (sealed_eq althingref02_RightStamp.raw) k]; exact runF_ok tabOk ok_althingref02_RightTxn mix Tryz.func99 Tryz.call99 althingref02_RightStamp.cuts althingref02_RightStamp.ps althingref02_RightStamp.r (by rw [Tryz.ntmps99]; decide) k
def althingref02_Before.cuts : List (Nat × List CK) := []
abbrev althingref02_Before.ps : List PK := [.val Ty_api_Instance, .val Ty_api_Instance]
abbrev althingref02_Before.r : Ty := .bool
noncomputable def althingref02_Before.raw (k : Nat) (a0 : Ty_api_Instance.den) (a1 : Ty_api_Instance.den) : Option Bool := runF Alg.std G_althingref02_RightStamp T Tryz.f100 althingref02_Before.cuts althingref02_Before.ps althingref02_Before.r k a0 a1
noncomputable def althingref02_Before (k : Nat) (a0 : Ty_api_Instance.den) (a1 : Ty_api_Instance.den) : Option Bool := sealed althingref02_Before.raw k a0 a1
theorem althingref02_Before_raw (k : Nat) (a0 : Ty_api_Instance.den) (a1 : Ty_api_Instance.den) : althingref02_Before k a0 a1 = althingref02_Before.raw k a0 a1 := by unfold althingref02_Before; rw [sealed_eq]
noncomputable def G_althingref02_Before (k : Nat) : Gam := ins 100 (.pu althingref02_Before.ps althingref02_Before.r (althingref02_Before k)) (G_althingref02_RightStamp k)
theorem ok_althingref02_Before : GOk Tryz.prog G_althingref02_Before := ok_althingref02_RightStamp.ins fun k => by rw [show althingref02_Before k = althingref02_Before.raw k from congrFun (sealed_eq althingref02_Before.raw) k]; exact runF_ok tabOk ok_althingref02_RightStamp mix Tryz.func100 Tryz.call100 althingref02_Before.cuts althingref02_Before.ps althingref02_Before.r (by rw [Tryz.ntmps100]; decide) k
def althingref04_Right.cuts : List (Nat × List CK) := []
abbrev althingref04_Right.ps : List PK := [.val .str]
abbrev althingref04_Right.r : Ty := .bool
noncomputable def althingref04_Right.raw (k : Nat) (a0 : ByteArray) : Option Bool := runF Alg.std G_althingref02_Before T Tryz.f117 althingref04_Right.cuts althingref04_Right.ps althingref04_Right.r k a0
noncomputable def althingref04_Right (k : Nat) (a0 : ByteArray) : Option Bool := sealed althingref04_Right.raw k a0
theorem althingref04_Right_raw (k : Nat) (a0 : ByteArray) : althingref04_Right k a0 = althingref04_Right.raw k a0 := by unfold althingref04_Right; rw [sealed_eq]
noncomputable def G_althingref04_Right (k : Nat) : Gam := ins 117 (.pu althingref04_Right.ps althingref04_Right.r (althingref04_Right k)) (G_althingref02_Before k)
theorem ok_althingref04_Right : GOk Tryz.prog G_althingref04_Right := ok_althingref02_Before.ins fun k => by rw [show althingref04_Right k = althingref04_Right.raw k from congrFun (sealed_eq althingref04_Right.raw) k]; exact runF_ok tabOk ok_althingref02_Before mix Tryz.func117 Tryz.call117 althingref04_Right.cuts althingref04_Right.ps althingref04_Right.r (by rw [Tryz.ntmps117]; decide) k
def althingref04_Before.s2 : List CK := [.tmp 0 .str, .tmp 1 .str, .tmp 5 Ty.i64]
def althingref04_Before.cuts : List (Nat × List CK) := [(2, althingref04_Before.s2)]
abbrev althingref04_Before.ps : List PK := [.val .str, .val .str]
abbrev althingref04_Before.r : Ty := .bool
noncomputable def althingref04_Before.raw (k : Nat) (a0 : ByteArray) (a1 : ByteArray) : Option Bool := runF Alg.std G_althingref04_Right T Tryz.f118 althingref04_Before.cuts althingref04_Before.ps althingref04_Before.r k a0 a1
noncomputable def althingref04_Before (k : Nat) (a0 : ByteArray) (a1 : ByteArray) : Option Bool := sealed althingref04_Before.raw k a0 a1
theorem althingref04_Before_raw (k : Nat) (a0 : ByteArray) (a1 : ByteArray) : althingref04_Before k a0 a1 = althingref04_Before.raw k a0 a1 := by unfold althingref04_Before; rw [sealed_eq]
noncomputable def althingref04_Before.c2 (k : Nat) (x0 : ByteArray) (x1 : ByteArray) (x5 : Int) : Option Bool := runC Alg.std G_althingref04_Right T Tryz.f118 althingref04_Before.cuts althingref04_Before.r 2 althingref04_Before.s2 k (x0, x1, x5, ())
noncomputable def G_althingref04_Before (k : Nat) : Gam := ins 118 (.pu althingref04_Before.ps althingref04_Before.r (althingref04_Before k)) (G_althingref04_Right k)
theorem ok_althingref04_Before : GOk Tryz.prog G_althingref04_Before := ok_althingref04_Right.ins fun k => by rw [show althingref04_Before k = althingref04_Before.raw k from congrFun (sealed_eq althingref04_Before.raw) k]; exact runF_ok tabOk ok_althingref04_Right mix Tryz.func118 Tryz.call118 althingref04_Before.cuts althingref04_Before.ps althingref04_Before.r (by rw [Tryz.ntmps118]; decide) k
def althingref04_Rights.s2 : List CK := [.tmp 0 (.sl 9 .str), .tmp 3 Ty.i64]
def althingref04_Rights.cuts : List (Nat × List CK) := [(2, althingref04_Rights.s2)]
abbrev althingref04_Rights.ps : List PK := [.val (.sl 9 .str)]
abbrev althingref04_Rights.r : Ty := .bool
noncomputable def althingref04_Rights.raw (k : Nat) (a0 : List ByteArray) : Option Bool := runF Alg.std G_althingref04_Before T Tryz.f101 althingref04_Rights.cuts althingref04_Rights.ps althingref04_Rights.r k a0
noncomputable def althingref04_Rights (k : Nat) (a0 : List ByteArray) : Option Bool := sealed althingref04_Rights.raw k a0
theorem althingref04_Rights_raw (k : Nat) (a0 : List ByteArray) : althingref04_Rights k a0 = althingref04_Rights.raw k a0 := by unfold althingref04_Rights; rw [sealed_eq]
noncomputable def althingref04_Rights.c2 (k : Nat) (x0 : List ByteArray) (x3 : Int) : Option Bool := runC Alg.std G_althingref04_Before T Tryz.f101 althingref04_Rights.cuts althingref04_Rights.r 2 althingref04_Rights.s2 k (x0, x3, ())
noncomputable def G_althingref04_Rights (k : Nat) : Gam := ins 101 (.pu althingref04_Rights.ps althingref04_Rights.r (althingref04_Rights k)) (G_althingref04_Before k)
theorem ok_althingref04_Rights : GOk Tryz.prog G_althingref04_Rights := ok_althingref04_Before.ins fun k => by rw [show althingref04_Rights k = althingref04_Rights.raw k from congrFun (sealed_eq althingref04_Rights.raw) k]; exact runF_ok tabOk ok_althingref04_Before mix Tryz.func101 Tryz.call101 althingref04_Rights.cuts althingref04_Rights.ps althingref04_Rights.r (by rw [Tryz.ntmps101]; decide) k
def althingref05_Right.s5 : List CK := [.ptr 1 1 Ty_api_Command, .box 1 Ty_api_Command []]
def althingref05_Right.s7 : List CK := [.ptr 1 1 Ty_api_Command, .box 1 Ty_api_Command []]
def althingref05_Right.s11 : List CK := [.ptr 1 1 Ty_api_Command, .own 3 9 .str, .tmp 4 Ty.i64, .box 1 Ty_api_Command []]
def althingref05_Right.s15 : List CK := [.ptr 1 1 Ty_api_Command, .own 3 9 .str, .tmp 4 Ty.i64, .box 1 Ty_api_Command []]
def althingref05_Right.s18 : List CK := [.ptr 1 1 Ty_api_Command, .own 3 9 .str, .own 5 9 .str, .tmp 6 Ty.i64, .box 1 Ty_api_Command []]
def althingref05_Right.cuts : List (Nat × List CK) := [(5, althingref05_Right.s5), (7, althingref05_Right.s7), (11, althingref05_Right.s11), (15, althingref05_Right.s15), (18, althingref05_Right.s18)]
abbrev althingref05_Right.ps : List PK := [.val Ty_api_Command]
abbrev althingref05_Right.r : Ty := .bool
noncomputable def althingref05_Right.raw (k : Nat) (a0 : Ty_api_Command.den) : Option Bool := runF Alg.std G_althingref04_Rights T Tryz.f75 althingref05_Right.cuts althingref05_Right.ps althingref05_Right.r k a0
noncomputable def althingref05_Right (k : Nat) (a0 : Ty_api_Command.den) : Option Bool := sealed althingref05_Right.raw k a0
theorem althingref05_Right_raw (k : Nat) (a0 : Ty_api_Command.den) : althingref05_Right k a0 = althingref05_Right.raw k a0 := by unfold althingref05_Right; rw [sealed_eq]
noncomputable def althingref05_Right.c5 (k : Nat) (b1 : Ty_api_Command.den) : Option Bool := runC Alg.std G_althingref04_Rights T Tryz.f75 althingref05_Right.cuts althingref05_Right.r 5 althingref05_Right.s5 k ((), b1, ())
noncomputable def althingref05_Right.c7 (k : Nat) (b1 : Ty_api_Command.den) : Option Bool := runC Alg.std G_althingref04_Rights T Tryz.f75 althingref05_Right.cuts althingref05_Right.r 7 althingref05_Right.s7 k ((), b1, ())
noncomputable def althingref05_Right.c11 (k : Nat) (x3 : List ByteArray) (x4 : Int) (b1 : Ty_api_Command.den) : Option Bool := runC Alg.std G_althingref04_Rights T Tryz.f75 althingref05_Right.cuts althingref05_Right.r 11 althingref05_Right.s11 k ((), x3, x4, b1, ())
noncomputable def althingref05_Right.c15 (k : Nat) (x3 : List ByteArray) (x4 : Int) (b1 : Ty_api_Command.den) : Option Bool := runC Alg.std G_althingref04_Rights T Tryz.f75 althingref05_Right.cuts althingref05_Right.r 15 althingref05_Right.s15 k ((), x3, x4, b1, ())
noncomputable def althingref05_Right.c18 (k : Nat) (x3 : List ByteArray) (x5 : List ByteArray) (x6 : Int) (b1 : Ty_api_Command.den) : Option Bool := runC Alg.std G_althingref04_Rights T Tryz.f75 althingref05_Right.cuts althingref05_Right.r 18 althingref05_Right.s18 k ((), x3, x5, x6, b1, ())
noncomputable def G_althingref05_Right (k : Nat) : Gam := ins 75 (.pu althingref05_Right.ps althingref05_Right.r (althingref05_Right k)) (G_althingref04_Rights k)
theorem ok_althingref05_Right : GOk Tryz.prog G_althingref05_Right := ok_althingref04_Rights.ins fun k => by rw [show althingref05_Right k = althingref05_Right.raw k from congrFun (sealed_eq althingref05_Right.raw) k]; exact runF_ok tabOk ok_althingref04_Rights mix Tryz.func75 Tryz.call75 althingref05_Right.cuts althingref05_Right.ps althingref05_Right.r (by rw [Tryz.ntmps75]; decide) k
def althingref03_Right.s2 : List CK := [.ptr 1 1 Ty_api_Deps, .tmp 3 Ty.i64, .box 1 Ty_api_Deps []]
def althingref03_Right.cuts : List (Nat × List CK) := [(2, althingref03_Right.s2)]
abbrev althingref03_Right.ps : List PK := [.val Ty_api_Deps]
abbrev althingref03_Right.r : Ty := .bool
noncomputable def althingref03_Right.raw (k : Nat) (a0 : Ty_api_Deps.den) : Option Bool := runF Alg.std G_althingref05_Right T Tryz.f76 althingref03_Right.cuts althingref03_Right.ps althingref03_Right.r k a0
noncomputable def althingref03_Right (k : Nat) (a0 : Ty_api_Deps.den) : Option Bool := sealed althingref03_Right.raw k a0
theorem althingref03_Right_raw (k : Nat) (a0 : Ty_api_Deps.den) : althingref03_Right k a0 = althingref03_Right.raw k a0 := by unfold althingref03_Right; rw [sealed_eq]
noncomputable def althingref03_Right.c2 (k : Nat) (x3 : Int) (b1 : Ty_api_Deps.den) : Option Bool := runC Alg.std G_althingref05_Right T Tryz.f76 althingref03_Right.cuts althingref03_Right.r 2 althingref03_Right.s2 k ((), x3, b1, ())
noncomputable def G_althingref03_Right (k : Nat) : Gam := ins 76 (.pu althingref03_Right.ps althingref03_Right.r (althingref03_Right k)) (G_althingref05_Right k)
theorem ok_althingref03_Right : GOk Tryz.prog G_althingref03_Right := ok_althingref05_Right.ins fun k => by rw [show althingref03_Right k = althingref03_Right.raw k from congrFun (sealed_eq althingref03_Right.raw) k]; exact runF_ok tabOk ok_althingref05_Right mix Tryz.func76 Tryz.call76 althingref03_Right.cuts althingref03_Right.ps althingref03_Right.r (by rw [Tryz.ntmps76]; decide) k
def althingref07_RightRecord.s3 : List CK := [.ptr 1 1 Ty_api_Record, .box 1 Ty_api_Record []]
def althingref07_RightRecord.cuts : List (Nat × List CK) := [(3, althingref07_RightRecord.s3)]
abbrev althingref07_RightRecord.ps : List PK := [.val Ty_api_Record]
abbrev althingref07_RightRecord.r : Ty := .bool
noncomputable def althingref07_RightRecord.raw (k : Nat) (a0 : Ty_api_Record.den) : Option Bool := runF Alg.std G_althingref03_Right T Tryz.f52 althingref07_RightRecord.cuts althingref07_RightRecord.ps althingref07_RightRecord.r k a0
noncomputable def althingref07_RightRecord (k : Nat) (a0 : Ty_api_Record.den) : Option Bool := sealed althingref07_RightRecord.raw k a0
theorem althingref07_RightRecord_raw (k : Nat) (a0 : Ty_api_Record.den) : althingref07_RightRecord k a0 = althingref07_RightRecord.raw k a0 := by unfold althingref07_RightRecord; rw [sealed_eq]
noncomputable def althingref07_RightRecord.c3 (k : Nat) (b1 : Ty_api_Record.den) : Option Bool := runC Alg.std G_althingref03_Right T Tryz.f52 althingref07_RightRecord.cuts althingref07_RightRecord.r 3 althingref07_RightRecord.s3 k ((), b1, ())
noncomputable def G_althingref07_RightRecord (k : Nat) : Gam := ins 52 (.pu althingref07_RightRecord.ps althingref07_RightRecord.r (althingref07_RightRecord k)) (G_althingref03_Right k)
theorem ok_althingref07_RightRecord : GOk Tryz.prog G_althingref07_RightRecord := ok_althingref03_Right.ins fun k => by rw [show althingref07_RightRecord k = althingref07_RightRecord.raw k from congrFun (sealed_eq althingref07_RightRecord.raw) k]; exact runF_ok tabOk ok_althingref03_Right mix Tryz.func52 Tryz.call52 althingref07_RightRecord.cuts althingref07_RightRecord.ps althingref07_RightRecord.r (by rw [Tryz.ntmps52]; decide) k
def althingref07_RightMessage.cuts : List (Nat × List CK) := []
abbrev althingref07_RightMessage.ps : List PK := [.val Ty_api_Message]
abbrev althingref07_RightMessage.r : Ty := .bool
noncomputable def althingref07_RightMessage.raw (k : Nat) (a0 : Ty_api_Message.den) : Option Bool := runF Alg.std G_althingref07_RightRecord T Tryz.f21 althingref07_RightMessage.cuts althingref07_RightMessage.ps althingref07_RightMessage.r k a0
noncomputable def althingref07_RightMessage (k : Nat) (a0 : Ty_api_Message.den) : Option Bool := sealed althingref07_RightMessage.raw k a0
theorem althingref07_RightMessage_raw (k : Nat) (a0 : Ty_api_Message.den) : althingref07_RightMessage k a0 = althingref07_RightMessage.raw k a0 := by unfold althingref07_RightMessage; rw [sealed_eq]
noncomputable def G_althingref07_RightMessage (k : Nat) : Gam := ins 21 (.pu althingref07_RightMessage.ps althingref07_RightMessage.r (althingref07_RightMessage k)) (G_althingref07_RightRecord k)
theorem ok_althingref07_RightMessage : GOk Tryz.prog G_althingref07_RightMessage := ok_althingref07_RightRecord.ins fun k => by rw [show althingref07_RightMessage k = althingref07_RightMessage.raw k from congrFun (sealed_eq althingref07_RightMessage.raw) k]; exact runF_ok tabOk ok_althingref07_RightRecord mix Tryz.func21 Tryz.call21 althingref07_RightMessage.cuts althingref07_RightMessage.ps althingref07_RightMessage.r (by rw [Tryz.ntmps21]; decide) k
def althinglaw14_LeadYields.s6 : List CK := [.tmp 1 (.sl 37 Ty_api_Record), .ptr 3 3 Ty_althingref14_Lead, .ptr 5 5 Ty_api_Message, .ptr 7 7 Ty_api_Record, .ptr 8 8 Ty_lead_Lead, .ptr 9 9 Ty_lead_Step, .box 3 Ty_althingref14_Lead [], .box 5 Ty_api_Message [], .box 7 Ty_api_Record [], .box 8 Ty_lead_Lead [], .box 9 Ty_lead_Step []]
def althinglaw14_LeadYields.s8 : List CK := [.tmp 1 (.sl 37 Ty_api_Record), .ptr 3 3 Ty_althingref14_Lead, .ptr 5 5 Ty_api_Message, .ptr 7 7 Ty_api_Record, .box 3 Ty_althingref14_Lead [], .box 5 Ty_api_Message [], .box 7 Ty_api_Record []]
def althinglaw14_LeadYields.s10 : List CK := [.ptr 3 3 Ty_althingref14_Lead, .ptr 5 5 Ty_api_Message, .ptr 10 10 Ty_lead_Lead, .ptr 11 11 Ty_lead_Step, .tmp 12 .bool, .box 3 Ty_althingref14_Lead [], .box 5 Ty_api_Message [], .box 10 Ty_lead_Lead [], .box 11 Ty_lead_Step []]
def althinglaw14_LeadYields.s11 : List CK := [.ptr 3 3 Ty_althingref14_Lead, .ptr 10 10 Ty_lead_Lead, .ptr 11 11 Ty_lead_Step, .tmp 12 .bool, .tmp 13 .bool, .box 3 Ty_althingref14_Lead [], .box 10 Ty_lead_Lead [], .box 11 Ty_lead_Step []]
def althinglaw14_LeadYields.s12 : List CK := [.ptr 3 3 Ty_althingref14_Lead, .ptr 10 10 Ty_lead_Lead, .ptr 11 11 Ty_lead_Step, .box 3 Ty_althingref14_Lead [], .box 10 Ty_lead_Lead [], .box 11 Ty_lead_Step []]
def althinglaw14_LeadYields.s13 : List CK := [.ptr 10 10 Ty_lead_Lead, .ptr 11 11 Ty_lead_Step, .tmp 12 .bool, .box 10 Ty_lead_Lead [], .box 11 Ty_lead_Step []]
def althinglaw14_LeadYields.cuts : List (Nat × List CK) := [(6, althinglaw14_LeadYields.s6), (8, althinglaw14_LeadYields.s8), (10, althinglaw14_LeadYields.s10), (11, althinglaw14_LeadYields.s11), (12, althinglaw14_LeadYields.s12), (13, althinglaw14_LeadYields.s13)]
abbrev althinglaw14_LeadYields.ps : List PK := [.val Ty_althingref14_Lead, .val (.sl 37 Ty_api_Record), .val Ty_api_Message]
abbrev althinglaw14_LeadYields.r : Ty := .bool
noncomputable def althinglaw14_LeadYields.raw (k : Nat) (a0 : Ty_althingref14_Lead.den) (a1 : List Ty_api_Record.den) (a2 : Ty_api_Message.den) : Option Bool := runF Alg.std G_althingref07_RightMessage T Tryz.f6 althinglaw14_LeadYields.cuts althinglaw14_LeadYields.ps althinglaw14_LeadYields.r k a0 a1 a2
noncomputable def althinglaw14_LeadYields (k : Nat) (a0 : Ty_althingref14_Lead.den) (a1 : List Ty_api_Record.den) (a2 : Ty_api_Message.den) : Option Bool := sealed althinglaw14_LeadYields.raw k a0 a1 a2
theorem althinglaw14_LeadYields_raw (k : Nat) (a0 : Ty_althingref14_Lead.den) (a1 : List Ty_api_Record.den) (a2 : Ty_api_Message.den) : althinglaw14_LeadYields k a0 a1 a2 = althinglaw14_LeadYields.raw k a0 a1 a2 := by unfold althinglaw14_LeadYields; rw [sealed_eq]
noncomputable def althinglaw14_LeadYields.c6 (k : Nat) (x1 : List Ty_api_Record.den) (b3 : Ty_althingref14_Lead.den) (b5 : Ty_api_Message.den) (b7 : Ty_api_Record.den) (b8 : Ty_lead_Lead.den) (b9 : Ty_lead_Step.den) : Option Bool := runC Alg.std G_althingref07_RightMessage T Tryz.f6 althinglaw14_LeadYields.cuts althinglaw14_LeadYields.r 6 althinglaw14_LeadYields.s6 k (x1, (), (), (), (), (), b3, b5, b7, b8, b9, ())
noncomputable def althinglaw14_LeadYields.c8 (k : Nat) (x1 : List Ty_api_Record.den) (b3 : Ty_althingref14_Lead.den) (b5 : Ty_api_Message.den) (b7 : Ty_api_Record.den) : Option Bool := runC Alg.std G_althingref07_RightMessage T Tryz.f6 althinglaw14_LeadYields.cuts althinglaw14_LeadYields.r 8 althinglaw14_LeadYields.s8 k (x1, (), (), (), b3, b5, b7, ())
noncomputable def althinglaw14_LeadYields.c10 (k : Nat) (x12 : Bool) (b3 : Ty_althingref14_Lead.den) (b5 : Ty_api_Message.den) (b10 : Ty_lead_Lead.den) (b11 : Ty_lead_Step.den) : Option Bool := runC Alg.std G_althingref07_RightMessage T Tryz.f6 althinglaw14_LeadYields.cuts althinglaw14_LeadYields.r 10 althinglaw14_LeadYields.s10 k ((), (), (), (), x12, b3, b5, b10, b11, ())
noncomputable def althinglaw14_LeadYields.c11 (k : Nat) (x12 : Bool) (x13 : Bool) (b3 : Ty_althingref14_Lead.den) (b10 : Ty_lead_Lead.den) (b11 : Ty_lead_Step.den) : Option Bool := runC Alg.std G_althingref07_RightMessage T Tryz.f6 althinglaw14_LeadYields.cuts althinglaw14_LeadYields.r 11 althinglaw14_LeadYields.s11 k ((), (), (), x12, x13, b3, b10, b11, ())
noncomputable def althinglaw14_LeadYields.c12 (k : Nat) (b3 : Ty_althingref14_Lead.den) (b10 : Ty_lead_Lead.den) (b11 : Ty_lead_Step.den) : Option Bool := runC Alg.std G_althingref07_RightMessage T Tryz.f6 althinglaw14_LeadYields.cuts althinglaw14_LeadYields.r 12 althinglaw14_LeadYields.s12 k ((), (), (), b3, b10, b11, ())
noncomputable def althinglaw14_LeadYields.c13 (k : Nat) (x12 : Bool) (b10 : Ty_lead_Lead.den) (b11 : Ty_lead_Step.den) : Option Bool := runC Alg.std G_althingref07_RightMessage T Tryz.f6 althinglaw14_LeadYields.cuts althinglaw14_LeadYields.r 13 althinglaw14_LeadYields.s13 k ((), (), x12, b10, b11, ())
noncomputable def G_althinglaw14_LeadYields (k : Nat) : Gam := ins 6 (.pu althinglaw14_LeadYields.ps althinglaw14_LeadYields.r (althinglaw14_LeadYields k)) (G_althingref07_RightMessage k)
theorem ok_althinglaw14_LeadYields : GOk Tryz.prog G_althinglaw14_LeadYields := ok_althingref07_RightMessage.ins fun k => by rw [show althinglaw14_LeadYields k = althinglaw14_LeadYields.raw k from congrFun (sealed_eq althinglaw14_LeadYields.raw) k]; exact runF_ok tabOk ok_althingref07_RightMessage mix Tryz.func6 Tryz.call6 althinglaw14_LeadYields.cuts althinglaw14_LeadYields.ps althinglaw14_LeadYields.r (by rw [Tryz.ntmps6]; decide) k
def althingref14_is.cuts : List (Nat × List CK) := []
abbrev althingref14_is.ps : List PK := [.val Ty.i64, .val Ty.i64]
abbrev althingref14_is.r : Ty := .bool
noncomputable def althingref14_is.raw (k : Nat) (a0 : Int) (a1 : Int) : Option Bool := runF Alg.std G_althinglaw14_LeadYields T Tryz.f56 althingref14_is.cuts althingref14_is.ps althingref14_is.r k a0 a1
noncomputable def althingref14_is (k : Nat) (a0 : Int) (a1 : Int) : Option Bool := sealed althingref14_is.raw k a0 a1
theorem althingref14_is_raw (k : Nat) (a0 : Int) (a1 : Int) : althingref14_is k a0 a1 = althingref14_is.raw k a0 a1 := by unfold althingref14_is; rw [sealed_eq]
noncomputable def G_althingref14_is (k : Nat) : Gam := ins 56 (.pu althingref14_is.ps althingref14_is.r (althingref14_is k)) (G_althinglaw14_LeadYields k)
theorem ok_althingref14_is : GOk Tryz.prog G_althingref14_is := ok_althinglaw14_LeadYields.ins fun k => by rw [show althingref14_is k = althingref14_is.raw k from congrFun (sealed_eq althingref14_is.raw) k]; exact runF_ok tabOk ok_althinglaw14_LeadYields mix Tryz.func56 Tryz.call56 althingref14_is.cuts althingref14_is.ps althingref14_is.r (by rw [Tryz.ntmps56]; decide) k
def althingref11_Slot.s3 : List CK := [.tmp 0 (.sl 37 Ty_api_Record), .tmp 1 Ty.i64, .tmp 5 Ty.i64, .tmp 6 Ty.i64]
def althingref11_Slot.s6 : List CK := [.tmp 0 (.sl 37 Ty_api_Record), .tmp 1 Ty.i64, .tmp 6 Ty.i64]
def althingref11_Slot.s4 : List CK := [.tmp 0 (.sl 37 Ty_api_Record), .tmp 1 Ty.i64, .tmp 5 Ty.i64, .tmp 6 Ty.i64]
def althingref11_Slot.cuts : List (Nat × List CK) := [(3, althingref11_Slot.s3), (6, althingref11_Slot.s6), (4, althingref11_Slot.s4)]
abbrev althingref11_Slot.ps : List PK := [.val (.sl 37 Ty_api_Record), .val Ty.i64]
abbrev althingref11_Slot.r : Ty := Ty.i64
noncomputable def althingref11_Slot.raw (k : Nat) (a0 : List Ty_api_Record.den) (a1 : Int) : Option Int := runF Alg.std G_althingref14_is T Tryz.f81 althingref11_Slot.cuts althingref11_Slot.ps althingref11_Slot.r k a0 a1
noncomputable def althingref11_Slot (k : Nat) (a0 : List Ty_api_Record.den) (a1 : Int) : Option Int := sealed althingref11_Slot.raw k a0 a1
theorem althingref11_Slot_raw (k : Nat) (a0 : List Ty_api_Record.den) (a1 : Int) : althingref11_Slot k a0 a1 = althingref11_Slot.raw k a0 a1 := by unfold althingref11_Slot; rw [sealed_eq]
noncomputable def althingref11_Slot.c3 (k : Nat) (x0 : List Ty_api_Record.den) (x1 : Int) (x5 : Int) (x6 : Int) : Option Int := runC Alg.std G_althingref14_is T Tryz.f81 althingref11_Slot.cuts althingref11_Slot.r 3 althingref11_Slot.s3 k (x0, x1, x5, x6, ())
noncomputable def althingref11_Slot.c6 (k : Nat) (x0 : List Ty_api_Record.den) (x1 : Int) (x6 : Int) : Option Int := runC Alg.std G_althingref14_is T Tryz.f81 althingref11_Slot.cuts althingref11_Slot.r 6 althingref11_Slot.s6 k (x0, x1, x6, ())
noncomputable def althingref11_Slot.c4 (k : Nat) (x0 : List Ty_api_Record.den) (x1 : Int) (x5 : Int) (x6 : Int) : Option Int := runC Alg.std G_althingref14_is T Tryz.f81 althingref11_Slot.cuts althingref11_Slot.r 4 althingref11_Slot.s4 k (x0, x1, x5, x6, ())
noncomputable def G_althingref11_Slot (k : Nat) : Gam := ins 81 (.pu althingref11_Slot.ps althingref11_Slot.r (althingref11_Slot k)) (G_althingref14_is k)
theorem ok_althingref11_Slot : GOk Tryz.prog G_althingref11_Slot := ok_althingref14_is.ins fun k => by rw [show althingref11_Slot k = althingref11_Slot.raw k from congrFun (sealed_eq althingref11_Slot.raw) k]; exact runF_ok tabOk ok_althingref14_is mix Tryz.func81 Tryz.call81 althingref11_Slot.cuts althingref11_Slot.ps althingref11_Slot.r (by rw [Tryz.ntmps81]; decide) k
def althingref11_Last.s2 : List CK := [.tmp 0 (.sl 37 Ty_api_Record), .tmp 1 Ty.i64, .tmp 5 Ty.i64]
def althingref11_Last.cuts : List (Nat × List CK) := [(2, althingref11_Last.s2)]
abbrev althingref11_Last.ps : List PK := [.val (.sl 37 Ty_api_Record), .val Ty.i64]
abbrev althingref11_Last.r : Ty := .bool
noncomputable def althingref11_Last.raw (k : Nat) (a0 : List Ty_api_Record.den) (a1 : Int) : Option Bool := runF Alg.std G_althingref11_Slot T Tryz.f127 althingref11_Last.cuts althingref11_Last.ps althingref11_Last.r k a0 a1
noncomputable def althingref11_Last (k : Nat) (a0 : List Ty_api_Record.den) (a1 : Int) : Option Bool := sealed althingref11_Last.raw k a0 a1
theorem althingref11_Last_raw (k : Nat) (a0 : List Ty_api_Record.den) (a1 : Int) : althingref11_Last k a0 a1 = althingref11_Last.raw k a0 a1 := by unfold althingref11_Last; rw [sealed_eq]
noncomputable def althingref11_Last.c2 (k : Nat) (x0 : List Ty_api_Record.den) (x1 : Int) (x5 : Int) : Option Bool := runC Alg.std G_althingref11_Slot T Tryz.f127 althingref11_Last.cuts althingref11_Last.r 2 althingref11_Last.s2 k (x0, x1, x5, ())
noncomputable def G_althingref11_Last (k : Nat) : Gam := ins 127 (.pu althingref11_Last.ps althingref11_Last.r (althingref11_Last k)) (G_althingref11_Slot k)
theorem ok_althingref11_Last : GOk Tryz.prog G_althingref11_Last := ok_althingref11_Slot.ins fun k => by rw [show althingref11_Last k = althingref11_Last.raw k from congrFun (sealed_eq althingref11_Last.raw) k]; exact runF_ok tabOk ok_althingref11_Slot mix Tryz.func127 Tryz.call127 althingref11_Last.cuts althingref11_Last.ps althingref11_Last.r (by rw [Tryz.ntmps127]; decide) k
noncomputable def G_althingref04_Join (k : Nat) : Gam := ins 140 (althingref04_Join.spec k) (G_althingref11_Last k)
theorem ok_althingref04_Join : GOk Tryz.prog G_althingref04_Join := ok_althingref11_Last.ins (althingref04_Join.ok)
def althingref05_Keys.s3 : List CK := [.ptr 1 1 Ty_api_Command, .own 3 9 .str, .tmp 4 Ty.i64, .box 1 Ty_api_Command []]
def althingref05_Keys.s7 : List CK := [.ptr 1 1 Ty_api_Command, .own 3 9 .str, .tmp 5 Ty.i64, .box 1 Ty_api_Command []]
def althingref05_Keys.cuts : List (Nat × List CK) := [(3, althingref05_Keys.s3), (7, althingref05_Keys.s7)]
abbrev althingref05_Keys.ps : List PK := [.val Ty_api_Command]
abbrev althingref05_Keys.r : Ty := (.sl 9 .str)
noncomputable def althingref05_Keys.raw (k : Nat) (a0 : Ty_api_Command.den) : Option (List ByteArray) := runF Alg.std G_althingref04_Join T Tryz.f134 althingref05_Keys.cuts althingref05_Keys.ps althingref05_Keys.r k a0
noncomputable def althingref05_Keys (k : Nat) (a0 : Ty_api_Command.den) : Option (List ByteArray) := sealed althingref05_Keys.raw k a0
theorem althingref05_Keys_raw (k : Nat) (a0 : Ty_api_Command.den) : althingref05_Keys k a0 = althingref05_Keys.raw k a0 := by unfold althingref05_Keys; rw [sealed_eq]
noncomputable def althingref05_Keys.c3 (k : Nat) (x3 : List ByteArray) (x4 : Int) (b1 : Ty_api_Command.den) : Option (List ByteArray) := runC Alg.std G_althingref04_Join T Tryz.f134 althingref05_Keys.cuts althingref05_Keys.r 3 althingref05_Keys.s3 k ((), x3, x4, b1, ())
noncomputable def althingref05_Keys.c7 (k : Nat) (x3 : List ByteArray) (x5 : Int) (b1 : Ty_api_Command.den) : Option (List ByteArray) := runC Alg.std G_althingref04_Join T Tryz.f134 althingref05_Keys.cuts althingref05_Keys.r 7 althingref05_Keys.s7 k ((), x3, x5, b1, ())
noncomputable def G_althingref05_Keys (k : Nat) : Gam := ins 134 (.pu althingref05_Keys.ps althingref05_Keys.r (althingref05_Keys k)) (G_althingref04_Join k)
theorem ok_althingref05_Keys : GOk Tryz.prog G_althingref05_Keys := ok_althingref04_Join.ins fun k => by rw [show althingref05_Keys k = althingref05_Keys.raw k from congrFun (sealed_eq althingref05_Keys.raw) k]; exact runF_ok tabOk ok_althingref04_Join mix Tryz.func134 Tryz.call134 althingref05_Keys.cuts althingref05_Keys.ps althingref05_Keys.r (by rw [Tryz.ntmps134]; decide) k
def althingref04_In.s2 : List CK := [.tmp 0 (.sl 9 .str), .tmp 1 .str, .tmp 5 Ty.i64]
def althingref04_In.cuts : List (Nat × List CK) := [(2, althingref04_In.s2)]
abbrev althingref04_In.ps : List PK := [.val (.sl 9 .str), .val .str]
abbrev althingref04_In.r : Ty := .bool
noncomputable def althingref04_In.raw (k : Nat) (a0 : List ByteArray) (a1 : ByteArray) : Option Bool := runF Alg.std G_althingref05_Keys T Tryz.f135 althingref04_In.cuts althingref04_In.ps althingref04_In.r k a0 a1
noncomputable def althingref04_In (k : Nat) (a0 : List ByteArray) (a1 : ByteArray) : Option Bool := sealed althingref04_In.raw k a0 a1
theorem althingref04_In_raw (k : Nat) (a0 : List ByteArray) (a1 : ByteArray) : althingref04_In k a0 a1 = althingref04_In.raw k a0 a1 := by unfold althingref04_In; rw [sealed_eq]
noncomputable def althingref04_In.c2 (k : Nat) (x0 : List ByteArray) (x1 : ByteArray) (x5 : Int) : Option Bool := runC Alg.std G_althingref05_Keys T Tryz.f135 althingref04_In.cuts althingref04_In.r 2 althingref04_In.s2 k (x0, x1, x5, ())
noncomputable def G_althingref04_In (k : Nat) : Gam := ins 135 (.pu althingref04_In.ps althingref04_In.r (althingref04_In k)) (G_althingref05_Keys k)
theorem ok_althingref04_In : GOk Tryz.prog G_althingref04_In := ok_althingref05_Keys.ins fun k => by rw [show althingref04_In k = althingref04_In.raw k from congrFun (sealed_eq althingref04_In.raw) k]; exact runF_ok tabOk ok_althingref05_Keys mix Tryz.func135 Tryz.call135 althingref04_In.cuts althingref04_In.ps althingref04_In.r (by rw [Tryz.ntmps135]; decide) k
def althingref05_Interfere.s3 : List CK := [.ptr 2 2 Ty_api_Command, .ptr 3 3 Ty_api_Command, .box 2 Ty_api_Command [], .box 3 Ty_api_Command []]
def althingref05_Interfere.s8 : List CK := [.tmp 5 (.sl 9 .str), .tmp 6 (.sl 9 .str), .tmp 7 Ty.i64]
def althingref05_Interfere.cuts : List (Nat × List CK) := [(3, althingref05_Interfere.s3), (8, althingref05_Interfere.s8)]
abbrev althingref05_Interfere.ps : List PK := [.val Ty_api_Command, .val Ty_api_Command]
abbrev althingref05_Interfere.r : Ty := .bool
noncomputable def althingref05_Interfere.raw (k : Nat) (a0 : Ty_api_Command.den) (a1 : Ty_api_Command.den) : Option Bool := runF Alg.std G_althingref04_In T Tryz.f128 althingref05_Interfere.cuts althingref05_Interfere.ps althingref05_Interfere.r k a0 a1
noncomputable def althingref05_Interfere (k : Nat) (a0 : Ty_api_Command.den) (a1 : Ty_api_Command.den) : Option Bool := sealed althingref05_Interfere.raw k a0 a1
theorem althingref05_Interfere_raw (k : Nat) (a0 : Ty_api_Command.den) (a1 : Ty_api_Command.den) : althingref05_Interfere k a0 a1 = althingref05_Interfere.raw k a0 a1 := by unfold althingref05_Interfere; rw [sealed_eq]
noncomputable def althingref05_Interfere.c3 (k : Nat) (b2 : Ty_api_Command.den) (b3 : Ty_api_Command.den) : Option Bool := runC Alg.std G_althingref04_In T Tryz.f128 althingref05_Interfere.cuts althingref05_Interfere.r 3 althingref05_Interfere.s3 k ((), (), b2, b3, ())
noncomputable def althingref05_Interfere.c8 (k : Nat) (x5 : List ByteArray) (x6 : List ByteArray) (x7 : Int) : Option Bool := runC Alg.std G_althingref04_In T Tryz.f128 althingref05_Interfere.cuts althingref05_Interfere.r 8 althingref05_Interfere.s8 k (x5, x6, x7, ())
noncomputable def G_althingref05_Interfere (k : Nat) : Gam := ins 128 (.pu althingref05_Interfere.ps althingref05_Interfere.r (althingref05_Interfere k)) (G_althingref04_In k)
theorem ok_althingref05_Interfere : GOk Tryz.prog G_althingref05_Interfere := ok_althingref04_In.ins fun k => by rw [show althingref05_Interfere k = althingref05_Interfere.raw k from congrFun (sealed_eq althingref05_Interfere.raw) k]; exact runF_ok tabOk ok_althingref04_In mix Tryz.func128 Tryz.call128 althingref05_Interfere.cuts althingref05_Interfere.ps althingref05_Interfere.r (by rw [Tryz.ntmps128]; decide) k
def althingref11_Against.s3 : List CK := [.tmp 0 (.sl 37 Ty_api_Record), .ptr 4 4 Ty_api_Instance, .ptr 5 5 Ty_api_Command, .own 7 37 Ty_api_Record, .tmp 8 Ty.i64, .box 4 Ty_api_Instance [], .box 5 Ty_api_Command []]
def althingref11_Against.s6 : List CK := [.tmp 0 (.sl 37 Ty_api_Record), .ptr 4 4 Ty_api_Instance, .ptr 5 5 Ty_api_Command, .own 7 37 Ty_api_Record, .tmp 8 Ty.i64, .box 4 Ty_api_Instance [], .box 5 Ty_api_Command []]
def althingref11_Against.s4 : List CK := [.tmp 0 (.sl 37 Ty_api_Record), .ptr 4 4 Ty_api_Instance, .ptr 5 5 Ty_api_Command, .own 7 37 Ty_api_Record, .tmp 8 Ty.i64, .box 4 Ty_api_Instance [], .box 5 Ty_api_Command []]
def althingref11_Against.cuts : List (Nat × List CK) := [(3, althingref11_Against.s3), (6, althingref11_Against.s6), (4, althingref11_Against.s4)]
abbrev althingref11_Against.ps : List PK := [.val (.sl 37 Ty_api_Record), .val Ty_api_Instance, .val Ty_api_Command]
abbrev althingref11_Against.r : Ty := (.sl 37 Ty_api_Record)
noncomputable def althingref11_Against.raw (k : Nat) (a0 : List Ty_api_Record.den) (a1 : Ty_api_Instance.den) (a2 : Ty_api_Command.den) : Option (List Ty_api_Record.den) := runF Alg.std G_althingref05_Interfere T Tryz.f112 althingref11_Against.cuts althingref11_Against.ps althingref11_Against.r k a0 a1 a2
noncomputable def althingref11_Against (k : Nat) (a0 : List Ty_api_Record.den) (a1 : Ty_api_Instance.den) (a2 : Ty_api_Command.den) : Option (List Ty_api_Record.den) := sealed althingref11_Against.raw k a0 a1 a2
theorem althingref11_Against_raw (k : Nat) (a0 : List Ty_api_Record.den) (a1 : Ty_api_Instance.den) (a2 : Ty_api_Command.den) : althingref11_Against k a0 a1 a2 = althingref11_Against.raw k a0 a1 a2 := by unfold althingref11_Against; rw [sealed_eq]
noncomputable def althingref11_Against.c3 (k : Nat) (x0 : List Ty_api_Record.den) (x7 : List Ty_api_Record.den) (x8 : Int) (b4 : Ty_api_Instance.den) (b5 : Ty_api_Command.den) : Option (List Ty_api_Record.den) := runC Alg.std G_althingref05_Interfere T Tryz.f112 althingref11_Against.cuts althingref11_Against.r 3 althingref11_Against.s3 k (x0, (), (), x7, x8, b4, b5, ())
noncomputable def althingref11_Against.c6 (k : Nat) (x0 : List Ty_api_Record.den) (x7 : List Ty_api_Record.den) (x8 : Int) (b4 : Ty_api_Instance.den) (b5 : Ty_api_Command.den) : Option (List Ty_api_Record.den) := runC Alg.std G_althingref05_Interfere T Tryz.f112 althingref11_Against.cuts althingref11_Against.r 6 althingref11_Against.s6 k (x0, (), (), x7, x8, b4, b5, ())
noncomputable def althingref11_Against.c4 (k : Nat) (x0 : List Ty_api_Record.den) (x7 : List Ty_api_Record.den) (x8 : Int) (b4 : Ty_api_Instance.den) (b5 : Ty_api_Command.den) : Option (List Ty_api_Record.den) := runC Alg.std G_althingref05_Interfere T Tryz.f112 althingref11_Against.cuts althingref11_Against.r 4 althingref11_Against.s4 k (x0, (), (), x7, x8, b4, b5, ())
noncomputable def G_althingref11_Against (k : Nat) : Gam := ins 112 (.pu althingref11_Against.ps althingref11_Against.r (althingref11_Against k)) (G_althingref05_Interfere k)
theorem ok_althingref11_Against : GOk Tryz.prog G_althingref11_Against := ok_althingref05_Interfere.ins fun k => by rw [show althingref11_Against k = althingref11_Against.raw k from congrFun (sealed_eq althingref11_Against.raw) k]; exact runF_ok tabOk ok_althingref05_Interfere mix Tryz.func112 Tryz.call112 althingref11_Against.cuts althingref11_Against.ps althingref11_Against.r (by rw [Tryz.ntmps112]; decide) k
def althingref03_With.s2 : List CK := [.ptr 2 2 Ty_api_Deps, .ptr 3 3 Ty_api_Instance, .ptr 4 4 Ty_api_Deps, .tmp 5 Ty.i64, .box 2 Ty_api_Deps [], .box 3 Ty_api_Instance [], .box 4 Ty_api_Deps []]
def althingref03_With.s3 : List CK := [.ptr 2 2 Ty_api_Deps, .ptr 3 3 Ty_api_Instance, .ptr 4 4 Ty_api_Deps, .tmp 5 Ty.i64, .box 2 Ty_api_Deps [], .box 3 Ty_api_Instance [], .box 4 Ty_api_Deps []]
def althingref03_With.cuts : List (Nat × List CK) := [(2, althingref03_With.s2), (3, althingref03_With.s3)]
abbrev althingref03_With.ps : List PK := [.val Ty_api_Deps, .val Ty_api_Instance]
abbrev althingref03_With.r : Ty := Ty_api_Deps
noncomputable def althingref03_With.raw (k : Nat) (a0 : Ty_api_Deps.den) (a1 : Ty_api_Instance.den) : Option Ty_api_Deps.den := runF Alg.std G_althingref11_Against T Tryz.f113 althingref03_With.cuts althingref03_With.ps althingref03_With.r k a0 a1
noncomputable def althingref03_With (k : Nat) (a0 : Ty_api_Deps.den) (a1 : Ty_api_Instance.den) : Option Ty_api_Deps.den := sealed althingref03_With.raw k a0 a1
theorem althingref03_With_raw (k : Nat) (a0 : Ty_api_Deps.den) (a1 : Ty_api_Instance.den) : althingref03_With k a0 a1 = althingref03_With.raw k a0 a1 := by unfold althingref03_With; rw [sealed_eq]
noncomputable def althingref03_With.c2 (k : Nat) (x5 : Int) (b2 : Ty_api_Deps.den) (b3 : Ty_api_Instance.den) (b4 : Ty_api_Deps.den) : Option Ty_api_Deps.den := runC Alg.std G_althingref11_Against T Tryz.f113 althingref03_With.cuts althingref03_With.r 2 althingref03_With.s2 k ((), (), (), x5, b2, b3, b4, ())
noncomputable def althingref03_With.c3 (k : Nat) (x5 : Int) (b2 : Ty_api_Deps.den) (b3 : Ty_api_Instance.den) (b4 : Ty_api_Deps.den) : Option Ty_api_Deps.den := runC Alg.std G_althingref11_Against T Tryz.f113 althingref03_With.cuts althingref03_With.r 3 althingref03_With.s3 k ((), (), (), x5, b2, b3, b4, ())
noncomputable def G_althingref03_With (k : Nat) : Gam := ins 113 (.pu althingref03_With.ps althingref03_With.r (althingref03_With k)) (G_althingref11_Against k)
theorem ok_althingref03_With : GOk Tryz.prog G_althingref03_With := ok_althingref11_Against.ins fun k => by rw [show althingref03_With k = althingref03_With.raw k from congrFun (sealed_eq althingref03_With.raw) k]; exact runF_ok tabOk ok_althingref11_Against mix Tryz.func113 Tryz.call113 althingref03_With.cuts althingref03_With.ps althingref03_With.r (by rw [Tryz.ntmps113]; decide) k
def althingref11_Attrs.s3 : List CK := [.tmp 3 Ty.i64, .ptr 9 9 Ty_api_Deps, .ptr 11 11 Ty_api_Deps, .tmp 12 (.sl 37 Ty_api_Record), .tmp 13 Ty.i64, .box 9 Ty_api_Deps [], .box 11 Ty_api_Deps []]
def althingref11_Attrs.s9 : List CK := [.tmp 3 Ty.i64, .ptr 9 9 Ty_api_Deps, .ptr 11 11 Ty_api_Deps, .tmp 12 (.sl 37 Ty_api_Record), .tmp 13 Ty.i64, .tmp 14 Ty.i64, .box 9 Ty_api_Deps [], .box 11 Ty_api_Deps []]
def althingref11_Attrs.s11 : List CK := [.tmp 3 Ty.i64, .ptr 9 9 Ty_api_Deps, .ptr 11 11 Ty_api_Deps, .tmp 12 (.sl 37 Ty_api_Record), .tmp 13 Ty.i64, .box 9 Ty_api_Deps [], .box 11 Ty_api_Deps []]
def althingref11_Attrs.cuts : List (Nat × List CK) := [(3, althingref11_Attrs.s3), (9, althingref11_Attrs.s9), (11, althingref11_Attrs.s11)]
abbrev althingref11_Attrs.ps : List PK := [.val (.sl 37 Ty_api_Record), .val Ty_api_Instance, .val Ty_api_Command, .val Ty.i64, .val Ty_api_Deps]
abbrev althingref11_Attrs.r : Ty := (.tup (.pair Ty.i64 Ty_api_Deps))
noncomputable def althingref11_Attrs.raw (k : Nat) (a0 : List Ty_api_Record.den) (a1 : Ty_api_Instance.den) (a2 : Ty_api_Command.den) (a3 : Int) (a4 : Ty_api_Deps.den) : Option (Int × Ty_api_Deps.den) := runF Alg.std G_althingref03_With T Tryz.f82 althingref11_Attrs.cuts althingref11_Attrs.ps althingref11_Attrs.r k a0 a1 a2 a3 a4
noncomputable def althingref11_Attrs (k : Nat) (a0 : List Ty_api_Record.den) (a1 : Ty_api_Instance.den) (a2 : Ty_api_Command.den) (a3 : Int) (a4 : Ty_api_Deps.den) : Option (Int × Ty_api_Deps.den) := sealed althingref11_Attrs.raw k a0 a1 a2 a3 a4
theorem althingref11_Attrs_raw (k : Nat) (a0 : List Ty_api_Record.den) (a1 : Ty_api_Instance.den) (a2 : Ty_api_Command.den) (a3 : Int) (a4 : Ty_api_Deps.den) : althingref11_Attrs k a0 a1 a2 a3 a4 = althingref11_Attrs.raw k a0 a1 a2 a3 a4 := by unfold althingref11_Attrs; rw [sealed_eq]
noncomputable def althingref11_Attrs.c3 (k : Nat) (x3 : Int) (x12 : List Ty_api_Record.den) (x13 : Int) (b9 : Ty_api_Deps.den) (b11 : Ty_api_Deps.den) : Option (Int × Ty_api_Deps.den) := runC Alg.std G_althingref03_With T Tryz.f82 althingref11_Attrs.cuts althingref11_Attrs.r 3 althingref11_Attrs.s3 k (x3, (), (), x12, x13, b9, b11, ())
noncomputable def althingref11_Attrs.c9 (k : Nat) (x3 : Int) (x12 : List Ty_api_Record.den) (x13 : Int) (x14 : Int) (b9 : Ty_api_Deps.den) (b11 : Ty_api_Deps.den) : Option (Int × Ty_api_Deps.den) := runC Alg.std G_althingref03_With T Tryz.f82 althingref11_Attrs.cuts althingref11_Attrs.r 9 althingref11_Attrs.s9 k (x3, (), (), x12, x13, x14, b9, b11, ())
noncomputable def althingref11_Attrs.c11 (k : Nat) (x3 : Int) (x12 : List Ty_api_Record.den) (x13 : Int) (b9 : Ty_api_Deps.den) (b11 : Ty_api_Deps.den) : Option (Int × Ty_api_Deps.den) := runC Alg.std G_althingref03_With T Tryz.f82 althingref11_Attrs.cuts althingref11_Attrs.r 11 althingref11_Attrs.s11 k (x3, (), (), x12, x13, b9, b11, ())
noncomputable def G_althingref11_Attrs (k : Nat) : Gam := ins 82 (.pu althingref11_Attrs.ps althingref11_Attrs.r (althingref11_Attrs k)) (G_althingref03_With k)
theorem ok_althingref11_Attrs : GOk Tryz.prog G_althingref11_Attrs := ok_althingref03_With.ins fun k => by rw [show althingref11_Attrs k = althingref11_Attrs.raw k from congrFun (sealed_eq althingref11_Attrs.raw) k]; exact runF_ok tabOk ok_althingref03_With mix Tryz.func82 Tryz.call82 althingref11_Attrs.cuts althingref11_Attrs.ps althingref11_Attrs.r (by rw [Tryz.ntmps82]; decide) k
def althingref12_Begin.s3 : List CK := [.tmp 0 (.sl 37 Ty_api_Record), .tmp 1 Ty.i64, .ptr 5 5 Ty_api_Command, .ptr 6 6 Ty_api_Record, .box 5 Ty_api_Command [], .box 6 Ty_api_Record []]
def althingref12_Begin.cuts : List (Nat × List CK) := [(3, althingref12_Begin.s3)]
abbrev althingref12_Begin.ps : List PK := [.val (.sl 37 Ty_api_Record), .val Ty.i64, .val Ty_api_Command]
abbrev althingref12_Begin.r : Ty := (.tup (.pair Ty_api_Record Ty.i64))
noncomputable def althingref12_Begin.raw (k : Nat) (a0 : List Ty_api_Record.den) (a1 : Int) (a2 : Ty_api_Command.den) : Option (Ty_api_Record.den × Int) := runF Alg.std G_althingref11_Attrs T Tryz.f57 althingref12_Begin.cuts althingref12_Begin.ps althingref12_Begin.r k a0 a1 a2
noncomputable def althingref12_Begin (k : Nat) (a0 : List Ty_api_Record.den) (a1 : Int) (a2 : Ty_api_Command.den) : Option (Ty_api_Record.den × Int) := sealed althingref12_Begin.raw k a0 a1 a2
theorem althingref12_Begin_raw (k : Nat) (a0 : List Ty_api_Record.den) (a1 : Int) (a2 : Ty_api_Command.den) : althingref12_Begin k a0 a1 a2 = althingref12_Begin.raw k a0 a1 a2 := by unfold althingref12_Begin; rw [sealed_eq]
noncomputable def althingref12_Begin.c3 (k : Nat) (x0 : List Ty_api_Record.den) (x1 : Int) (b5 : Ty_api_Command.den) (b6 : Ty_api_Record.den) : Option (Ty_api_Record.den × Int) := runC Alg.std G_althingref11_Attrs T Tryz.f57 althingref12_Begin.cuts althingref12_Begin.r 3 althingref12_Begin.s3 k (x0, x1, (), (), b5, b6, ())
noncomputable def G_althingref12_Begin (k : Nat) : Gam := ins 57 (.pu althingref12_Begin.ps althingref12_Begin.r (althingref12_Begin k)) (G_althingref11_Attrs k)
theorem ok_althingref12_Begin : GOk Tryz.prog G_althingref12_Begin := ok_althingref11_Attrs.ins fun k => by rw [show althingref12_Begin k = althingref12_Begin.raw k from congrFun (sealed_eq althingref12_Begin.raw) k]; exact runF_ok tabOk ok_althingref11_Attrs mix Tryz.func57 Tryz.call57 althingref12_Begin.cuts althingref12_Begin.ps althingref12_Begin.r (by rw [Tryz.ntmps57]; decide) k
def althingref01_power.s3 : List CK := [.tmp 0 Ty.i64, .tmp 3 Ty.i64, .tmp 4 Ty.i64]
def althingref01_power.cuts : List (Nat × List CK) := [(3, althingref01_power.s3)]
abbrev althingref01_power.ps : List PK := [.val Ty.i64]
abbrev althingref01_power.r : Ty := Ty.i64
noncomputable def althingref01_power.raw (k : Nat) (a0 : Int) : Option Int := runF Alg.std G_althingref12_Begin T Tryz.f114 althingref01_power.cuts althingref01_power.ps althingref01_power.r k a0
noncomputable def althingref01_power (k : Nat) (a0 : Int) : Option Int := sealed althingref01_power.raw k a0
theorem althingref01_power_raw (k : Nat) (a0 : Int) : althingref01_power k a0 = althingref01_power.raw k a0 := by unfold althingref01_power; rw [sealed_eq]
noncomputable def althingref01_power.c3 (k : Nat) (x0 : Int) (x3 : Int) (x4 : Int) : Option Int := runC Alg.std G_althingref12_Begin T Tryz.f114 althingref01_power.cuts althingref01_power.r 3 althingref01_power.s3 k (x0, x3, x4, ())
noncomputable def G_althingref01_power (k : Nat) : Gam := ins 114 (.pu althingref01_power.ps althingref01_power.r (althingref01_power k)) (G_althingref12_Begin k)
theorem ok_althingref01_power : GOk Tryz.prog G_althingref01_power := ok_althingref12_Begin.ins fun k => by rw [show althingref01_power k = althingref01_power.raw k from congrFun (sealed_eq althingref01_power.raw) k]; exact runF_ok tabOk ok_althingref12_Begin mix Tryz.func114 Tryz.call114 althingref01_power.cuts althingref01_power.ps althingref01_power.r (by rw [Tryz.ntmps114]; decide) k
def althingref01_With.cuts : List (Nat × List CK) := []
abbrev althingref01_With.ps : List PK := [.val Ty.i64, .val Ty.i64]
abbrev althingref01_With.r : Ty := Ty.i64
noncomputable def althingref01_With.raw (k : Nat) (a0 : Int) (a1 : Int) : Option Int := runF Alg.std G_althingref01_power T Tryz.f83 althingref01_With.cuts althingref01_With.ps althingref01_With.r k a0 a1
noncomputable def althingref01_With (k : Nat) (a0 : Int) (a1 : Int) : Option Int := sealed althingref01_With.raw k a0 a1
theorem althingref01_With_raw (k : Nat) (a0 : Int) (a1 : Int) : althingref01_With k a0 a1 = althingref01_With.raw k a0 a1 := by unfold althingref01_With; rw [sealed_eq]
noncomputable def G_althingref01_With (k : Nat) : Gam := ins 83 (.pu althingref01_With.ps althingref01_With.r (althingref01_With k)) (G_althingref01_power k)
theorem ok_althingref01_With : GOk Tryz.prog G_althingref01_With := ok_althingref01_power.ins fun k => by rw [show althingref01_With k = althingref01_With.raw k from congrFun (sealed_eq althingref01_With.raw) k]; exact runF_ok tabOk ok_althingref01_power mix Tryz.func83 Tryz.call83 althingref01_With.cuts althingref01_With.ps althingref01_With.r (by rw [Tryz.ntmps83]; decide) k
def althingref14_one.cuts : List (Nat × List CK) := []
abbrev althingref14_one.ps : List PK := [.val Ty.i64]
abbrev althingref14_one.r : Ty := Ty.i64
noncomputable def althingref14_one.raw (k : Nat) (a0 : Int) : Option Int := runF Alg.std G_althingref01_With T Tryz.f58 althingref14_one.cuts althingref14_one.ps althingref14_one.r k a0
noncomputable def althingref14_one (k : Nat) (a0 : Int) : Option Int := sealed althingref14_one.raw k a0
theorem althingref14_one_raw (k : Nat) (a0 : Int) : althingref14_one k a0 = althingref14_one.raw k a0 := by unfold althingref14_one; rw [sealed_eq]
noncomputable def G_althingref14_one (k : Nat) : Gam := ins 58 (.pu althingref14_one.ps althingref14_one.r (althingref14_one k)) (G_althingref01_With k)
theorem ok_althingref14_one : GOk Tryz.prog G_althingref14_one := ok_althingref01_With.ins fun k => by rw [show althingref14_one k = althingref14_one.raw k from congrFun (sealed_eq althingref14_one.raw) k]; exact runF_ok tabOk ok_althingref01_With mix Tryz.func58 Tryz.call58 althingref14_one.cuts althingref14_one.ps althingref14_one.r (by rw [Tryz.ntmps58]; decide) k
def althingref14_Start.cuts : List (Nat × List CK) := []
abbrev althingref14_Start.ps : List PK := [.val Ty.i64, .val Ty.i64, .val (.sl 37 Ty_api_Record), .val Ty_api_Command]
abbrev althingref14_Start.r : Ty := (.tup (.pair Ty_althingref14_Lead (.pair Ty_lead_Step Ty.i64)))
noncomputable def althingref14_Start.raw (k : Nat) (a0 : Int) (a1 : Int) (a2 : List Ty_api_Record.den) (a3 : Ty_api_Command.den) : Option (Ty_althingref14_Lead.den × Ty_lead_Step.den × Int) := runF Alg.std G_althingref14_one T Tryz.f26 althingref14_Start.cuts althingref14_Start.ps althingref14_Start.r k a0 a1 a2 a3
noncomputable def althingref14_Start (k : Nat) (a0 : Int) (a1 : Int) (a2 : List Ty_api_Record.den) (a3 : Ty_api_Command.den) : Option (Ty_althingref14_Lead.den × Ty_lead_Step.den × Int) := sealed althingref14_Start.raw k a0 a1 a2 a3
theorem althingref14_Start_raw (k : Nat) (a0 : Int) (a1 : Int) (a2 : List Ty_api_Record.den) (a3 : Ty_api_Command.den) : althingref14_Start k a0 a1 a2 a3 = althingref14_Start.raw k a0 a1 a2 a3 := by unfold althingref14_Start; rw [sealed_eq]
noncomputable def G_althingref14_Start (k : Nat) : Gam := ins 26 (.pu althingref14_Start.ps althingref14_Start.r (althingref14_Start k)) (G_althingref14_one k)
theorem ok_althingref14_Start : GOk Tryz.prog G_althingref14_Start := ok_althingref14_one.ins fun k => by rw [show althingref14_Start k = althingref14_Start.raw k from congrFun (sealed_eq althingref14_Start.raw) k]; exact runF_ok tabOk ok_althingref14_one mix Tryz.func26 Tryz.call26 althingref14_Start.cuts althingref14_Start.ps althingref14_Start.r (by rw [Tryz.ntmps26]; decide) k
def stamp_NextBallot.s4 : List CK := [.ptr 2 2 Ty_api_Instance, .ptr 4 4 Ty_api_Instance, .ptr 6 6 Ty_api_Instance, .box 2 Ty_api_Instance [], .box 4 Ty_api_Instance [], .box 6 Ty_api_Instance []]
def stamp_NextBallot.cuts : List (Nat × List CK) := [(4, stamp_NextBallot.s4)]
abbrev stamp_NextBallot.ps : List PK := [.val Ty_api_Instance, .val Ty.i64]
abbrev stamp_NextBallot.r : Ty := (.tup (.pair Ty_api_Instance Ty.i64))
noncomputable def stamp_NextBallot.raw (k : Nat) (a0 : Ty_api_Instance.den) (a1 : Int) : Option (Ty_api_Instance.den × Int) := runF Alg.std G_althingref14_Start T Tryz.f60 stamp_NextBallot.cuts stamp_NextBallot.ps stamp_NextBallot.r k a0 a1
noncomputable def stamp_NextBallot (k : Nat) (a0 : Ty_api_Instance.den) (a1 : Int) : Option (Ty_api_Instance.den × Int) := sealed stamp_NextBallot.raw k a0 a1
theorem stamp_NextBallot_raw (k : Nat) (a0 : Ty_api_Instance.den) (a1 : Int) : stamp_NextBallot k a0 a1 = stamp_NextBallot.raw k a0 a1 := by unfold stamp_NextBallot; rw [sealed_eq]
noncomputable def stamp_NextBallot.c4 (k : Nat) (b2 : Ty_api_Instance.den) (b4 : Ty_api_Instance.den) (b6 : Ty_api_Instance.den) : Option (Ty_api_Instance.den × Int) := runC Alg.std G_althingref14_Start T Tryz.f60 stamp_NextBallot.cuts stamp_NextBallot.r 4 stamp_NextBallot.s4 k ((), (), (), b2, b4, b6, ())
noncomputable def G_stamp_NextBallot (k : Nat) : Gam := ins 60 (.pu stamp_NextBallot.ps stamp_NextBallot.r (stamp_NextBallot k)) (G_althingref14_Start k)
theorem ok_stamp_NextBallot : GOk Tryz.prog G_stamp_NextBallot := ok_althingref14_Start.ins fun k => by rw [show stamp_NextBallot k = stamp_NextBallot.raw k from congrFun (sealed_eq stamp_NextBallot.raw) k]; exact runF_ok tabOk ok_althingref14_Start mix Tryz.func60 Tryz.call60 stamp_NextBallot.cuts stamp_NextBallot.ps stamp_NextBallot.r (by rw [Tryz.ntmps60]; decide) k
def lead_Take.s3 : List CK := [.tmp 0 Ty.i64, .tmp 1 Ty.i64, .tmp 2 (.sl 37 Ty_api_Record), .ptr 7 7 Ty_api_Instance, .ptr 8 8 Ty_lead_Lead, .ptr 9 9 Ty_lead_Step, .box 7 Ty_api_Instance [], .box 8 Ty_lead_Lead [], .box 9 Ty_lead_Step []]
def lead_Take.cuts : List (Nat × List CK) := [(3, lead_Take.s3)]
abbrev lead_Take.ps : List PK := [.val Ty.i64, .val Ty.i64, .val (.sl 37 Ty_api_Record), .val Ty_api_Instance]
abbrev lead_Take.r : Ty := (.tup (.pair Ty_lead_Lead (.pair Ty_lead_Step Ty.i64)))
noncomputable def lead_Take.raw (k : Nat) (a0 : Int) (a1 : Int) (a2 : List Ty_api_Record.den) (a3 : Ty_api_Instance.den) : Option (Ty_lead_Lead.den × Ty_lead_Step.den × Int) := runF Alg.std G_stamp_NextBallot T Tryz.f27 lead_Take.cuts lead_Take.ps lead_Take.r k a0 a1 a2 a3
noncomputable def lead_Take (k : Nat) (a0 : Int) (a1 : Int) (a2 : List Ty_api_Record.den) (a3 : Ty_api_Instance.den) : Option (Ty_lead_Lead.den × Ty_lead_Step.den × Int) := sealed lead_Take.raw k a0 a1 a2 a3
theorem lead_Take_raw (k : Nat) (a0 : Int) (a1 : Int) (a2 : List Ty_api_Record.den) (a3 : Ty_api_Instance.den) : lead_Take k a0 a1 a2 a3 = lead_Take.raw k a0 a1 a2 a3 := by unfold lead_Take; rw [sealed_eq]
noncomputable def lead_Take.c3 (k : Nat) (x0 : Int) (x1 : Int) (x2 : List Ty_api_Record.den) (b7 : Ty_api_Instance.den) (b8 : Ty_lead_Lead.den) (b9 : Ty_lead_Step.den) : Option (Ty_lead_Lead.den × Ty_lead_Step.den × Int) := runC Alg.std G_stamp_NextBallot T Tryz.f27 lead_Take.cuts lead_Take.r 3 lead_Take.s3 k (x0, x1, x2, (), (), (), b7, b8, b9, ())
noncomputable def G_lead_Take (k : Nat) : Gam := ins 27 (.pu lead_Take.ps lead_Take.r (lead_Take k)) (G_stamp_NextBallot k)
theorem ok_lead_Take : GOk Tryz.prog G_lead_Take := ok_stamp_NextBallot.ins fun k => by rw [show lead_Take k = lead_Take.raw k from congrFun (sealed_eq lead_Take.raw) k]; exact runF_ok tabOk ok_stamp_NextBallot mix Tryz.func27 Tryz.call27 lead_Take.cuts lead_Take.ps lead_Take.r (by rw [Tryz.ntmps27]; decide) k
def althingref12_Know.s3 : List CK := [.tmp 0 (.sl 37 Ty_api_Record), .ptr 3 3 Ty_api_Instance, .ptr 4 4 Ty_api_Record, .ptr 5 5 Ty_api_Record, .tmp 6 Ty.i64, .box 3 Ty_api_Instance [], .box 4 Ty_api_Record [], .box 5 Ty_api_Record []]
def althingref12_Know.cuts : List (Nat × List CK) := [(3, althingref12_Know.s3)]
abbrev althingref12_Know.ps : List PK := [.val (.sl 37 Ty_api_Record), .val Ty_api_Instance]
abbrev althingref12_Know.r : Ty := Ty_api_Record
noncomputable def althingref12_Know.raw (k : Nat) (a0 : List Ty_api_Record.den) (a1 : Ty_api_Instance.den) : Option Ty_api_Record.den := runF Alg.std G_lead_Take T Tryz.f62 althingref12_Know.cuts althingref12_Know.ps althingref12_Know.r k a0 a1
noncomputable def althingref12_Know (k : Nat) (a0 : List Ty_api_Record.den) (a1 : Ty_api_Instance.den) : Option Ty_api_Record.den := sealed althingref12_Know.raw k a0 a1
theorem althingref12_Know_raw (k : Nat) (a0 : List Ty_api_Record.den) (a1 : Ty_api_Instance.den) : althingref12_Know k a0 a1 = althingref12_Know.raw k a0 a1 := by unfold althingref12_Know; rw [sealed_eq]
noncomputable def althingref12_Know.c3 (k : Nat) (x0 : List Ty_api_Record.den) (x6 : Int) (b3 : Ty_api_Instance.den) (b4 : Ty_api_Record.den) (b5 : Ty_api_Record.den) : Option Ty_api_Record.den := runC Alg.std G_lead_Take T Tryz.f62 althingref12_Know.cuts althingref12_Know.r 3 althingref12_Know.s3 k (x0, (), (), (), x6, b3, b4, b5, ())
noncomputable def G_althingref12_Know (k : Nat) : Gam := ins 62 (.pu althingref12_Know.ps althingref12_Know.r (althingref12_Know k)) (G_lead_Take k)
theorem ok_althingref12_Know : GOk Tryz.prog G_althingref12_Know := ok_lead_Take.ins fun k => by rw [show althingref12_Know k = althingref12_Know.raw k from congrFun (sealed_eq althingref12_Know.raw) k]; exact runF_ok tabOk ok_lead_Take mix Tryz.func62 Tryz.call62 althingref12_Know.cuts althingref12_Know.ps althingref12_Know.r (by rw [Tryz.ntmps62]; decide) k
def althingref02_NextBallot.s3 : List CK := [.tmp 1 Ty.i64, .ptr 2 2 Ty_api_Instance, .ptr 4 4 Ty_api_Instance, .box 2 Ty_api_Instance [], .box 4 Ty_api_Instance []]
def althingref02_NextBallot.cuts : List (Nat × List CK) := [(3, althingref02_NextBallot.s3)]
abbrev althingref02_NextBallot.ps : List PK := [.val Ty_api_Instance, .val Ty.i64]
abbrev althingref02_NextBallot.r : Ty := (.tup (.pair Ty_api_Instance Ty.i64))
noncomputable def althingref02_NextBallot.raw (k : Nat) (a0 : Ty_api_Instance.den) (a1 : Int) : Option (Ty_api_Instance.den × Int) := runF Alg.std G_althingref12_Know T Tryz.f63 althingref02_NextBallot.cuts althingref02_NextBallot.ps althingref02_NextBallot.r k a0 a1
noncomputable def althingref02_NextBallot (k : Nat) (a0 : Ty_api_Instance.den) (a1 : Int) : Option (Ty_api_Instance.den × Int) := sealed althingref02_NextBallot.raw k a0 a1
theorem althingref02_NextBallot_raw (k : Nat) (a0 : Ty_api_Instance.den) (a1 : Int) : althingref02_NextBallot k a0 a1 = althingref02_NextBallot.raw k a0 a1 := by unfold althingref02_NextBallot; rw [sealed_eq]
noncomputable def althingref02_NextBallot.c3 (k : Nat) (x1 : Int) (b2 : Ty_api_Instance.den) (b4 : Ty_api_Instance.den) : Option (Ty_api_Instance.den × Int) := runC Alg.std G_althingref12_Know T Tryz.f63 althingref02_NextBallot.cuts althingref02_NextBallot.r 3 althingref02_NextBallot.s3 k (x1, (), (), b2, b4, ())
noncomputable def G_althingref02_NextBallot (k : Nat) : Gam := ins 63 (.pu althingref02_NextBallot.ps althingref02_NextBallot.r (althingref02_NextBallot k)) (G_althingref12_Know k)
theorem ok_althingref02_NextBallot : GOk Tryz.prog G_althingref02_NextBallot := ok_althingref12_Know.ins fun k => by rw [show althingref02_NextBallot k = althingref02_NextBallot.raw k from congrFun (sealed_eq althingref02_NextBallot.raw) k]; exact runF_ok tabOk ok_althingref12_Know mix Tryz.func63 Tryz.call63 althingref02_NextBallot.cuts althingref02_NextBallot.ps althingref02_NextBallot.r (by rw [Tryz.ntmps63]; decide) k
def althingref14_Take.s3 : List CK := [.tmp 0 Ty.i64, .tmp 1 Ty.i64, .tmp 2 (.sl 37 Ty_api_Record), .ptr 7 7 Ty_api_Instance, .ptr 8 8 Ty_althingref14_Lead, .ptr 9 9 Ty_lead_Step, .box 7 Ty_api_Instance [], .box 8 Ty_althingref14_Lead [], .box 9 Ty_lead_Step []]
def althingref14_Take.cuts : List (Nat × List CK) := [(3, althingref14_Take.s3)]
abbrev althingref14_Take.ps : List PK := [.val Ty.i64, .val Ty.i64, .val (.sl 37 Ty_api_Record), .val Ty_api_Instance]
abbrev althingref14_Take.r : Ty := (.tup (.pair Ty_althingref14_Lead (.pair Ty_lead_Step Ty.i64)))
noncomputable def althingref14_Take.raw (k : Nat) (a0 : Int) (a1 : Int) (a2 : List Ty_api_Record.den) (a3 : Ty_api_Instance.den) : Option (Ty_althingref14_Lead.den × Ty_lead_Step.den × Int) := runF Alg.std G_althingref02_NextBallot T Tryz.f28 althingref14_Take.cuts althingref14_Take.ps althingref14_Take.r k a0 a1 a2 a3
noncomputable def althingref14_Take (k : Nat) (a0 : Int) (a1 : Int) (a2 : List Ty_api_Record.den) (a3 : Ty_api_Instance.den) : Option (Ty_althingref14_Lead.den × Ty_lead_Step.den × Int) := sealed althingref14_Take.raw k a0 a1 a2 a3
theorem althingref14_Take_raw (k : Nat) (a0 : Int) (a1 : Int) (a2 : List Ty_api_Record.den) (a3 : Ty_api_Instance.den) : althingref14_Take k a0 a1 a2 a3 = althingref14_Take.raw k a0 a1 a2 a3 := by unfold althingref14_Take; rw [sealed_eq]
noncomputable def althingref14_Take.c3 (k : Nat) (x0 : Int) (x1 : Int) (x2 : List Ty_api_Record.den) (b7 : Ty_api_Instance.den) (b8 : Ty_althingref14_Lead.den) (b9 : Ty_lead_Step.den) : Option (Ty_althingref14_Lead.den × Ty_lead_Step.den × Int) := runC Alg.std G_althingref02_NextBallot T Tryz.f28 althingref14_Take.cuts althingref14_Take.r 3 althingref14_Take.s3 k (x0, x1, x2, (), (), (), b7, b8, b9, ())
noncomputable def G_althingref14_Take (k : Nat) : Gam := ins 28 (.pu althingref14_Take.ps althingref14_Take.r (althingref14_Take k)) (G_althingref02_NextBallot k)
theorem ok_althingref14_Take : GOk Tryz.prog G_althingref14_Take := ok_althingref02_NextBallot.ins fun k => by rw [show althingref14_Take k = althingref14_Take.raw k from congrFun (sealed_eq althingref14_Take.raw) k]; exact runF_ok tabOk ok_althingref02_NextBallot mix Tryz.func28 Tryz.call28 althingref14_Take.cuts althingref14_Take.ps althingref14_Take.r (by rw [Tryz.ntmps28]; decide) k
def althinglaw14_step.cuts : List (Nat × List CK) := []
abbrev althinglaw14_step.ps : List PK := [.val Ty_lead_Step]
abbrev althinglaw14_step.r : Ty := Ty_lead_Step
noncomputable def althinglaw14_step.raw (k : Nat) (a0 : Ty_lead_Step.den) : Option Ty_lead_Step.den := runF Alg.std G_althingref14_Take T Tryz.f30 althinglaw14_step.cuts althinglaw14_step.ps althinglaw14_step.r k a0
noncomputable def althinglaw14_step (k : Nat) (a0 : Ty_lead_Step.den) : Option Ty_lead_Step.den := sealed althinglaw14_step.raw k a0
theorem althinglaw14_step_raw (k : Nat) (a0 : Ty_lead_Step.den) : althinglaw14_step k a0 = althinglaw14_step.raw k a0 := by unfold althinglaw14_step; rw [sealed_eq]
noncomputable def G_althinglaw14_step (k : Nat) : Gam := ins 30 (.pu althinglaw14_step.ps althinglaw14_step.r (althinglaw14_step k)) (G_althingref14_Take k)
theorem ok_althinglaw14_step : GOk Tryz.prog G_althinglaw14_step := ok_althingref14_Take.ins fun k => by rw [show althinglaw14_step k = althinglaw14_step.raw k from congrFun (sealed_eq althinglaw14_step.raw) k]; exact runF_ok tabOk ok_althingref14_Take mix Tryz.func30 Tryz.call30 althinglaw14_step.cuts althinglaw14_step.ps althinglaw14_step.r (by rw [Tryz.ntmps30]; decide) k
def althingref14_SameStep.cuts : List (Nat × List CK) := []
abbrev althingref14_SameStep.ps : List PK := [.val Ty_lead_Step, .val Ty_lead_Step]
abbrev althingref14_SameStep.r : Ty := .bool
noncomputable def althingref14_SameStep.raw (k : Nat) (a0 : Ty_lead_Step.den) (a1 : Ty_lead_Step.den) : Option Bool := runF Alg.std G_althinglaw14_step T Tryz.f29 althingref14_SameStep.cuts althingref14_SameStep.ps althingref14_SameStep.r k a0 a1
noncomputable def althingref14_SameStep (k : Nat) (a0 : Ty_lead_Step.den) (a1 : Ty_lead_Step.den) : Option Bool := sealed althingref14_SameStep.raw k a0 a1
theorem althingref14_SameStep_raw (k : Nat) (a0 : Ty_lead_Step.den) (a1 : Ty_lead_Step.den) : althingref14_SameStep k a0 a1 = althingref14_SameStep.raw k a0 a1 := by unfold althingref14_SameStep; rw [sealed_eq]
noncomputable def G_althingref14_SameStep (k : Nat) : Gam := ins 29 (.pu althingref14_SameStep.ps althingref14_SameStep.r (althingref14_SameStep k)) (G_althinglaw14_step k)
theorem ok_althingref14_SameStep : GOk Tryz.prog G_althingref14_SameStep := ok_althinglaw14_step.ins fun k => by rw [show althingref14_SameStep k = althingref14_SameStep.raw k from congrFun (sealed_eq althingref14_SameStep.raw) k]; exact runF_ok tabOk ok_althinglaw14_step mix Tryz.func29 Tryz.call29 althingref14_SameStep.cuts althingref14_SameStep.ps althingref14_SameStep.r (by rw [Tryz.ntmps29]; decide) k
def althinglaw14_LeadBegins.s3 : List CK := [.tmp 0 Ty.i64, .tmp 1 Ty.i64, .tmp 2 (.sl 37 Ty_api_Record), .ptr 8 8 Ty_api_Command, .ptr 9 9 Ty_api_Instance, .box 8 Ty_api_Command [], .box 9 Ty_api_Instance []]
def althinglaw14_LeadBegins.cuts : List (Nat × List CK) := [(3, althinglaw14_LeadBegins.s3)]
abbrev althinglaw14_LeadBegins.ps : List PK := [.val Ty.i64, .val Ty.i64, .val (.sl 37 Ty_api_Record), .val Ty_api_Command, .val Ty_api_Instance]
abbrev althinglaw14_LeadBegins.r : Ty := .bool
noncomputable def althinglaw14_LeadBegins.raw (k : Nat) (a0 : Int) (a1 : Int) (a2 : List Ty_api_Record.den) (a3 : Ty_api_Command.den) (a4 : Ty_api_Instance.den) : Option Bool := runF Alg.std G_althingref14_SameStep T Tryz.f7 althinglaw14_LeadBegins.cuts althinglaw14_LeadBegins.ps althinglaw14_LeadBegins.r k a0 a1 a2 a3 a4
noncomputable def althinglaw14_LeadBegins (k : Nat) (a0 : Int) (a1 : Int) (a2 : List Ty_api_Record.den) (a3 : Ty_api_Command.den) (a4 : Ty_api_Instance.den) : Option Bool := sealed althinglaw14_LeadBegins.raw k a0 a1 a2 a3 a4
theorem althinglaw14_LeadBegins_raw (k : Nat) (a0 : Int) (a1 : Int) (a2 : List Ty_api_Record.den) (a3 : Ty_api_Command.den) (a4 : Ty_api_Instance.den) : althinglaw14_LeadBegins k a0 a1 a2 a3 a4 = althinglaw14_LeadBegins.raw k a0 a1 a2 a3 a4 := by unfold althinglaw14_LeadBegins; rw [sealed_eq]
noncomputable def althinglaw14_LeadBegins.c3 (k : Nat) (x0 : Int) (x1 : Int) (x2 : List Ty_api_Record.den) (b8 : Ty_api_Command.den) (b9 : Ty_api_Instance.den) : Option Bool := runC Alg.std G_althingref14_SameStep T Tryz.f7 althinglaw14_LeadBegins.cuts althinglaw14_LeadBegins.r 3 althinglaw14_LeadBegins.s3 k (x0, x1, x2, (), (), b8, b9, ())
noncomputable def G_althinglaw14_LeadBegins (k : Nat) : Gam := ins 7 (.pu althinglaw14_LeadBegins.ps althinglaw14_LeadBegins.r (althinglaw14_LeadBegins k)) (G_althingref14_SameStep k)
theorem ok_althinglaw14_LeadBegins : GOk Tryz.prog G_althinglaw14_LeadBegins := ok_althingref14_SameStep.ins fun k => by rw [show althinglaw14_LeadBegins k = althinglaw14_LeadBegins.raw k from congrFun (sealed_eq althinglaw14_LeadBegins.raw) k]; exact runF_ok tabOk ok_althingref14_SameStep mix Tryz.func7 Tryz.call7 althinglaw14_LeadBegins.cuts althinglaw14_LeadBegins.ps althinglaw14_LeadBegins.r (by rw [Tryz.ntmps7]; decide) k
end Go.Proofs.YtjgcmmpfaemkiaaGreat.V
end
