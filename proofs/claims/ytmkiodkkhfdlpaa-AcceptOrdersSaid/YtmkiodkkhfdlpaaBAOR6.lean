/- What the claim AOR leans on: texts joined by bundle.py, a program of ours; the words cut down to what is used. -/
import Derived.Test.YtmkiodkkhfdlpaaBAOR5
import Derived.Test.YtmkiodkkhfdlpaaProg
import Derived.KernelRfl
section
set_option linter.unusedVariables false
namespace Go.Proofs.Ytmkiodkkhfdlpaa.V
open Go.Vm
def althinglaw05_Few.s2 : List CK := [.tmp 7 (.sl 34 Ty_api_Command), .tmp 8 Ty.i64, .tmp 9 Ty.i64]
def althinglaw05_Few.s5 : List CK := [.ptr 4 4 Ty_api_Command, .tmp 5 Ty.i64, .tmp 7 (.sl 34 Ty_api_Command), .tmp 8 Ty.i64, .tmp 9 Ty.i64, .box 4 Ty_api_Command]
def althinglaw05_Few.s7 : List CK := [.ptr 4 4 Ty_api_Command, .tmp 5 Ty.i64, .tmp 7 (.sl 34 Ty_api_Command), .tmp 8 Ty.i64, .tmp 9 Ty.i64, .box 4 Ty_api_Command]
def althinglaw05_Few.s10 : List CK := [.ptr 4 4 Ty_api_Command, .tmp 6 Ty.i64, .tmp 7 (.sl 34 Ty_api_Command), .tmp 8 Ty.i64, .tmp 9 Ty.i64, .box 4 Ty_api_Command]
def althinglaw05_Few.s12 : List CK := [.ptr 4 4 Ty_api_Command, .tmp 6 Ty.i64, .tmp 7 (.sl 34 Ty_api_Command), .tmp 8 Ty.i64, .tmp 9 Ty.i64, .box 4 Ty_api_Command]
def althinglaw05_Few.s14 : List CK := [.ptr 4 4 Ty_api_Command, .tmp 7 (.sl 34 Ty_api_Command), .tmp 8 Ty.i64, .tmp 9 Ty.i64, .box 4 Ty_api_Command]
def althinglaw05_Few.cuts : List (Nat × List CK) := [(2, althinglaw05_Few.s2), (5, althinglaw05_Few.s5), (7, althinglaw05_Few.s7), (10, althinglaw05_Few.s10), (12, althinglaw05_Few.s12), (14, althinglaw05_Few.s14)]
abbrev althinglaw05_Few.ps : List PK := [.val (.sl 34 Ty_api_Command)]
abbrev althinglaw05_Few.r : Ty := .bool
noncomputable def althinglaw05_Few.raw (k : Nat) (a0 : List Ty_api_Command.den) : Option Bool := runF Alg.std G_index_Against_1 T Try.f20 althinglaw05_Few.cuts althinglaw05_Few.ps althinglaw05_Few.r k a0
noncomputable def althinglaw05_Few (k : Nat) (a0 : List Ty_api_Command.den) : Option Bool := sealed althinglaw05_Few.raw k a0
theorem althinglaw05_Few_raw (k : Nat) (a0 : List Ty_api_Command.den) : althinglaw05_Few k a0 = althinglaw05_Few.raw k a0 := by unfold althinglaw05_Few; rw [sealed_eq]
noncomputable def althinglaw05_Few.c2 (k : Nat) (x7 : List Ty_api_Command.den) (x8 : Int) (x9 : Int) : Option Bool := runC Alg.std G_index_Against_1 T Try.f20 althinglaw05_Few.cuts althinglaw05_Few.r 2 althinglaw05_Few.s2 k (x7, x8, x9, ())
noncomputable def althinglaw05_Few.c5 (k : Nat) (x5 : Int) (x7 : List Ty_api_Command.den) (x8 : Int) (x9 : Int) (b4 : Ty_api_Command.den) : Option Bool := runC Alg.std G_index_Against_1 T Try.f20 althinglaw05_Few.cuts althinglaw05_Few.r 5 althinglaw05_Few.s5 k ((), x5, x7, x8, x9, b4, ())
noncomputable def althinglaw05_Few.c7 (k : Nat) (x5 : Int) (x7 : List Ty_api_Command.den) (x8 : Int) (x9 : Int) (b4 : Ty_api_Command.den) : Option Bool := runC Alg.std G_index_Against_1 T Try.f20 althinglaw05_Few.cuts althinglaw05_Few.r 7 althinglaw05_Few.s7 k ((), x5, x7, x8, x9, b4, ())
noncomputable def althinglaw05_Few.c10 (k : Nat) (x6 : Int) (x7 : List Ty_api_Command.den) (x8 : Int) (x9 : Int) (b4 : Ty_api_Command.den) : Option Bool := runC Alg.std G_index_Against_1 T Try.f20 althinglaw05_Few.cuts althinglaw05_Few.r 10 althinglaw05_Few.s10 k ((), x6, x7, x8, x9, b4, ())
noncomputable def althinglaw05_Few.c12 (k : Nat) (x6 : Int) (x7 : List Ty_api_Command.den) (x8 : Int) (x9 : Int) (b4 : Ty_api_Command.den) : Option Bool := runC Alg.std G_index_Against_1 T Try.f20 althinglaw05_Few.cuts althinglaw05_Few.r 12 althinglaw05_Few.s12 k ((), x6, x7, x8, x9, b4, ())
noncomputable def althinglaw05_Few.c14 (k : Nat) (x7 : List Ty_api_Command.den) (x8 : Int) (x9 : Int) (b4 : Ty_api_Command.den) : Option Bool := runC Alg.std G_index_Against_1 T Try.f20 althinglaw05_Few.cuts althinglaw05_Few.r 14 althinglaw05_Few.s14 k ((), x7, x8, x9, b4, ())
noncomputable def G_althinglaw05_Few (k : Nat) : Gam := ins 20 (.pu althinglaw05_Few.ps althinglaw05_Few.r (althinglaw05_Few k)) (G_index_Against_1 k)
theorem ok_althinglaw05_Few : GOk Try.prog G_althinglaw05_Few := ok_index_Against_1.ins fun k => by rw [show althinglaw05_Few k = althinglaw05_Few.raw k from congrFun (sealed_eq althinglaw05_Few.raw) k]; exact runF_ok tabOk ok_index_Against_1 mix Try.func20 Try.call20 althinglaw05_Few.cuts althinglaw05_Few.ps althinglaw05_Few.r (by rw [Try.ntmps20]; decide) k
def althinglaw11_Few.s2 : List CK := [.tmp 0 (.sl 38 Ty_api_Record), .tmp 3 Ty.i64]
def althinglaw11_Few.s4 : List CK := [.tmp 0 (.sl 38 Ty_api_Record), .tmp 3 Ty.i64]
def althinglaw11_Few.cuts : List (Nat × List CK) := [(2, althinglaw11_Few.s2), (4, althinglaw11_Few.s4)]
abbrev althinglaw11_Few.ps : List PK := [.val (.sl 38 Ty_api_Record)]
abbrev althinglaw11_Few.r : Ty := .bool
noncomputable def althinglaw11_Few.raw (k : Nat) (a0 : List Ty_api_Record.den) : Option Bool := runF Alg.std G_althinglaw05_Few T Try.f25 althinglaw11_Few.cuts althinglaw11_Few.ps althinglaw11_Few.r k a0
noncomputable def althinglaw11_Few (k : Nat) (a0 : List Ty_api_Record.den) : Option Bool := sealed althinglaw11_Few.raw k a0
theorem althinglaw11_Few_raw (k : Nat) (a0 : List Ty_api_Record.den) : althinglaw11_Few k a0 = althinglaw11_Few.raw k a0 := by unfold althinglaw11_Few; rw [sealed_eq]
noncomputable def althinglaw11_Few.c2 (k : Nat) (x0 : List Ty_api_Record.den) (x3 : Int) : Option Bool := runC Alg.std G_althinglaw05_Few T Try.f25 althinglaw11_Few.cuts althinglaw11_Few.r 2 althinglaw11_Few.s2 k (x0, x3, ())
noncomputable def althinglaw11_Few.c4 (k : Nat) (x0 : List Ty_api_Record.den) (x3 : Int) : Option Bool := runC Alg.std G_althinglaw05_Few T Try.f25 althinglaw11_Few.cuts althinglaw11_Few.r 4 althinglaw11_Few.s4 k (x0, x3, ())
noncomputable def G_althinglaw11_Few (k : Nat) : Gam := ins 25 (.pu althinglaw11_Few.ps althinglaw11_Few.r (althinglaw11_Few k)) (G_althinglaw05_Few k)
theorem ok_althinglaw11_Few : GOk Try.prog G_althinglaw11_Few := ok_althinglaw05_Few.ins fun k => by rw [show althinglaw11_Few k = althinglaw11_Few.raw k from congrFun (sealed_eq althinglaw11_Few.raw) k]; exact runF_ok tabOk ok_althinglaw05_Few mix Try.func25 Try.call25 althinglaw11_Few.cuts althinglaw11_Few.ps althinglaw11_Few.r (by rw [Try.ntmps25]; decide) k
def althinglaw12_few.cuts : List (Nat × List CK) := []
abbrev althinglaw12_few.ps : List PK := [.val (.sl 38 Ty_api_Record), .val Ty_api_Message]
abbrev althinglaw12_few.r : Ty := .bool
noncomputable def althinglaw12_few.raw (k : Nat) (a0 : List Ty_api_Record.den) (a1 : Ty_api_Message.den) : Option Bool := runF Alg.std G_althinglaw11_Few T Try.f10 althinglaw12_few.cuts althinglaw12_few.ps althinglaw12_few.r k a0 a1
noncomputable def althinglaw12_few (k : Nat) (a0 : List Ty_api_Record.den) (a1 : Ty_api_Message.den) : Option Bool := sealed althinglaw12_few.raw k a0 a1
theorem althinglaw12_few_raw (k : Nat) (a0 : List Ty_api_Record.den) (a1 : Ty_api_Message.den) : althinglaw12_few k a0 a1 = althinglaw12_few.raw k a0 a1 := by unfold althinglaw12_few; rw [sealed_eq]
noncomputable def G_althinglaw12_few (k : Nat) : Gam := ins 10 (.pu althinglaw12_few.ps althinglaw12_few.r (althinglaw12_few k)) (G_althinglaw11_Few k)
theorem ok_althinglaw12_few : GOk Try.prog G_althinglaw12_few := ok_althinglaw11_Few.ins fun k => by rw [show althinglaw12_few k = althinglaw12_few.raw k from congrFun (sealed_eq althinglaw12_few.raw) k]; exact runF_ok tabOk ok_althinglaw11_Few mix Try.func10 Try.call10 althinglaw12_few.cuts althinglaw12_few.ps althinglaw12_few.r (by rw [Try.ntmps10]; decide) k
def althingref02_RightInst.cuts : List (Nat × List CK) := []
abbrev althingref02_RightInst.ps : List PK := [.val Ty_api_Instance]
abbrev althingref02_RightInst.r : Ty := .bool
noncomputable def althingref02_RightInst.raw (k : Nat) (a0 : Ty_api_Instance.den) : Option Bool := runF Alg.std G_althinglaw12_few T Try.f34 althingref02_RightInst.cuts althingref02_RightInst.ps althingref02_RightInst.r k a0
noncomputable def althingref02_RightInst (k : Nat) (a0 : Ty_api_Instance.den) : Option Bool := sealed althingref02_RightInst.raw k a0
theorem althingref02_RightInst_raw (k : Nat) (a0 : Ty_api_Instance.den) : althingref02_RightInst k a0 = althingref02_RightInst.raw k a0 := by unfold althingref02_RightInst; rw [sealed_eq]
noncomputable def G_althingref02_RightInst (k : Nat) : Gam := ins 34 (.pu althingref02_RightInst.ps althingref02_RightInst.r (althingref02_RightInst k)) (G_althinglaw12_few k)
theorem ok_althingref02_RightInst : GOk Try.prog G_althingref02_RightInst := ok_althinglaw12_few.ins fun k => by rw [show althingref02_RightInst k = althingref02_RightInst.raw k from congrFun (sealed_eq althingref02_RightInst.raw) k]; exact runF_ok tabOk ok_althinglaw12_few mix Try.func34 Try.call34 althingref02_RightInst.cuts althingref02_RightInst.ps althingref02_RightInst.r (by rw [Try.ntmps34]; decide) k
def althingref02_RightBallot.cuts : List (Nat × List CK) := []
abbrev althingref02_RightBallot.ps : List PK := [.val Ty_api_Instance]
abbrev althingref02_RightBallot.r : Ty := .bool
noncomputable def althingref02_RightBallot.raw (k : Nat) (a0 : Ty_api_Instance.den) : Option Bool := runF Alg.std G_althingref02_RightInst T Try.f35 althingref02_RightBallot.cuts althingref02_RightBallot.ps althingref02_RightBallot.r k a0
noncomputable def althingref02_RightBallot (k : Nat) (a0 : Ty_api_Instance.den) : Option Bool := sealed althingref02_RightBallot.raw k a0
theorem althingref02_RightBallot_raw (k : Nat) (a0 : Ty_api_Instance.den) : althingref02_RightBallot k a0 = althingref02_RightBallot.raw k a0 := by unfold althingref02_RightBallot; rw [sealed_eq]
noncomputable def G_althingref02_RightBallot (k : Nat) : Gam := ins 35 (.pu althingref02_RightBallot.ps althingref02_RightBallot.r (althingref02_RightBallot k)) (G_althingref02_RightInst k)
theorem ok_althingref02_RightBallot : GOk Try.prog G_althingref02_RightBallot := ok_althingref02_RightInst.ins fun k => by rw [show althingref02_RightBallot k = althingref02_RightBallot.raw k from congrFun (sealed_eq althingref02_RightBallot.raw) k]; exact runF_ok tabOk ok_althingref02_RightInst mix Try.func35 Try.call35 althingref02_RightBallot.cuts althingref02_RightBallot.ps althingref02_RightBallot.r (by rw [Try.ntmps35]; decide) k
def althingref02_Order.cuts : List (Nat × List CK) := []
abbrev althingref02_Order.ps : List PK := [.val Ty.i64, .val Ty.i64, .val Ty.i64, .val Ty.i64]
abbrev althingref02_Order.r : Ty := Ty.i64
noncomputable def althingref02_Order.raw (k : Nat) (a0 : Int) (a1 : Int) (a2 : Int) (a3 : Int) : Option Int := runF Alg.std G_althingref02_RightBallot T Try.f33 althingref02_Order.cuts althingref02_Order.ps althingref02_Order.r k a0 a1 a2 a3
noncomputable def althingref02_Order (k : Nat) (a0 : Int) (a1 : Int) (a2 : Int) (a3 : Int) : Option Int := sealed althingref02_Order.raw k a0 a1 a2 a3
theorem althingref02_Order_raw (k : Nat) (a0 : Int) (a1 : Int) (a2 : Int) (a3 : Int) : althingref02_Order k a0 a1 a2 a3 = althingref02_Order.raw k a0 a1 a2 a3 := by unfold althingref02_Order; rw [sealed_eq]
noncomputable def G_althingref02_Order (k : Nat) : Gam := ins 33 (.pu althingref02_Order.ps althingref02_Order.r (althingref02_Order k)) (G_althingref02_RightBallot k)
theorem ok_althingref02_Order : GOk Try.prog G_althingref02_Order := ok_althingref02_RightBallot.ins fun k => by rw [show althingref02_Order k = althingref02_Order.raw k from congrFun (sealed_eq althingref02_Order.raw) k]; exact runF_ok tabOk ok_althingref02_RightBallot mix Try.func33 Try.call33 althingref02_Order.cuts althingref02_Order.ps althingref02_Order.r (by rw [Try.ntmps33]; decide) k
def althingref02_Lower.cuts : List (Nat × List CK) := []
abbrev althingref02_Lower.ps : List PK := [.val Ty_api_Instance, .val Ty_api_Instance]
abbrev althingref02_Lower.r : Ty := .bool
noncomputable def althingref02_Lower.raw (k : Nat) (a0 : Ty_api_Instance.den) (a1 : Ty_api_Instance.den) : Option Bool := runF Alg.std G_althingref02_Order T Try.f16 althingref02_Lower.cuts althingref02_Lower.ps althingref02_Lower.r k a0 a1
noncomputable def althingref02_Lower (k : Nat) (a0 : Ty_api_Instance.den) (a1 : Ty_api_Instance.den) : Option Bool := sealed althingref02_Lower.raw k a0 a1
theorem althingref02_Lower_raw (k : Nat) (a0 : Ty_api_Instance.den) (a1 : Ty_api_Instance.den) : althingref02_Lower k a0 a1 = althingref02_Lower.raw k a0 a1 := by unfold althingref02_Lower; rw [sealed_eq]
noncomputable def G_althingref02_Lower (k : Nat) : Gam := ins 16 (.pu althingref02_Lower.ps althingref02_Lower.r (althingref02_Lower k)) (G_althingref02_Order k)
theorem ok_althingref02_Lower : GOk Try.prog G_althingref02_Lower := ok_althingref02_Order.ins fun k => by rw [show althingref02_Lower k = althingref02_Lower.raw k from congrFun (sealed_eq althingref02_Lower.raw) k]; exact runF_ok tabOk ok_althingref02_Order mix Try.func16 Try.call16 althingref02_Lower.cuts althingref02_Lower.ps althingref02_Lower.r (by rw [Try.ntmps16]; decide) k
def althingref05_Same.s4 : List CK := [.ptr 2 2 Ty_api_Command, .ptr 3 3 Ty_api_Command, .tmp 5 Ty.i64, .box 2 Ty_api_Command, .box 3 Ty_api_Command]
def althingref05_Same.s9 : List CK := [.ptr 2 2 Ty_api_Command, .ptr 3 3 Ty_api_Command, .tmp 6 Ty.i64, .box 2 Ty_api_Command, .box 3 Ty_api_Command]
def althingref05_Same.cuts : List (Nat × List CK) := [(4, althingref05_Same.s4), (9, althingref05_Same.s9)]
abbrev althingref05_Same.ps : List PK := [.val Ty_api_Command, .val Ty_api_Command]
abbrev althingref05_Same.r : Ty := .bool
noncomputable def althingref05_Same.raw (k : Nat) (a0 : Ty_api_Command.den) (a1 : Ty_api_Command.den) : Option Bool := runF Alg.std G_althingref02_Lower T Try.f36 althingref05_Same.cuts althingref05_Same.ps althingref05_Same.r k a0 a1
noncomputable def althingref05_Same (k : Nat) (a0 : Ty_api_Command.den) (a1 : Ty_api_Command.den) : Option Bool := sealed althingref05_Same.raw k a0 a1
theorem althingref05_Same_raw (k : Nat) (a0 : Ty_api_Command.den) (a1 : Ty_api_Command.den) : althingref05_Same k a0 a1 = althingref05_Same.raw k a0 a1 := by unfold althingref05_Same; rw [sealed_eq]
noncomputable def althingref05_Same.c4 (k : Nat) (x5 : Int) (b2 : Ty_api_Command.den) (b3 : Ty_api_Command.den) : Option Bool := runC Alg.std G_althingref02_Lower T Try.f36 althingref05_Same.cuts althingref05_Same.r 4 althingref05_Same.s4 k ((), (), x5, b2, b3, ())
noncomputable def althingref05_Same.c9 (k : Nat) (x6 : Int) (b2 : Ty_api_Command.den) (b3 : Ty_api_Command.den) : Option Bool := runC Alg.std G_althingref02_Lower T Try.f36 althingref05_Same.cuts althingref05_Same.r 9 althingref05_Same.s9 k ((), (), x6, b2, b3, ())
noncomputable def G_althingref05_Same (k : Nat) : Gam := ins 36 (.pu althingref05_Same.ps althingref05_Same.r (althingref05_Same k)) (G_althingref02_Lower k)
theorem ok_althingref05_Same : GOk Try.prog G_althingref05_Same := ok_althingref02_Lower.ins fun k => by rw [show althingref05_Same k = althingref05_Same.raw k from congrFun (sealed_eq althingref05_Same.raw) k]; exact runF_ok tabOk ok_althingref02_Lower mix Try.func36 Try.call36 althingref05_Same.cuts althingref05_Same.ps althingref05_Same.r (by rw [Try.ntmps36]; decide) k
def althingref02_RightTxn.cuts : List (Nat × List CK) := []
abbrev althingref02_RightTxn.ps : List PK := [.val Ty_api_Instance]
abbrev althingref02_RightTxn.r : Ty := .bool
noncomputable def althingref02_RightTxn.raw (k : Nat) (a0 : Ty_api_Instance.den) : Option Bool := runF Alg.std G_althingref05_Same T Try.f56 althingref02_RightTxn.cuts althingref02_RightTxn.ps althingref02_RightTxn.r k a0
noncomputable def althingref02_RightTxn (k : Nat) (a0 : Ty_api_Instance.den) : Option Bool := sealed althingref02_RightTxn.raw k a0
theorem althingref02_RightTxn_raw (k : Nat) (a0 : Ty_api_Instance.den) : althingref02_RightTxn k a0 = althingref02_RightTxn.raw k a0 := by unfold althingref02_RightTxn; rw [sealed_eq]
noncomputable def G_althingref02_RightTxn (k : Nat) : Gam := ins 56 (.pu althingref02_RightTxn.ps althingref02_RightTxn.r (althingref02_RightTxn k)) (G_althingref05_Same k)
theorem ok_althingref02_RightTxn : GOk Try.prog G_althingref02_RightTxn := ok_althingref05_Same.ins fun k => by rw [show althingref02_RightTxn k = althingref02_RightTxn.raw k from congrFun (sealed_eq althingref02_RightTxn.raw) k]; exact runF_ok tabOk ok_althingref05_Same mix Try.func56 Try.call56 althingref02_RightTxn.cuts althingref02_RightTxn.ps althingref02_RightTxn.r (by rw [Try.ntmps56]; decide) k
def althingref02_RightStamp.cuts : List (Nat × List CK) := []
abbrev althingref02_RightStamp.ps : List PK := [.val Ty_api_Instance]
abbrev althingref02_RightStamp.r : Ty := .bool
noncomputable def althingref02_RightStamp.raw (k : Nat) (a0 : Ty_api_Instance.den) : Option Bool := runF Alg.std G_althingref02_RightTxn T Try.f57 althingref02_RightStamp.cuts althingref02_RightStamp.ps althingref02_RightStamp.r k a0
noncomputable def althingref02_RightStamp (k : Nat) (a0 : Ty_api_Instance.den) : Option Bool := sealed althingref02_RightStamp.raw k a0
theorem althingref02_RightStamp_raw (k : Nat) (a0 : Ty_api_Instance.den) : althingref02_RightStamp k a0 = althingref02_RightStamp.raw k a0 := by unfold althingref02_RightStamp; rw [sealed_eq]
noncomputable def G_althingref02_RightStamp (k : Nat) : Gam := ins 57 (.pu althingref02_RightStamp.ps althingref02_RightStamp.r (althingref02_RightStamp k)) (G_althingref02_RightTxn k)
theorem ok_althingref02_RightStamp : GOk Try.prog G_althingref02_RightStamp := ok_althingref02_RightTxn.ins fun k => by rw [show althingref02_RightStamp k = althingref02_RightStamp.raw k from congrFun (sealed_eq althingref02_RightStamp.raw) k]; exact runF_ok tabOk ok_althingref02_RightTxn mix Try.func57 Try.call57 althingref02_RightStamp.cuts althingref02_RightStamp.ps althingref02_RightStamp.r (by rw [Try.ntmps57]; decide) k
def althingref02_Before.cuts : List (Nat × List CK) := []
abbrev althingref02_Before.ps : List PK := [.val Ty_api_Instance, .val Ty_api_Instance]
abbrev althingref02_Before.r : Ty := .bool
noncomputable def althingref02_Before.raw (k : Nat) (a0 : Ty_api_Instance.den) (a1 : Ty_api_Instance.den) : Option Bool := runF Alg.std G_althingref02_RightStamp T Try.f58 althingref02_Before.cuts althingref02_Before.ps althingref02_Before.r k a0 a1
noncomputable def althingref02_Before (k : Nat) (a0 : Ty_api_Instance.den) (a1 : Ty_api_Instance.den) : Option Bool := sealed althingref02_Before.raw k a0 a1
theorem althingref02_Before_raw (k : Nat) (a0 : Ty_api_Instance.den) (a1 : Ty_api_Instance.den) : althingref02_Before k a0 a1 = althingref02_Before.raw k a0 a1 := by unfold althingref02_Before; rw [sealed_eq]
noncomputable def G_althingref02_Before (k : Nat) : Gam := ins 58 (.pu althingref02_Before.ps althingref02_Before.r (althingref02_Before k)) (G_althingref02_RightStamp k)
theorem ok_althingref02_Before : GOk Try.prog G_althingref02_Before := ok_althingref02_RightStamp.ins fun k => by rw [show althingref02_Before k = althingref02_Before.raw k from congrFun (sealed_eq althingref02_Before.raw) k]; exact runF_ok tabOk ok_althingref02_RightStamp mix Try.func58 Try.call58 althingref02_Before.cuts althingref02_Before.ps althingref02_Before.r (by rw [Try.ntmps58]; decide) k
def althingref04_Right.cuts : List (Nat × List CK) := []
abbrev althingref04_Right.ps : List PK := [.val .str]
abbrev althingref04_Right.r : Ty := .bool
noncomputable def althingref04_Right.raw (k : Nat) (a0 : ByteArray) : Option Bool := runF Alg.std G_althingref02_Before T Try.f78 althingref04_Right.cuts althingref04_Right.ps althingref04_Right.r k a0
noncomputable def althingref04_Right (k : Nat) (a0 : ByteArray) : Option Bool := sealed althingref04_Right.raw k a0
theorem althingref04_Right_raw (k : Nat) (a0 : ByteArray) : althingref04_Right k a0 = althingref04_Right.raw k a0 := by unfold althingref04_Right; rw [sealed_eq]
noncomputable def G_althingref04_Right (k : Nat) : Gam := ins 78 (.pu althingref04_Right.ps althingref04_Right.r (althingref04_Right k)) (G_althingref02_Before k)
theorem ok_althingref04_Right : GOk Try.prog G_althingref04_Right := ok_althingref02_Before.ins fun k => by rw [show althingref04_Right k = althingref04_Right.raw k from congrFun (sealed_eq althingref04_Right.raw) k]; exact runF_ok tabOk ok_althingref02_Before mix Try.func78 Try.call78 althingref04_Right.cuts althingref04_Right.ps althingref04_Right.r (by rw [Try.ntmps78]; decide) k
def althingref04_Before.s2 : List CK := [.tmp 0 .str, .tmp 1 .str, .tmp 5 Ty.i64]
def althingref04_Before.cuts : List (Nat × List CK) := [(2, althingref04_Before.s2)]
abbrev althingref04_Before.ps : List PK := [.val .str, .val .str]
abbrev althingref04_Before.r : Ty := .bool
noncomputable def althingref04_Before.raw (k : Nat) (a0 : ByteArray) (a1 : ByteArray) : Option Bool := runF Alg.std G_althingref04_Right T Try.f79 althingref04_Before.cuts althingref04_Before.ps althingref04_Before.r k a0 a1
noncomputable def althingref04_Before (k : Nat) (a0 : ByteArray) (a1 : ByteArray) : Option Bool := sealed althingref04_Before.raw k a0 a1
theorem althingref04_Before_raw (k : Nat) (a0 : ByteArray) (a1 : ByteArray) : althingref04_Before k a0 a1 = althingref04_Before.raw k a0 a1 := by unfold althingref04_Before; rw [sealed_eq]
noncomputable def althingref04_Before.c2 (k : Nat) (x0 : ByteArray) (x1 : ByteArray) (x5 : Int) : Option Bool := runC Alg.std G_althingref04_Right T Try.f79 althingref04_Before.cuts althingref04_Before.r 2 althingref04_Before.s2 k (x0, x1, x5, ())
noncomputable def G_althingref04_Before (k : Nat) : Gam := ins 79 (.pu althingref04_Before.ps althingref04_Before.r (althingref04_Before k)) (G_althingref04_Right k)
theorem ok_althingref04_Before : GOk Try.prog G_althingref04_Before := ok_althingref04_Right.ins fun k => by rw [show althingref04_Before k = althingref04_Before.raw k from congrFun (sealed_eq althingref04_Before.raw) k]; exact runF_ok tabOk ok_althingref04_Right mix Try.func79 Try.call79 althingref04_Before.cuts althingref04_Before.ps althingref04_Before.r (by rw [Try.ntmps79]; decide) k
def althingref04_Rights.s2 : List CK := [.tmp 0 (.sl 9 .str), .tmp 3 Ty.i64]
def althingref04_Rights.cuts : List (Nat × List CK) := [(2, althingref04_Rights.s2)]
abbrev althingref04_Rights.ps : List PK := [.val (.sl 9 .str)]
abbrev althingref04_Rights.r : Ty := .bool
noncomputable def althingref04_Rights.raw (k : Nat) (a0 : List ByteArray) : Option Bool := runF Alg.std G_althingref04_Before T Try.f59 althingref04_Rights.cuts althingref04_Rights.ps althingref04_Rights.r k a0
noncomputable def althingref04_Rights (k : Nat) (a0 : List ByteArray) : Option Bool := sealed althingref04_Rights.raw k a0
theorem althingref04_Rights_raw (k : Nat) (a0 : List ByteArray) : althingref04_Rights k a0 = althingref04_Rights.raw k a0 := by unfold althingref04_Rights; rw [sealed_eq]
noncomputable def althingref04_Rights.c2 (k : Nat) (x0 : List ByteArray) (x3 : Int) : Option Bool := runC Alg.std G_althingref04_Before T Try.f59 althingref04_Rights.cuts althingref04_Rights.r 2 althingref04_Rights.s2 k (x0, x3, ())
noncomputable def G_althingref04_Rights (k : Nat) : Gam := ins 59 (.pu althingref04_Rights.ps althingref04_Rights.r (althingref04_Rights k)) (G_althingref04_Before k)
theorem ok_althingref04_Rights : GOk Try.prog G_althingref04_Rights := ok_althingref04_Before.ins fun k => by rw [show althingref04_Rights k = althingref04_Rights.raw k from congrFun (sealed_eq althingref04_Rights.raw) k]; exact runF_ok tabOk ok_althingref04_Before mix Try.func59 Try.call59 althingref04_Rights.cuts althingref04_Rights.ps althingref04_Rights.r (by rw [Try.ntmps59]; decide) k
def althingref05_Right.s5 : List CK := [.ptr 1 1 Ty_api_Command, .box 1 Ty_api_Command]
def althingref05_Right.s7 : List CK := [.ptr 1 1 Ty_api_Command, .box 1 Ty_api_Command]
def althingref05_Right.s11 : List CK := [.ptr 1 1 Ty_api_Command, .own 3 9 .str, .tmp 4 Ty.i64, .box 1 Ty_api_Command]
def althingref05_Right.s15 : List CK := [.ptr 1 1 Ty_api_Command, .own 3 9 .str, .tmp 4 Ty.i64, .box 1 Ty_api_Command]
def althingref05_Right.s18 : List CK := [.ptr 1 1 Ty_api_Command, .own 3 9 .str, .own 5 9 .str, .tmp 6 Ty.i64, .box 1 Ty_api_Command]
def althingref05_Right.cuts : List (Nat × List CK) := [(5, althingref05_Right.s5), (7, althingref05_Right.s7), (11, althingref05_Right.s11), (15, althingref05_Right.s15), (18, althingref05_Right.s18)]
abbrev althingref05_Right.ps : List PK := [.val Ty_api_Command]
abbrev althingref05_Right.r : Ty := .bool
noncomputable def althingref05_Right.raw (k : Nat) (a0 : Ty_api_Command.den) : Option Bool := runF Alg.std G_althingref04_Rights T Try.f37 althingref05_Right.cuts althingref05_Right.ps althingref05_Right.r k a0
noncomputable def althingref05_Right (k : Nat) (a0 : Ty_api_Command.den) : Option Bool := sealed althingref05_Right.raw k a0
theorem althingref05_Right_raw (k : Nat) (a0 : Ty_api_Command.den) : althingref05_Right k a0 = althingref05_Right.raw k a0 := by unfold althingref05_Right; rw [sealed_eq]
noncomputable def althingref05_Right.c5 (k : Nat) (b1 : Ty_api_Command.den) : Option Bool := runC Alg.std G_althingref04_Rights T Try.f37 althingref05_Right.cuts althingref05_Right.r 5 althingref05_Right.s5 k ((), b1, ())
noncomputable def althingref05_Right.c7 (k : Nat) (b1 : Ty_api_Command.den) : Option Bool := runC Alg.std G_althingref04_Rights T Try.f37 althingref05_Right.cuts althingref05_Right.r 7 althingref05_Right.s7 k ((), b1, ())
noncomputable def althingref05_Right.c11 (k : Nat) (x3 : List ByteArray) (x4 : Int) (b1 : Ty_api_Command.den) : Option Bool := runC Alg.std G_althingref04_Rights T Try.f37 althingref05_Right.cuts althingref05_Right.r 11 althingref05_Right.s11 k ((), x3, x4, b1, ())
noncomputable def althingref05_Right.c15 (k : Nat) (x3 : List ByteArray) (x4 : Int) (b1 : Ty_api_Command.den) : Option Bool := runC Alg.std G_althingref04_Rights T Try.f37 althingref05_Right.cuts althingref05_Right.r 15 althingref05_Right.s15 k ((), x3, x4, b1, ())
noncomputable def althingref05_Right.c18 (k : Nat) (x3 : List ByteArray) (x5 : List ByteArray) (x6 : Int) (b1 : Ty_api_Command.den) : Option Bool := runC Alg.std G_althingref04_Rights T Try.f37 althingref05_Right.cuts althingref05_Right.r 18 althingref05_Right.s18 k ((), x3, x5, x6, b1, ())
noncomputable def G_althingref05_Right (k : Nat) : Gam := ins 37 (.pu althingref05_Right.ps althingref05_Right.r (althingref05_Right k)) (G_althingref04_Rights k)
theorem ok_althingref05_Right : GOk Try.prog G_althingref05_Right := ok_althingref04_Rights.ins fun k => by rw [show althingref05_Right k = althingref05_Right.raw k from congrFun (sealed_eq althingref05_Right.raw) k]; exact runF_ok tabOk ok_althingref04_Rights mix Try.func37 Try.call37 althingref05_Right.cuts althingref05_Right.ps althingref05_Right.r (by rw [Try.ntmps37]; decide) k
def althingref03_Right.s2 : List CK := [.ptr 1 1 Ty_api_Deps, .tmp 3 Ty.i64, .box 1 Ty_api_Deps]
def althingref03_Right.cuts : List (Nat × List CK) := [(2, althingref03_Right.s2)]
abbrev althingref03_Right.ps : List PK := [.val Ty_api_Deps]
abbrev althingref03_Right.r : Ty := .bool
noncomputable def althingref03_Right.raw (k : Nat) (a0 : Ty_api_Deps.den) : Option Bool := runF Alg.std G_althingref05_Right T Try.f38 althingref03_Right.cuts althingref03_Right.ps althingref03_Right.r k a0
noncomputable def althingref03_Right (k : Nat) (a0 : Ty_api_Deps.den) : Option Bool := sealed althingref03_Right.raw k a0
theorem althingref03_Right_raw (k : Nat) (a0 : Ty_api_Deps.den) : althingref03_Right k a0 = althingref03_Right.raw k a0 := by unfold althingref03_Right; rw [sealed_eq]
noncomputable def althingref03_Right.c2 (k : Nat) (x3 : Int) (b1 : Ty_api_Deps.den) : Option Bool := runC Alg.std G_althingref05_Right T Try.f38 althingref03_Right.cuts althingref03_Right.r 2 althingref03_Right.s2 k ((), x3, b1, ())
noncomputable def G_althingref03_Right (k : Nat) : Gam := ins 38 (.pu althingref03_Right.ps althingref03_Right.r (althingref03_Right k)) (G_althingref05_Right k)
theorem ok_althingref03_Right : GOk Try.prog G_althingref03_Right := ok_althingref05_Right.ins fun k => by rw [show althingref03_Right k = althingref03_Right.raw k from congrFun (sealed_eq althingref03_Right.raw) k]; exact runF_ok tabOk ok_althingref05_Right mix Try.func38 Try.call38 althingref03_Right.cuts althingref03_Right.ps althingref03_Right.r (by rw [Try.ntmps38]; decide) k
def althingref07_RightRecord.s3 : List CK := [.ptr 1 1 Ty_api_Record, .box 1 Ty_api_Record]
def althingref07_RightRecord.cuts : List (Nat × List CK) := [(3, althingref07_RightRecord.s3)]
abbrev althingref07_RightRecord.ps : List PK := [.val Ty_api_Record]
abbrev althingref07_RightRecord.r : Ty := .bool
noncomputable def althingref07_RightRecord.raw (k : Nat) (a0 : Ty_api_Record.den) : Option Bool := runF Alg.std G_althingref03_Right T Try.f17 althingref07_RightRecord.cuts althingref07_RightRecord.ps althingref07_RightRecord.r k a0
noncomputable def althingref07_RightRecord (k : Nat) (a0 : Ty_api_Record.den) : Option Bool := sealed althingref07_RightRecord.raw k a0
theorem althingref07_RightRecord_raw (k : Nat) (a0 : Ty_api_Record.den) : althingref07_RightRecord k a0 = althingref07_RightRecord.raw k a0 := by unfold althingref07_RightRecord; rw [sealed_eq]
noncomputable def althingref07_RightRecord.c3 (k : Nat) (b1 : Ty_api_Record.den) : Option Bool := runC Alg.std G_althingref03_Right T Try.f17 althingref07_RightRecord.cuts althingref07_RightRecord.r 3 althingref07_RightRecord.s3 k ((), b1, ())
noncomputable def G_althingref07_RightRecord (k : Nat) : Gam := ins 17 (.pu althingref07_RightRecord.ps althingref07_RightRecord.r (althingref07_RightRecord k)) (G_althingref03_Right k)
theorem ok_althingref07_RightRecord : GOk Try.prog G_althingref07_RightRecord := ok_althingref03_Right.ins fun k => by rw [show althingref07_RightRecord k = althingref07_RightRecord.raw k from congrFun (sealed_eq althingref07_RightRecord.raw) k]; exact runF_ok tabOk ok_althingref03_Right mix Try.func17 Try.call17 althingref07_RightRecord.cuts althingref07_RightRecord.ps althingref07_RightRecord.r (by rw [Try.ntmps17]; decide) k
def althinglaw12_rights.s2 : List CK := [.tmp 5 (.sl 38 Ty_api_Record), .tmp 6 Ty.i64, .tmp 7 Ty.i64]
def althinglaw12_rights.cuts : List (Nat × List CK) := [(2, althinglaw12_rights.s2)]
abbrev althinglaw12_rights.ps : List PK := [.val (.sl 38 Ty_api_Record)]
abbrev althinglaw12_rights.r : Ty := .bool
noncomputable def althinglaw12_rights.raw (k : Nat) (a0 : List Ty_api_Record.den) : Option Bool := runF Alg.std G_althingref07_RightRecord T Try.f11 althinglaw12_rights.cuts althinglaw12_rights.ps althinglaw12_rights.r k a0
noncomputable def althinglaw12_rights (k : Nat) (a0 : List Ty_api_Record.den) : Option Bool := sealed althinglaw12_rights.raw k a0
theorem althinglaw12_rights_raw (k : Nat) (a0 : List Ty_api_Record.den) : althinglaw12_rights k a0 = althinglaw12_rights.raw k a0 := by unfold althinglaw12_rights; rw [sealed_eq]
noncomputable def althinglaw12_rights.c2 (k : Nat) (x5 : List Ty_api_Record.den) (x6 : Int) (x7 : Int) : Option Bool := runC Alg.std G_althingref07_RightRecord T Try.f11 althinglaw12_rights.cuts althinglaw12_rights.r 2 althinglaw12_rights.s2 k (x5, x6, x7, ())
noncomputable def G_althinglaw12_rights (k : Nat) : Gam := ins 11 (.pu althinglaw12_rights.ps althinglaw12_rights.r (althinglaw12_rights k)) (G_althingref07_RightRecord k)
theorem ok_althinglaw12_rights : GOk Try.prog G_althinglaw12_rights := ok_althingref07_RightRecord.ins fun k => by rw [show althinglaw12_rights k = althinglaw12_rights.raw k from congrFun (sealed_eq althinglaw12_rights.raw) k]; exact runF_ok tabOk ok_althingref07_RightRecord mix Try.func11 Try.call11 althinglaw12_rights.cuts althinglaw12_rights.ps althinglaw12_rights.r (by rw [Try.ntmps11]; decide) k
def wire_within.cuts : List (Nat × List CK) := []
abbrev wire_within.ps : List PK := [.val Ty.i64, .val Ty.i64, .val Ty.i64]
abbrev wire_within.r : Ty := .bool
noncomputable def wire_within.raw (k : Nat) (a0 : Int) (a1 : Int) (a2 : Int) : Option Bool := runF Alg.std G_althinglaw12_rights T Try.f43 wire_within.cuts wire_within.ps wire_within.r k a0 a1 a2
noncomputable def wire_within (k : Nat) (a0 : Int) (a1 : Int) (a2 : Int) : Option Bool := sealed wire_within.raw k a0 a1 a2
theorem wire_within_raw (k : Nat) (a0 : Int) (a1 : Int) (a2 : Int) : wire_within k a0 a1 a2 = wire_within.raw k a0 a1 a2 := by unfold wire_within; rw [sealed_eq]
noncomputable def G_wire_within (k : Nat) : Gam := ins 43 (.pu wire_within.ps wire_within.r (wire_within k)) (G_althinglaw12_rights k)
theorem ok_wire_within : GOk Try.prog G_wire_within := ok_althinglaw12_rights.ins fun k => by rw [show wire_within k = wire_within.raw k from congrFun (sealed_eq wire_within.raw) k]; exact runF_ok tabOk ok_althinglaw12_rights mix Try.func43 Try.call43 wire_within.cuts wire_within.ps wire_within.r (by rw [Try.ntmps43]; decide) k
def stamp_within_int.cuts : List (Nat × List CK) := []
abbrev stamp_within_int.ps : List PK := [.val Ty.i64, .val Ty.i64, .val Ty.i64]
abbrev stamp_within_int.r : Ty := .bool
noncomputable def stamp_within_int.raw (k : Nat) (a0 : Int) (a1 : Int) (a2 : Int) : Option Bool := runF Alg.std G_wire_within T Try.f61 stamp_within_int.cuts stamp_within_int.ps stamp_within_int.r k a0 a1 a2
noncomputable def stamp_within_int (k : Nat) (a0 : Int) (a1 : Int) (a2 : Int) : Option Bool := sealed stamp_within_int.raw k a0 a1 a2
theorem stamp_within_int_raw (k : Nat) (a0 : Int) (a1 : Int) (a2 : Int) : stamp_within_int k a0 a1 a2 = stamp_within_int.raw k a0 a1 a2 := by unfold stamp_within_int; rw [sealed_eq]
noncomputable def G_stamp_within_int (k : Nat) : Gam := ins 61 (.pu stamp_within_int.ps stamp_within_int.r (stamp_within_int k)) (G_wire_within k)
theorem ok_stamp_within_int : GOk Try.prog G_stamp_within_int := ok_wire_within.ins fun k => by rw [show stamp_within_int k = stamp_within_int.raw k from congrFun (sealed_eq stamp_within_int.raw) k]; exact runF_ok tabOk ok_wire_within mix Try.func61 Try.call61 stamp_within_int.cuts stamp_within_int.ps stamp_within_int.r (by rw [Try.ntmps61]; decide) k
def stamp_RightBallot.cuts : List (Nat × List CK) := []
abbrev stamp_RightBallot.ps : List PK := [.val Ty_api_Instance]
abbrev stamp_RightBallot.r : Ty := .bool
noncomputable def stamp_RightBallot.raw (k : Nat) (a0 : Ty_api_Instance.den) : Option Bool := runF Alg.std G_stamp_within_int T Try.f42 stamp_RightBallot.cuts stamp_RightBallot.ps stamp_RightBallot.r k a0
noncomputable def stamp_RightBallot (k : Nat) (a0 : Ty_api_Instance.den) : Option Bool := sealed stamp_RightBallot.raw k a0
theorem stamp_RightBallot_raw (k : Nat) (a0 : Ty_api_Instance.den) : stamp_RightBallot k a0 = stamp_RightBallot.raw k a0 := by unfold stamp_RightBallot; rw [sealed_eq]
noncomputable def G_stamp_RightBallot (k : Nat) : Gam := ins 42 (.pu stamp_RightBallot.ps stamp_RightBallot.r (stamp_RightBallot k)) (G_stamp_within_int k)
theorem ok_stamp_RightBallot : GOk Try.prog G_stamp_RightBallot := ok_stamp_within_int.ins fun k => by rw [show stamp_RightBallot k = stamp_RightBallot.raw k from congrFun (sealed_eq stamp_RightBallot.raw) k]; exact runF_ok tabOk ok_stamp_within_int mix Try.func42 Try.call42 stamp_RightBallot.cuts stamp_RightBallot.ps stamp_RightBallot.r (by rw [Try.ntmps42]; decide) k
def stamp_RightInst.cuts : List (Nat × List CK) := []
abbrev stamp_RightInst.ps : List PK := [.val Ty_api_Instance]
abbrev stamp_RightInst.r : Ty := .bool
noncomputable def stamp_RightInst.raw (k : Nat) (a0 : Ty_api_Instance.den) : Option Bool := runF Alg.std G_stamp_RightBallot T Try.f41 stamp_RightInst.cuts stamp_RightInst.ps stamp_RightInst.r k a0
noncomputable def stamp_RightInst (k : Nat) (a0 : Ty_api_Instance.den) : Option Bool := sealed stamp_RightInst.raw k a0
theorem stamp_RightInst_raw (k : Nat) (a0 : Ty_api_Instance.den) : stamp_RightInst k a0 = stamp_RightInst.raw k a0 := by unfold stamp_RightInst; rw [sealed_eq]
noncomputable def G_stamp_RightInst (k : Nat) : Gam := ins 41 (.pu stamp_RightInst.ps stamp_RightInst.r (stamp_RightInst k)) (G_stamp_RightBallot k)
theorem ok_stamp_RightInst : GOk Try.prog G_stamp_RightInst := ok_stamp_RightBallot.ins fun k => by rw [show stamp_RightInst k = stamp_RightInst.raw k from congrFun (sealed_eq stamp_RightInst.raw) k]; exact runF_ok tabOk ok_stamp_RightBallot mix Try.func41 Try.call41 stamp_RightInst.cuts stamp_RightInst.ps stamp_RightInst.r (by rw [Try.ntmps41]; decide) k
def stamp_order.s3 : List CK := [.tmp 0 Ty.i64, .tmp 1 Ty.i64, .tmp 2 Ty.i64, .tmp 3 Ty.i64]
def stamp_order.cuts : List (Nat × List CK) := [(3, stamp_order.s3)]
abbrev stamp_order.ps : List PK := [.val Ty.i64, .val Ty.i64, .val Ty.i64, .val Ty.i64]
abbrev stamp_order.r : Ty := Ty.i64
noncomputable def stamp_order.raw (k : Nat) (a0 : Int) (a1 : Int) (a2 : Int) (a3 : Int) : Option Int := runF Alg.std G_stamp_RightInst T Try.f53 stamp_order.cuts stamp_order.ps stamp_order.r k a0 a1 a2 a3
noncomputable def stamp_order (k : Nat) (a0 : Int) (a1 : Int) (a2 : Int) (a3 : Int) : Option Int := sealed stamp_order.raw k a0 a1 a2 a3
theorem stamp_order_raw (k : Nat) (a0 : Int) (a1 : Int) (a2 : Int) (a3 : Int) : stamp_order k a0 a1 a2 a3 = stamp_order.raw k a0 a1 a2 a3 := by unfold stamp_order; rw [sealed_eq]
noncomputable def stamp_order.c3 (k : Nat) (x0 : Int) (x1 : Int) (x2 : Int) (x3 : Int) : Option Int := runC Alg.std G_stamp_RightInst T Try.f53 stamp_order.cuts stamp_order.r 3 stamp_order.s3 k (x0, x1, x2, x3, ())
noncomputable def G_stamp_order (k : Nat) : Gam := ins 53 (.pu stamp_order.ps stamp_order.r (stamp_order k)) (G_stamp_RightInst k)
theorem ok_stamp_order : GOk Try.prog G_stamp_order := ok_stamp_RightInst.ins fun k => by rw [show stamp_order k = stamp_order.raw k from congrFun (sealed_eq stamp_order.raw) k]; exact runF_ok tabOk ok_stamp_RightInst mix Try.func53 Try.call53 stamp_order.cuts stamp_order.ps stamp_order.r (by rw [Try.ntmps53]; decide) k
def stamp_CompareBallots.cuts : List (Nat × List CK) := []
abbrev stamp_CompareBallots.ps : List PK := [.val Ty_api_Instance, .val Ty_api_Instance]
abbrev stamp_CompareBallots.r : Ty := Ty.i64
noncomputable def stamp_CompareBallots.raw (k : Nat) (a0 : Ty_api_Instance.den) (a1 : Ty_api_Instance.den) : Option Int := runF Alg.std G_stamp_order T Try.f29 stamp_CompareBallots.cuts stamp_CompareBallots.ps stamp_CompareBallots.r k a0 a1
noncomputable def stamp_CompareBallots (k : Nat) (a0 : Ty_api_Instance.den) (a1 : Ty_api_Instance.den) : Option Int := sealed stamp_CompareBallots.raw k a0 a1
theorem stamp_CompareBallots_raw (k : Nat) (a0 : Ty_api_Instance.den) (a1 : Ty_api_Instance.den) : stamp_CompareBallots k a0 a1 = stamp_CompareBallots.raw k a0 a1 := by unfold stamp_CompareBallots; rw [sealed_eq]
noncomputable def G_stamp_CompareBallots (k : Nat) : Gam := ins 29 (.pu stamp_CompareBallots.ps stamp_CompareBallots.r (stamp_CompareBallots k)) (G_stamp_order k)
theorem ok_stamp_CompareBallots : GOk Try.prog G_stamp_CompareBallots := ok_stamp_order.ins fun k => by rw [show stamp_CompareBallots k = stamp_CompareBallots.raw k from congrFun (sealed_eq stamp_CompareBallots.raw) k]; exact runF_ok tabOk ok_stamp_order mix Try.func29 Try.call29 stamp_CompareBallots.cuts stamp_CompareBallots.ps stamp_CompareBallots.r (by rw [Try.ntmps29]; decide) k
def slices_Equal_api_Read_api_Read.s4 : List CK := [.tmp 0 (.sl 79 Ty_api_Read), .tmp 1 (.sl 79 Ty_api_Read), .tmp 12 Ty.i64, .tmp 13 Ty.i64]
def slices_Equal_api_Read_api_Read.cuts : List (Nat × List CK) := [(4, slices_Equal_api_Read_api_Read.s4)]
abbrev slices_Equal_api_Read_api_Read.ps : List PK := [.val (.sl 79 Ty_api_Read), .val (.sl 79 Ty_api_Read)]
abbrev slices_Equal_api_Read_api_Read.r : Ty := .bool
noncomputable def slices_Equal_api_Read_api_Read.raw (k : Nat) (a0 : List Ty_api_Read.den) (a1 : List Ty_api_Read.den) : Option Bool := runF Alg.std G_stamp_CompareBallots T Try.f80 slices_Equal_api_Read_api_Read.cuts slices_Equal_api_Read_api_Read.ps slices_Equal_api_Read_api_Read.r k a0 a1
noncomputable def slices_Equal_api_Read_api_Read (k : Nat) (a0 : List Ty_api_Read.den) (a1 : List Ty_api_Read.den) : Option Bool := sealed slices_Equal_api_Read_api_Read.raw k a0 a1
theorem slices_Equal_api_Read_api_Read_raw (k : Nat) (a0 : List Ty_api_Read.den) (a1 : List Ty_api_Read.den) : slices_Equal_api_Read_api_Read k a0 a1 = slices_Equal_api_Read_api_Read.raw k a0 a1 := by unfold slices_Equal_api_Read_api_Read; rw [sealed_eq]
noncomputable def slices_Equal_api_Read_api_Read.c4 (k : Nat) (x0 : List Ty_api_Read.den) (x1 : List Ty_api_Read.den) (x12 : Int) (x13 : Int) : Option Bool := runC Alg.std G_stamp_CompareBallots T Try.f80 slices_Equal_api_Read_api_Read.cuts slices_Equal_api_Read_api_Read.r 4 slices_Equal_api_Read_api_Read.s4 k (x0, x1, x12, x13, ())
noncomputable def G_slices_Equal_api_Read_api_Read (k : Nat) : Gam := ins 80 (.pu slices_Equal_api_Read_api_Read.ps slices_Equal_api_Read_api_Read.r (slices_Equal_api_Read_api_Read k)) (G_stamp_CompareBallots k)
theorem ok_slices_Equal_api_Read_api_Read : GOk Try.prog G_slices_Equal_api_Read_api_Read := ok_stamp_CompareBallots.ins fun k => by rw [show slices_Equal_api_Read_api_Read k = slices_Equal_api_Read_api_Read.raw k from congrFun (sealed_eq slices_Equal_api_Read_api_Read.raw) k]; exact runF_ok tabOk ok_stamp_CompareBallots mix Try.func80 Try.call80 slices_Equal_api_Read_api_Read.cuts slices_Equal_api_Read_api_Read.ps slices_Equal_api_Read_api_Read.r (by rw [Try.ntmps80]; decide) k
def slices_Equal_api_Write_api_Write.s4 : List CK := [.tmp 0 (.sl 81 Ty_api_Write), .tmp 1 (.sl 81 Ty_api_Write), .tmp 12 Ty.i64, .tmp 13 Ty.i64]
def slices_Equal_api_Write_api_Write.cuts : List (Nat × List CK) := [(4, slices_Equal_api_Write_api_Write.s4)]
abbrev slices_Equal_api_Write_api_Write.ps : List PK := [.val (.sl 81 Ty_api_Write), .val (.sl 81 Ty_api_Write)]
abbrev slices_Equal_api_Write_api_Write.r : Ty := .bool
noncomputable def slices_Equal_api_Write_api_Write.raw (k : Nat) (a0 : List Ty_api_Write.den) (a1 : List Ty_api_Write.den) : Option Bool := runF Alg.std G_slices_Equal_api_Read_api_Read T Try.f81 slices_Equal_api_Write_api_Write.cuts slices_Equal_api_Write_api_Write.ps slices_Equal_api_Write_api_Write.r k a0 a1
noncomputable def slices_Equal_api_Write_api_Write (k : Nat) (a0 : List Ty_api_Write.den) (a1 : List Ty_api_Write.den) : Option Bool := sealed slices_Equal_api_Write_api_Write.raw k a0 a1
theorem slices_Equal_api_Write_api_Write_raw (k : Nat) (a0 : List Ty_api_Write.den) (a1 : List Ty_api_Write.den) : slices_Equal_api_Write_api_Write k a0 a1 = slices_Equal_api_Write_api_Write.raw k a0 a1 := by unfold slices_Equal_api_Write_api_Write; rw [sealed_eq]
noncomputable def slices_Equal_api_Write_api_Write.c4 (k : Nat) (x0 : List Ty_api_Write.den) (x1 : List Ty_api_Write.den) (x12 : Int) (x13 : Int) : Option Bool := runC Alg.std G_slices_Equal_api_Read_api_Read T Try.f81 slices_Equal_api_Write_api_Write.cuts slices_Equal_api_Write_api_Write.r 4 slices_Equal_api_Write_api_Write.s4 k (x0, x1, x12, x13, ())
noncomputable def G_slices_Equal_api_Write_api_Write (k : Nat) : Gam := ins 81 (.pu slices_Equal_api_Write_api_Write.ps slices_Equal_api_Write_api_Write.r (slices_Equal_api_Write_api_Write k)) (G_slices_Equal_api_Read_api_Read k)
theorem ok_slices_Equal_api_Write_api_Write : GOk Try.prog G_slices_Equal_api_Write_api_Write := ok_slices_Equal_api_Read_api_Read.ins fun k => by rw [show slices_Equal_api_Write_api_Write k = slices_Equal_api_Write_api_Write.raw k from congrFun (sealed_eq slices_Equal_api_Write_api_Write.raw) k]; exact runF_ok tabOk ok_slices_Equal_api_Read_api_Read mix Try.func81 Try.call81 slices_Equal_api_Write_api_Write.cuts slices_Equal_api_Write_api_Write.ps slices_Equal_api_Write_api_Write.r (by rw [Try.ntmps81]; decide) k
def command_Same.cuts : List (Nat × List CK) := []
abbrev command_Same.ps : List PK := [.val Ty_api_Command, .val Ty_api_Command]
abbrev command_Same.r : Ty := .bool
noncomputable def command_Same.raw (k : Nat) (a0 : Ty_api_Command.den) (a1 : Ty_api_Command.den) : Option Bool := runF Alg.std G_slices_Equal_api_Write_api_Write T Try.f62 command_Same.cuts command_Same.ps command_Same.r k a0 a1
noncomputable def command_Same (k : Nat) (a0 : Ty_api_Command.den) (a1 : Ty_api_Command.den) : Option Bool := sealed command_Same.raw k a0 a1
theorem command_Same_raw (k : Nat) (a0 : Ty_api_Command.den) (a1 : Ty_api_Command.den) : command_Same k a0 a1 = command_Same.raw k a0 a1 := by unfold command_Same; rw [sealed_eq]
noncomputable def G_command_Same (k : Nat) : Gam := ins 62 (.pu command_Same.ps command_Same.r (command_Same k)) (G_slices_Equal_api_Write_api_Write k)
theorem ok_command_Same : GOk Try.prog G_command_Same := ok_slices_Equal_api_Write_api_Write.ins fun k => by rw [show command_Same k = command_Same.raw k from congrFun (sealed_eq command_Same.raw) k]; exact runF_ok tabOk ok_slices_Equal_api_Write_api_Write mix Try.func62 Try.call62 command_Same.cuts command_Same.ps command_Same.r (by rw [Try.ntmps62]; decide) k
def wire_SameRecord.cuts : List (Nat × List CK) := []
abbrev wire_SameRecord.ps : List PK := [.val Ty_api_Record, .val Ty_api_Record]
abbrev wire_SameRecord.r : Ty := .bool
noncomputable def wire_SameRecord.raw (k : Nat) (a0 : Ty_api_Record.den) (a1 : Ty_api_Record.den) : Option Bool := runF Alg.std G_command_Same T Try.f44 wire_SameRecord.cuts wire_SameRecord.ps wire_SameRecord.r k a0 a1
noncomputable def wire_SameRecord (k : Nat) (a0 : Ty_api_Record.den) (a1 : Ty_api_Record.den) : Option Bool := sealed wire_SameRecord.raw k a0 a1
theorem wire_SameRecord_raw (k : Nat) (a0 : Ty_api_Record.den) (a1 : Ty_api_Record.den) : wire_SameRecord k a0 a1 = wire_SameRecord.raw k a0 a1 := by unfold wire_SameRecord; rw [sealed_eq]
noncomputable def G_wire_SameRecord (k : Nat) : Gam := ins 44 (.pu wire_SameRecord.ps wire_SameRecord.r (wire_SameRecord k)) (G_command_Same k)
theorem ok_wire_SameRecord : GOk Try.prog G_wire_SameRecord := ok_command_Same.ins fun k => by rw [show wire_SameRecord k = wire_SameRecord.raw k from congrFun (sealed_eq wire_SameRecord.raw) k]; exact runF_ok tabOk ok_command_Same mix Try.func44 Try.call44 wire_SameRecord.cuts wire_SameRecord.ps wire_SameRecord.r (by rw [Try.ntmps44]; decide) k
def stamp_RightTxn.cuts : List (Nat × List CK) := []
abbrev stamp_RightTxn.ps : List PK := [.val Ty_api_Instance]
abbrev stamp_RightTxn.r : Ty := .bool
noncomputable def stamp_RightTxn.raw (k : Nat) (a0 : Ty_api_Instance.den) : Option Bool := runF Alg.std G_wire_SameRecord T Try.f63 stamp_RightTxn.cuts stamp_RightTxn.ps stamp_RightTxn.r k a0
noncomputable def stamp_RightTxn (k : Nat) (a0 : Ty_api_Instance.den) : Option Bool := sealed stamp_RightTxn.raw k a0
theorem stamp_RightTxn_raw (k : Nat) (a0 : Ty_api_Instance.den) : stamp_RightTxn k a0 = stamp_RightTxn.raw k a0 := by unfold stamp_RightTxn; rw [sealed_eq]
noncomputable def G_stamp_RightTxn (k : Nat) : Gam := ins 63 (.pu stamp_RightTxn.ps stamp_RightTxn.r (stamp_RightTxn k)) (G_wire_SameRecord k)
theorem ok_stamp_RightTxn : GOk Try.prog G_stamp_RightTxn := ok_wire_SameRecord.ins fun k => by rw [show stamp_RightTxn k = stamp_RightTxn.raw k from congrFun (sealed_eq stamp_RightTxn.raw) k]; exact runF_ok tabOk ok_wire_SameRecord mix Try.func63 Try.call63 stamp_RightTxn.cuts stamp_RightTxn.ps stamp_RightTxn.r (by rw [Try.ntmps63]; decide) k
def stamp_RightStamp.cuts : List (Nat × List CK) := []
abbrev stamp_RightStamp.ps : List PK := [.val Ty_api_Instance]
abbrev stamp_RightStamp.r : Ty := .bool
noncomputable def stamp_RightStamp.raw (k : Nat) (a0 : Ty_api_Instance.den) : Option Bool := runF Alg.std G_stamp_RightTxn T Try.f64 stamp_RightStamp.cuts stamp_RightStamp.ps stamp_RightStamp.r k a0
noncomputable def stamp_RightStamp (k : Nat) (a0 : Ty_api_Instance.den) : Option Bool := sealed stamp_RightStamp.raw k a0
theorem stamp_RightStamp_raw (k : Nat) (a0 : Ty_api_Instance.den) : stamp_RightStamp k a0 = stamp_RightStamp.raw k a0 := by unfold stamp_RightStamp; rw [sealed_eq]
noncomputable def G_stamp_RightStamp (k : Nat) : Gam := ins 64 (.pu stamp_RightStamp.ps stamp_RightStamp.r (stamp_RightStamp k)) (G_stamp_RightTxn k)
theorem ok_stamp_RightStamp : GOk Try.prog G_stamp_RightStamp := ok_stamp_RightTxn.ins fun k => by rw [show stamp_RightStamp k = stamp_RightStamp.raw k from congrFun (sealed_eq stamp_RightStamp.raw) k]; exact runF_ok tabOk ok_stamp_RightTxn mix Try.func64 Try.call64 stamp_RightStamp.cuts stamp_RightStamp.ps stamp_RightStamp.r (by rw [Try.ntmps64]; decide) k
def stamp_CompareStamps.cuts : List (Nat × List CK) := []
abbrev stamp_CompareStamps.ps : List PK := [.val Ty_api_Instance, .val Ty_api_Instance]
abbrev stamp_CompareStamps.r : Ty := Ty.i64
noncomputable def stamp_CompareStamps.raw (k : Nat) (a0 : Ty_api_Instance.den) (a1 : Ty_api_Instance.den) : Option Int := runF Alg.std G_stamp_RightStamp T Try.f66 stamp_CompareStamps.cuts stamp_CompareStamps.ps stamp_CompareStamps.r k a0 a1
noncomputable def stamp_CompareStamps (k : Nat) (a0 : Ty_api_Instance.den) (a1 : Ty_api_Instance.den) : Option Int := sealed stamp_CompareStamps.raw k a0 a1
theorem stamp_CompareStamps_raw (k : Nat) (a0 : Ty_api_Instance.den) (a1 : Ty_api_Instance.den) : stamp_CompareStamps k a0 a1 = stamp_CompareStamps.raw k a0 a1 := by unfold stamp_CompareStamps; rw [sealed_eq]
noncomputable def G_stamp_CompareStamps (k : Nat) : Gam := ins 66 (.pu stamp_CompareStamps.ps stamp_CompareStamps.r (stamp_CompareStamps k)) (G_stamp_RightStamp k)
theorem ok_stamp_CompareStamps : GOk Try.prog G_stamp_CompareStamps := ok_stamp_RightStamp.ins fun k => by rw [show stamp_CompareStamps k = stamp_CompareStamps.raw k from congrFun (sealed_eq stamp_CompareStamps.raw) k]; exact runF_ok tabOk ok_stamp_RightStamp mix Try.func66 Try.call66 stamp_CompareStamps.cuts stamp_CompareStamps.ps stamp_CompareStamps.r (by rw [Try.ntmps66]; decide) k
def command_Right_1.cuts : List (Nat × List CK) := []
abbrev command_Right_1.ps : List PK := [.val Ty_api_Read, .ro Ty_api_Command]
abbrev command_Right_1.r : Ty := .bool
noncomputable def command_Right_1.raw (k : Nat) (a0 : Ty_api_Read.den) (a1 : Ty_api_Command.den) : Option Bool := runF Alg.std G_stamp_CompareStamps T Try.f65 command_Right_1.cuts command_Right_1.ps command_Right_1.r k a0 a1
noncomputable def command_Right_1 (k : Nat) (a0 : Ty_api_Read.den) (a1 : Ty_api_Command.den) : Option Bool := sealed command_Right_1.raw k a0 a1
theorem command_Right_1_raw (k : Nat) (a0 : Ty_api_Read.den) (a1 : Ty_api_Command.den) : command_Right_1 k a0 a1 = command_Right_1.raw k a0 a1 := by unfold command_Right_1; rw [sealed_eq]
noncomputable def G_command_Right_1 (k : Nat) : Gam := ins 65 (.pu command_Right_1.ps command_Right_1.r (command_Right_1 k)) (G_stamp_CompareStamps k)
theorem ok_command_Right_1 : GOk Try.prog G_command_Right_1 := ok_stamp_CompareStamps.ins fun k => by rw [show command_Right_1 k = command_Right_1.raw k from congrFun (sealed_eq command_Right_1.raw) k]; exact runF_ok tabOk ok_stamp_CompareStamps mix Try.func65 Try.call65 command_Right_1.cuts command_Right_1.ps command_Right_1.r (by rw [Try.ntmps65]; decide) k
def keys_Right.cuts : List (Nat × List CK) := []
abbrev keys_Right.ps : List PK := [.val .str]
abbrev keys_Right.r : Ty := .bool
noncomputable def keys_Right.raw (k : Nat) (a0 : ByteArray) : Option Bool := runF Alg.std G_command_Right_1 T Try.f82 keys_Right.cuts keys_Right.ps keys_Right.r k a0
noncomputable def keys_Right (k : Nat) (a0 : ByteArray) : Option Bool := sealed keys_Right.raw k a0
theorem keys_Right_raw (k : Nat) (a0 : ByteArray) : keys_Right k a0 = keys_Right.raw k a0 := by unfold keys_Right; rw [sealed_eq]
noncomputable def G_keys_Right (k : Nat) : Gam := ins 82 (.pu keys_Right.ps keys_Right.r (keys_Right k)) (G_command_Right_1 k)
theorem ok_keys_Right : GOk Try.prog G_keys_Right := ok_command_Right_1.ins fun k => by rw [show keys_Right k = keys_Right.raw k from congrFun (sealed_eq keys_Right.raw) k]; exact runF_ok tabOk ok_command_Right_1 mix Try.func82 Try.call82 keys_Right.cuts keys_Right.ps keys_Right.r (by rw [Try.ntmps82]; decide) k
def keys_Rights.s2 : List CK := [.tmp 0 (.sl 9 .str), .tmp 5 (.sl 9 .str), .tmp 6 Ty.i64, .tmp 7 Ty.i64]
def keys_Rights.cuts : List (Nat × List CK) := [(2, keys_Rights.s2)]
abbrev keys_Rights.ps : List PK := [.val (.sl 9 .str)]
abbrev keys_Rights.r : Ty := .bool
noncomputable def keys_Rights.raw (k : Nat) (a0 : List ByteArray) : Option Bool := runF Alg.std G_keys_Right T Try.f67 keys_Rights.cuts keys_Rights.ps keys_Rights.r k a0
noncomputable def keys_Rights (k : Nat) (a0 : List ByteArray) : Option Bool := sealed keys_Rights.raw k a0
theorem keys_Rights_raw (k : Nat) (a0 : List ByteArray) : keys_Rights k a0 = keys_Rights.raw k a0 := by unfold keys_Rights; rw [sealed_eq]
noncomputable def keys_Rights.c2 (k : Nat) (x0 : List ByteArray) (x5 : List ByteArray) (x6 : Int) (x7 : Int) : Option Bool := runC Alg.std G_keys_Right T Try.f67 keys_Rights.cuts keys_Rights.r 2 keys_Rights.s2 k (x0, x5, x6, x7, ())
noncomputable def G_keys_Rights (k : Nat) : Gam := ins 67 (.pu keys_Rights.ps keys_Rights.r (keys_Rights k)) (G_keys_Right k)
theorem ok_keys_Rights : GOk Try.prog G_keys_Rights := ok_keys_Right.ins fun k => by rw [show keys_Rights k = keys_Rights.raw k from congrFun (sealed_eq keys_Rights.raw) k]; exact runF_ok tabOk ok_keys_Right mix Try.func67 Try.call67 keys_Rights.cuts keys_Rights.ps keys_Rights.r (by rw [Try.ntmps67]; decide) k
def command_Right.s7 : List CK := [.ptr 1 1 Ty_api_Command, .box 1 Ty_api_Command]
def command_Right.s9 : List CK := [.ptr 1 1 Ty_api_Command, .box 1 Ty_api_Command]
def command_Right.s11 : List CK := [.ptr 1 1 Ty_api_Command, .clo 3 65 [.ptr 1 Ty_api_Command], .tmp 74 (.sl 79 Ty_api_Read), .tmp 75 Ty.i64, .tmp 76 Ty.i64, .box 1 Ty_api_Command]
def command_Right.s17 : List CK := [.ptr 1 1 Ty_api_Command, .tmp 86 (.sl 81 Ty_api_Write), .tmp 87 Ty.i64, .tmp 88 Ty.i64, .box 1 Ty_api_Command]
def command_Right.cuts : List (Nat × List CK) := [(7, command_Right.s7), (9, command_Right.s9), (11, command_Right.s11), (17, command_Right.s17)]
abbrev command_Right.ps : List PK := [.val Ty_api_Command]
abbrev command_Right.r : Ty := .bool
noncomputable def command_Right.raw (k : Nat) (a0 : Ty_api_Command.den) : Option Bool := runF Alg.std G_keys_Rights T Try.f45 command_Right.cuts command_Right.ps command_Right.r k a0
noncomputable def command_Right (k : Nat) (a0 : Ty_api_Command.den) : Option Bool := sealed command_Right.raw k a0
theorem command_Right_raw (k : Nat) (a0 : Ty_api_Command.den) : command_Right k a0 = command_Right.raw k a0 := by unfold command_Right; rw [sealed_eq]
noncomputable def command_Right.c7 (k : Nat) (b1 : Ty_api_Command.den) : Option Bool := runC Alg.std G_keys_Rights T Try.f45 command_Right.cuts command_Right.r 7 command_Right.s7 k ((), b1, ())
noncomputable def command_Right.c9 (k : Nat) (b1 : Ty_api_Command.den) : Option Bool := runC Alg.std G_keys_Rights T Try.f45 command_Right.cuts command_Right.r 9 command_Right.s9 k ((), b1, ())
noncomputable def command_Right.c11 (k : Nat) (x74 : List Ty_api_Read.den) (x75 : Int) (x76 : Int) (b1 : Ty_api_Command.den) : Option Bool := runC Alg.std G_keys_Rights T Try.f45 command_Right.cuts command_Right.r 11 command_Right.s11 k ((), (), x74, x75, x76, b1, ())
noncomputable def command_Right.c17 (k : Nat) (x86 : List Ty_api_Write.den) (x87 : Int) (x88 : Int) (b1 : Ty_api_Command.den) : Option Bool := runC Alg.std G_keys_Rights T Try.f45 command_Right.cuts command_Right.r 17 command_Right.s17 k ((), x86, x87, x88, b1, ())
noncomputable def G_command_Right (k : Nat) : Gam := ins 45 (.pu command_Right.ps command_Right.r (command_Right k)) (G_keys_Rights k)
theorem ok_command_Right : GOk Try.prog G_command_Right := ok_keys_Rights.ins fun k => by rw [show command_Right k = command_Right.raw k from congrFun (sealed_eq command_Right.raw) k]; exact runF_ok tabOk ok_keys_Rights mix Try.func45 Try.call45 command_Right.cuts command_Right.ps command_Right.r (by rw [Try.ntmps45]; decide) k
def deps_Right.s2 : List CK := [.tmp 5 Ty_api_Deps, .tmp 6 Ty.i64]
def deps_Right.cuts : List (Nat × List CK) := [(2, deps_Right.s2)]
abbrev deps_Right.ps : List PK := [.val Ty_api_Deps]
abbrev deps_Right.r : Ty := .bool
noncomputable def deps_Right.raw (k : Nat) (a0 : Ty_api_Deps.den) : Option Bool := runF Alg.std G_command_Right T Try.f46 deps_Right.cuts deps_Right.ps deps_Right.r k a0
noncomputable def deps_Right (k : Nat) (a0 : Ty_api_Deps.den) : Option Bool := sealed deps_Right.raw k a0
theorem deps_Right_raw (k : Nat) (a0 : Ty_api_Deps.den) : deps_Right k a0 = deps_Right.raw k a0 := by unfold deps_Right; rw [sealed_eq]
noncomputable def deps_Right.c2 (k : Nat) (x5 : Ty_api_Deps.den) (x6 : Int) : Option Bool := runC Alg.std G_command_Right T Try.f46 deps_Right.cuts deps_Right.r 2 deps_Right.s2 k (x5, x6, ())
noncomputable def G_deps_Right (k : Nat) : Gam := ins 46 (.pu deps_Right.ps deps_Right.r (deps_Right k)) (G_command_Right k)
theorem ok_deps_Right : GOk Try.prog G_deps_Right := ok_command_Right.ins fun k => by rw [show deps_Right k = deps_Right.raw k from congrFun (sealed_eq deps_Right.raw) k]; exact runF_ok tabOk ok_command_Right mix Try.func46 Try.call46 deps_Right.cuts deps_Right.ps deps_Right.r (by rw [Try.ntmps46]; decide) k
def wire_RightRecord.s3 : List CK := [.ptr 1 1 Ty_api_Record, .box 1 Ty_api_Record]
def wire_RightRecord.cuts : List (Nat × List CK) := [(3, wire_RightRecord.s3)]
abbrev wire_RightRecord.ps : List PK := [.val Ty_api_Record]
abbrev wire_RightRecord.r : Ty := .bool
noncomputable def wire_RightRecord.raw (k : Nat) (a0 : Ty_api_Record.den) : Option Bool := runF Alg.std G_deps_Right T Try.f22 wire_RightRecord.cuts wire_RightRecord.ps wire_RightRecord.r k a0
noncomputable def wire_RightRecord (k : Nat) (a0 : Ty_api_Record.den) : Option Bool := sealed wire_RightRecord.raw k a0
theorem wire_RightRecord_raw (k : Nat) (a0 : Ty_api_Record.den) : wire_RightRecord k a0 = wire_RightRecord.raw k a0 := by unfold wire_RightRecord; rw [sealed_eq]
noncomputable def wire_RightRecord.c3 (k : Nat) (b1 : Ty_api_Record.den) : Option Bool := runC Alg.std G_deps_Right T Try.f22 wire_RightRecord.cuts wire_RightRecord.r 3 wire_RightRecord.s3 k ((), b1, ())
noncomputable def G_wire_RightRecord (k : Nat) : Gam := ins 22 (.pu wire_RightRecord.ps wire_RightRecord.r (wire_RightRecord k)) (G_deps_Right k)
theorem ok_wire_RightRecord : GOk Try.prog G_wire_RightRecord := ok_deps_Right.ins fun k => by rw [show wire_RightRecord k = wire_RightRecord.raw k from congrFun (sealed_eq wire_RightRecord.raw) k]; exact runF_ok tabOk ok_deps_Right mix Try.func22 Try.call22 wire_RightRecord.cuts wire_RightRecord.ps wire_RightRecord.r (by rw [Try.ntmps22]; decide) k
def wire_RightMessage.cuts : List (Nat × List CK) := []
abbrev wire_RightMessage.ps : List PK := [.val Ty_api_Message]
abbrev wire_RightMessage.r : Ty := .bool
noncomputable def wire_RightMessage.raw (k : Nat) (a0 : Ty_api_Message.den) : Option Bool := runF Alg.std G_wire_RightRecord T Try.f51 wire_RightMessage.cuts wire_RightMessage.ps wire_RightMessage.r k a0
noncomputable def wire_RightMessage (k : Nat) (a0 : Ty_api_Message.den) : Option Bool := sealed wire_RightMessage.raw k a0
theorem wire_RightMessage_raw (k : Nat) (a0 : Ty_api_Message.den) : wire_RightMessage k a0 = wire_RightMessage.raw k a0 := by unfold wire_RightMessage; rw [sealed_eq]
noncomputable def G_wire_RightMessage (k : Nat) : Gam := ins 51 (.pu wire_RightMessage.ps wire_RightMessage.r (wire_RightMessage k)) (G_wire_RightRecord k)
theorem ok_wire_RightMessage : GOk Try.prog G_wire_RightMessage := ok_wire_RightRecord.ins fun k => by rw [show wire_RightMessage k = wire_RightMessage.raw k from congrFun (sealed_eq wire_RightMessage.raw) k]; exact runF_ok tabOk ok_wire_RightRecord mix Try.func51 Try.call51 wire_RightMessage.cuts wire_RightMessage.ps wire_RightMessage.r (by rw [Try.ntmps51]; decide) k
def accept_question_1.cuts : List (Nat × List CK) := []
abbrev accept_question_1.ps : List PK := [.val Ty.i64, .ro Ty_api_Message]
abbrev accept_question_1.r : Ty := .bool
noncomputable def accept_question_1.raw (k : Nat) (a0 : Int) (a1 : Ty_api_Message.den) : Option Bool := runF Alg.std G_wire_RightMessage T Try.f52 accept_question_1.cuts accept_question_1.ps accept_question_1.r k a0 a1
noncomputable def accept_question_1 (k : Nat) (a0 : Int) (a1 : Ty_api_Message.den) : Option Bool := sealed accept_question_1.raw k a0 a1
theorem accept_question_1_raw (k : Nat) (a0 : Int) (a1 : Ty_api_Message.den) : accept_question_1 k a0 a1 = accept_question_1.raw k a0 a1 := by unfold accept_question_1; rw [sealed_eq]
noncomputable def G_accept_question_1 (k : Nat) : Gam := ins 52 (.pu accept_question_1.ps accept_question_1.r (accept_question_1 k)) (G_wire_RightMessage k)
theorem ok_accept_question_1 : GOk Try.prog G_accept_question_1 := ok_wire_RightMessage.ins fun k => by rw [show accept_question_1 k = accept_question_1.raw k from congrFun (sealed_eq accept_question_1.raw) k]; exact runF_ok tabOk ok_wire_RightMessage mix Try.func52 Try.call52 accept_question_1.cuts accept_question_1.ps accept_question_1.r (by rw [Try.ntmps52]; decide) k
def accept_question.s3 : List CK := [.ptr 3 3 Ty_api_Message, .box 3 Ty_api_Message]
def accept_question.cuts : List (Nat × List CK) := [(3, accept_question.s3)]
abbrev accept_question.ps : List PK := [.val Ty.i64, .val Ty_api_Message]
abbrev accept_question.r : Ty := .bool
noncomputable def accept_question.raw (k : Nat) (a0 : Int) (a1 : Ty_api_Message.den) : Option Bool := runF Alg.std G_accept_question_1 T Try.f28 accept_question.cuts accept_question.ps accept_question.r k a0 a1
noncomputable def accept_question (k : Nat) (a0 : Int) (a1 : Ty_api_Message.den) : Option Bool := sealed accept_question.raw k a0 a1
theorem accept_question_raw (k : Nat) (a0 : Int) (a1 : Ty_api_Message.den) : accept_question k a0 a1 = accept_question.raw k a0 a1 := by unfold accept_question; rw [sealed_eq]
noncomputable def accept_question.c3 (k : Nat) (b3 : Ty_api_Message.den) : Option Bool := runC Alg.std G_accept_question_1 T Try.f28 accept_question.cuts accept_question.r 3 accept_question.s3 k ((), b3, ())
noncomputable def G_accept_question (k : Nat) : Gam := ins 28 (.pu accept_question.ps accept_question.r (accept_question k)) (G_accept_question_1 k)
theorem ok_accept_question : GOk Try.prog G_accept_question := ok_accept_question_1.ins fun k => by rw [show accept_question k = accept_question.raw k from congrFun (sealed_eq accept_question.raw) k]; exact runF_ok tabOk ok_accept_question_1 mix Try.func28 Try.call28 accept_question.cuts accept_question.ps accept_question.r (by rw [Try.ntmps28]; decide) k
def accept_own.cuts : List (Nat × List CK) := []
abbrev accept_own.ps : List PK := [.val Ty_api_Record]
abbrev accept_own.r : Ty := Ty_api_Record
noncomputable def accept_own.raw (k : Nat) (a0 : Ty_api_Record.den) : Option Ty_api_Record.den := runF Alg.std G_accept_question T Try.f47 accept_own.cuts accept_own.ps accept_own.r k a0
noncomputable def accept_own (k : Nat) (a0 : Ty_api_Record.den) : Option Ty_api_Record.den := sealed accept_own.raw k a0
theorem accept_own_raw (k : Nat) (a0 : Ty_api_Record.den) : accept_own k a0 = accept_own.raw k a0 := by unfold accept_own; rw [sealed_eq]
noncomputable def G_accept_own (k : Nat) : Gam := ins 47 (.pu accept_own.ps accept_own.r (accept_own k)) (G_accept_question k)
theorem ok_accept_own : GOk Try.prog G_accept_own := ok_accept_question.ins fun k => by rw [show accept_own k = accept_own.raw k from congrFun (sealed_eq accept_own.raw) k]; exact runF_ok tabOk ok_accept_question mix Try.func47 Try.call47 accept_own.cuts accept_own.ps accept_own.r (by rw [Try.ntmps47]; decide) k
def accept_Know.s2 : List CK := [.tmp 0 (.sl 38 Ty_api_Record), .ptr 3 3 Ty_api_Instance, .ptr 4 4 Ty_api_Record, .tmp 5 Ty.i64, .box 3 Ty_api_Instance, .box 4 Ty_api_Record]
def accept_Know.cuts : List (Nat × List CK) := [(2, accept_Know.s2)]
abbrev accept_Know.ps : List PK := [.val (.sl 38 Ty_api_Record), .val Ty_api_Instance]
abbrev accept_Know.r : Ty := Ty_api_Record
noncomputable def accept_Know.raw (k : Nat) (a0 : List Ty_api_Record.den) (a1 : Ty_api_Instance.den) : Option Ty_api_Record.den := runF Alg.std G_accept_own T Try.f24 accept_Know.cuts accept_Know.ps accept_Know.r k a0 a1
noncomputable def accept_Know (k : Nat) (a0 : List Ty_api_Record.den) (a1 : Ty_api_Instance.den) : Option Ty_api_Record.den := sealed accept_Know.raw k a0 a1
theorem accept_Know_raw (k : Nat) (a0 : List Ty_api_Record.den) (a1 : Ty_api_Instance.den) : accept_Know k a0 a1 = accept_Know.raw k a0 a1 := by unfold accept_Know; rw [sealed_eq]
noncomputable def accept_Know.c2 (k : Nat) (x0 : List Ty_api_Record.den) (x5 : Int) (b3 : Ty_api_Instance.den) (b4 : Ty_api_Record.den) : Option Ty_api_Record.den := runC Alg.std G_accept_own T Try.f24 accept_Know.cuts accept_Know.r 2 accept_Know.s2 k (x0, (), (), x5, b3, b4, ())
noncomputable def G_accept_Know (k : Nat) : Gam := ins 24 (.pu accept_Know.ps accept_Know.r (accept_Know k)) (G_accept_own k)
theorem ok_accept_Know : GOk Try.prog G_accept_Know := ok_accept_own.ins fun k => by rw [show accept_Know k = accept_Know.raw k from congrFun (sealed_eq accept_Know.raw) k]; exact runF_ok tabOk ok_accept_own mix Try.func24 Try.call24 accept_Know.cuts accept_Know.ps accept_Know.r (by rw [Try.ntmps24]; decide) k
def accept_Step_keep.cuts : List (Nat × List CK) := []
abbrev accept_Step_keep.ps : List PK := [.val Ty_accept_Step, .val Ty_api_Record]
abbrev accept_Step_keep.r : Ty := Ty_accept_Step
noncomputable def accept_Step_keep.raw (k : Nat) (a0 : Ty_accept_Step.den) (a1 : Ty_api_Record.den) : Option Ty_accept_Step.den := runF Alg.std G_accept_Know T Try.f30 accept_Step_keep.cuts accept_Step_keep.ps accept_Step_keep.r k a0 a1
noncomputable def accept_Step_keep (k : Nat) (a0 : Ty_accept_Step.den) (a1 : Ty_api_Record.den) : Option Ty_accept_Step.den := sealed accept_Step_keep.raw k a0 a1
theorem accept_Step_keep_raw (k : Nat) (a0 : Ty_accept_Step.den) (a1 : Ty_api_Record.den) : accept_Step_keep k a0 a1 = accept_Step_keep.raw k a0 a1 := by unfold accept_Step_keep; rw [sealed_eq]
noncomputable def G_accept_Step_keep (k : Nat) : Gam := ins 30 (.pu accept_Step_keep.ps accept_Step_keep.r (accept_Step_keep k)) (G_accept_Know k)
theorem ok_accept_Step_keep : GOk Try.prog G_accept_Step_keep := ok_accept_Know.ins fun k => by rw [show accept_Step_keep k = accept_Step_keep.raw k from congrFun (sealed_eq accept_Step_keep.raw) k]; exact runF_ok tabOk ok_accept_Know mix Try.func30 Try.call30 accept_Step_keep.cuts accept_Step_keep.ps accept_Step_keep.r (by rw [Try.ntmps30]; decide) k
def accept_Step_tell.cuts : List (Nat × List CK) := []
abbrev accept_Step_tell.ps : List PK := [.val Ty_accept_Step, .val Ty_api_Message, .val Ty.i64, .val Ty_api_Instance, .val Ty_api_Record]
abbrev accept_Step_tell.r : Ty := Ty_accept_Step
noncomputable def accept_Step_tell.raw (k : Nat) (a0 : Ty_accept_Step.den) (a1 : Ty_api_Message.den) (a2 : Int) (a3 : Ty_api_Instance.den) (a4 : Ty_api_Record.den) : Option Ty_accept_Step.den := runF Alg.std G_accept_Step_keep T Try.f31 accept_Step_tell.cuts accept_Step_tell.ps accept_Step_tell.r k a0 a1 a2 a3 a4
noncomputable def accept_Step_tell (k : Nat) (a0 : Ty_accept_Step.den) (a1 : Ty_api_Message.den) (a2 : Int) (a3 : Ty_api_Instance.den) (a4 : Ty_api_Record.den) : Option Ty_accept_Step.den := sealed accept_Step_tell.raw k a0 a1 a2 a3 a4
theorem accept_Step_tell_raw (k : Nat) (a0 : Ty_accept_Step.den) (a1 : Ty_api_Message.den) (a2 : Int) (a3 : Ty_api_Instance.den) (a4 : Ty_api_Record.den) : accept_Step_tell k a0 a1 a2 a3 a4 = accept_Step_tell.raw k a0 a1 a2 a3 a4 := by unfold accept_Step_tell; rw [sealed_eq]
noncomputable def G_accept_Step_tell (k : Nat) : Gam := ins 31 (.pu accept_Step_tell.ps accept_Step_tell.r (accept_Step_tell k)) (G_accept_Step_keep k)
theorem ok_accept_Step_tell : GOk Try.prog G_accept_Step_tell := ok_accept_Step_keep.ins fun k => by rw [show accept_Step_tell k = accept_Step_tell.raw k from congrFun (sealed_eq accept_Step_tell.raw) k]; exact runF_ok tabOk ok_accept_Step_keep mix Try.func31 Try.call31 accept_Step_tell.cuts accept_Step_tell.ps accept_Step_tell.r (by rw [Try.ntmps31]; decide) k
noncomputable def G_index_Against (k : Nat) : Gam := ins 54 (index_Against.spec k) (G_accept_Step_tell k)
theorem ok_index_Against : GOk Try.prog G_index_Against := ok_accept_Step_tell.ins (index_Against.ok)
def deps_is.cuts : List (Nat × List CK) := []
abbrev deps_is.ps : List PK := [.val Ty_api_Instance]
abbrev deps_is.r : Ty := .bool
noncomputable def deps_is.raw (k : Nat) (a0 : Ty_api_Instance.den) : Option Bool := runF Alg.std G_index_Against T Try.f77 deps_is.cuts deps_is.ps deps_is.r k a0
noncomputable def deps_is (k : Nat) (a0 : Ty_api_Instance.den) : Option Bool := sealed deps_is.raw k a0
theorem deps_is_raw (k : Nat) (a0 : Ty_api_Instance.den) : deps_is k a0 = deps_is.raw k a0 := by unfold deps_is; rw [sealed_eq]
noncomputable def G_deps_is (k : Nat) : Gam := ins 77 (.pu deps_is.ps deps_is.r (deps_is k)) (G_index_Against k)
theorem ok_deps_is : GOk Try.prog G_deps_is := ok_index_Against.ins fun k => by rw [show deps_is k = deps_is.raw k from congrFun (sealed_eq deps_is.raw) k]; exact runF_ok tabOk ok_index_Against mix Try.func77 Try.call77 deps_is.cuts deps_is.ps deps_is.r (by rw [Try.ntmps77]; decide) k
def deps_With.cuts : List (Nat × List CK) := []
abbrev deps_With.ps : List PK := [.val Ty_api_Deps, .val Ty_api_Instance]
abbrev deps_With.r : Ty := Ty_api_Deps
noncomputable def deps_With.raw (k : Nat) (a0 : Ty_api_Deps.den) (a1 : Ty_api_Instance.den) : Option Ty_api_Deps.den := runF Alg.std G_deps_is T Try.f55 deps_With.cuts deps_With.ps deps_With.r k a0 a1
noncomputable def deps_With (k : Nat) (a0 : Ty_api_Deps.den) (a1 : Ty_api_Instance.den) : Option Ty_api_Deps.den := sealed deps_With.raw k a0 a1
theorem deps_With_raw (k : Nat) (a0 : Ty_api_Deps.den) (a1 : Ty_api_Instance.den) : deps_With k a0 a1 = deps_With.raw k a0 a1 := by unfold deps_With; rw [sealed_eq]
noncomputable def G_deps_With (k : Nat) : Gam := ins 55 (.pu deps_With.ps deps_With.r (deps_With k)) (G_deps_is k)
theorem ok_deps_With : GOk Try.prog G_deps_With := ok_deps_is.ins fun k => by rw [show deps_With k = deps_With.raw k from congrFun (sealed_eq deps_With.raw) k]; exact runF_ok tabOk ok_deps_is mix Try.func55 Try.call55 deps_With.cuts deps_With.ps deps_With.r (by rw [Try.ntmps55]; decide) k
def index_Attrs.s2 : List CK := [.tmp 3 Ty.i64, .ptr 9 9 Ty_api_Deps, .ptr 11 11 Ty_api_Deps, .tmp 17 (.sl 38 Ty_api_Record), .tmp 18 Ty.i64, .tmp 19 Ty.i64, .box 9 Ty_api_Deps, .box 11 Ty_api_Deps]
def index_Attrs.cuts : List (Nat × List CK) := [(2, index_Attrs.s2)]
abbrev index_Attrs.ps : List PK := [.val (.sl 38 Ty_api_Record), .val Ty_api_Instance, .val Ty_api_Command, .val Ty.i64, .val Ty_api_Deps]
abbrev index_Attrs.r : Ty := (.tup (.pair Ty.i64 Ty_api_Deps))
noncomputable def index_Attrs.raw (k : Nat) (a0 : List Ty_api_Record.den) (a1 : Ty_api_Instance.den) (a2 : Ty_api_Command.den) (a3 : Int) (a4 : Ty_api_Deps.den) : Option (Int × Ty_api_Deps.den) := runF Alg.std G_deps_With T Try.f32 index_Attrs.cuts index_Attrs.ps index_Attrs.r k a0 a1 a2 a3 a4
noncomputable def index_Attrs (k : Nat) (a0 : List Ty_api_Record.den) (a1 : Ty_api_Instance.den) (a2 : Ty_api_Command.den) (a3 : Int) (a4 : Ty_api_Deps.den) : Option (Int × Ty_api_Deps.den) := sealed index_Attrs.raw k a0 a1 a2 a3 a4
theorem index_Attrs_raw (k : Nat) (a0 : List Ty_api_Record.den) (a1 : Ty_api_Instance.den) (a2 : Ty_api_Command.den) (a3 : Int) (a4 : Ty_api_Deps.den) : index_Attrs k a0 a1 a2 a3 a4 = index_Attrs.raw k a0 a1 a2 a3 a4 := by unfold index_Attrs; rw [sealed_eq]
noncomputable def index_Attrs.c2 (k : Nat) (x3 : Int) (x17 : List Ty_api_Record.den) (x18 : Int) (x19 : Int) (b9 : Ty_api_Deps.den) (b11 : Ty_api_Deps.den) : Option (Int × Ty_api_Deps.den) := runC Alg.std G_deps_With T Try.f32 index_Attrs.cuts index_Attrs.r 2 index_Attrs.s2 k (x3, (), (), x17, x18, x19, b9, b11, ())
noncomputable def G_index_Attrs (k : Nat) : Gam := ins 32 (.pu index_Attrs.ps index_Attrs.r (index_Attrs k)) (G_deps_With k)
theorem ok_index_Attrs : GOk Try.prog G_index_Attrs := ok_deps_With.ins fun k => by rw [show index_Attrs k = index_Attrs.raw k from congrFun (sealed_eq index_Attrs.raw) k]; exact runF_ok tabOk ok_deps_With mix Try.func32 Try.call32 index_Attrs.cuts index_Attrs.ps index_Attrs.r (by rw [Try.ntmps32]; decide) k
def accept_Handle.s9 : List CK := [.tmp 0 (.sl 38 Ty_api_Record), .ptr 5 5 Ty_api_Message, .ptr 6 6 Ty_accept_Step, .ptr 8 8 Ty_accept_Step, .ptr 9 9 Ty_api_Record, .ptr 10 10 Ty_api_Record, .tmp 11 .bool, .box 5 Ty_api_Message, .box 6 Ty_accept_Step, .box 8 Ty_accept_Step, .box 9 Ty_api_Record, .box 10 Ty_api_Record]
def accept_Handle.s19 : List CK := [.ptr 5 5 Ty_api_Message, .ptr 6 6 Ty_accept_Step, .ptr 8 8 Ty_accept_Step, .ptr 9 9 Ty_api_Record, .box 5 Ty_api_Message, .box 6 Ty_accept_Step, .box 8 Ty_accept_Step, .box 9 Ty_api_Record]
def accept_Handle.s20 : List CK := [.tmp 0 (.sl 38 Ty_api_Record), .ptr 5 5 Ty_api_Message, .ptr 6 6 Ty_accept_Step, .ptr 8 8 Ty_accept_Step, .ptr 9 9 Ty_api_Record, .ptr 10 10 Ty_api_Record, .tmp 11 .bool, .box 5 Ty_api_Message, .box 6 Ty_accept_Step, .box 8 Ty_accept_Step, .box 9 Ty_api_Record, .box 10 Ty_api_Record]
def accept_Handle.s22 : List CK := [.tmp 0 (.sl 38 Ty_api_Record), .ptr 5 5 Ty_api_Message, .ptr 6 6 Ty_accept_Step, .ptr 8 8 Ty_accept_Step, .ptr 9 9 Ty_api_Record, .ptr 10 10 Ty_api_Record, .tmp 11 .bool, .box 5 Ty_api_Message, .box 6 Ty_accept_Step, .box 8 Ty_accept_Step, .box 9 Ty_api_Record, .box 10 Ty_api_Record]
def accept_Handle.s27 : List CK := [.ptr 5 5 Ty_api_Message, .ptr 6 6 Ty_accept_Step, .ptr 8 8 Ty_accept_Step, .ptr 9 9 Ty_api_Record, .box 5 Ty_api_Message, .box 6 Ty_accept_Step, .box 8 Ty_accept_Step, .box 9 Ty_api_Record]
def accept_Handle.s28 : List CK := [.ptr 5 5 Ty_api_Message, .ptr 6 6 Ty_accept_Step, .ptr 8 8 Ty_accept_Step, .ptr 9 9 Ty_api_Record, .ptr 10 10 Ty_api_Record, .box 5 Ty_api_Message, .box 6 Ty_accept_Step, .box 8 Ty_accept_Step, .box 9 Ty_api_Record, .box 10 Ty_api_Record]
def accept_Handle.s25 : List CK := [.ptr 5 5 Ty_api_Message, .ptr 6 6 Ty_accept_Step, .ptr 8 8 Ty_accept_Step, .ptr 10 10 Ty_api_Record, .box 5 Ty_api_Message, .box 6 Ty_accept_Step, .box 8 Ty_accept_Step, .box 10 Ty_api_Record]
def accept_Handle.s33 : List CK := [.ptr 5 5 Ty_api_Message, .ptr 6 6 Ty_accept_Step, .ptr 8 8 Ty_accept_Step, .ptr 9 9 Ty_api_Record, .box 5 Ty_api_Message, .box 6 Ty_accept_Step, .box 8 Ty_accept_Step, .box 9 Ty_api_Record]
def accept_Handle.cuts : List (Nat × List CK) := [(9, accept_Handle.s9), (19, accept_Handle.s19), (20, accept_Handle.s20), (22, accept_Handle.s22), (27, accept_Handle.s27), (28, accept_Handle.s28), (25, accept_Handle.s25), (33, accept_Handle.s33)]
abbrev accept_Handle.ps : List PK := [.val (.sl 38 Ty_api_Record), .val Ty.i64, .val Ty_api_Message]
abbrev accept_Handle.r : Ty := (.tup (.pair Ty_accept_Step Ty.i64))
noncomputable def accept_Handle.raw (k : Nat) (a0 : List Ty_api_Record.den) (a1 : Int) (a2 : Ty_api_Message.den) : Option (Ty_accept_Step.den × Int) := runF Alg.std G_index_Attrs T Try.f13 accept_Handle.cuts accept_Handle.ps accept_Handle.r k a0 a1 a2
noncomputable def accept_Handle (k : Nat) (a0 : List Ty_api_Record.den) (a1 : Int) (a2 : Ty_api_Message.den) : Option (Ty_accept_Step.den × Int) := sealed accept_Handle.raw k a0 a1 a2
theorem accept_Handle_raw (k : Nat) (a0 : List Ty_api_Record.den) (a1 : Int) (a2 : Ty_api_Message.den) : accept_Handle k a0 a1 a2 = accept_Handle.raw k a0 a1 a2 := by unfold accept_Handle; rw [sealed_eq]
noncomputable def accept_Handle.c9 (k : Nat) (x0 : List Ty_api_Record.den) (x11 : Bool) (b5 : Ty_api_Message.den) (b6 : Ty_accept_Step.den) (b8 : Ty_accept_Step.den) (b9 : Ty_api_Record.den) (b10 : Ty_api_Record.den) : Option (Ty_accept_Step.den × Int) := runC Alg.std G_index_Attrs T Try.f13 accept_Handle.cuts accept_Handle.r 9 accept_Handle.s9 k (x0, (), (), (), (), (), x11, b5, b6, b8, b9, b10, ())
noncomputable def accept_Handle.c19 (k : Nat) (b5 : Ty_api_Message.den) (b6 : Ty_accept_Step.den) (b8 : Ty_accept_Step.den) (b9 : Ty_api_Record.den) : Option (Ty_accept_Step.den × Int) := runC Alg.std G_index_Attrs T Try.f13 accept_Handle.cuts accept_Handle.r 19 accept_Handle.s19 k ((), (), (), (), b5, b6, b8, b9, ())
noncomputable def accept_Handle.c20 (k : Nat) (x0 : List Ty_api_Record.den) (x11 : Bool) (b5 : Ty_api_Message.den) (b6 : Ty_accept_Step.den) (b8 : Ty_accept_Step.den) (b9 : Ty_api_Record.den) (b10 : Ty_api_Record.den) : Option (Ty_accept_Step.den × Int) := runC Alg.std G_index_Attrs T Try.f13 accept_Handle.cuts accept_Handle.r 20 accept_Handle.s20 k (x0, (), (), (), (), (), x11, b5, b6, b8, b9, b10, ())
noncomputable def accept_Handle.c22 (k : Nat) (x0 : List Ty_api_Record.den) (x11 : Bool) (b5 : Ty_api_Message.den) (b6 : Ty_accept_Step.den) (b8 : Ty_accept_Step.den) (b9 : Ty_api_Record.den) (b10 : Ty_api_Record.den) : Option (Ty_accept_Step.den × Int) := runC Alg.std G_index_Attrs T Try.f13 accept_Handle.cuts accept_Handle.r 22 accept_Handle.s22 k (x0, (), (), (), (), (), x11, b5, b6, b8, b9, b10, ())
noncomputable def accept_Handle.c27 (k : Nat) (b5 : Ty_api_Message.den) (b6 : Ty_accept_Step.den) (b8 : Ty_accept_Step.den) (b9 : Ty_api_Record.den) : Option (Ty_accept_Step.den × Int) := runC Alg.std G_index_Attrs T Try.f13 accept_Handle.cuts accept_Handle.r 27 accept_Handle.s27 k ((), (), (), (), b5, b6, b8, b9, ())
noncomputable def accept_Handle.c28 (k : Nat) (b5 : Ty_api_Message.den) (b6 : Ty_accept_Step.den) (b8 : Ty_accept_Step.den) (b9 : Ty_api_Record.den) (b10 : Ty_api_Record.den) : Option (Ty_accept_Step.den × Int) := runC Alg.std G_index_Attrs T Try.f13 accept_Handle.cuts accept_Handle.r 28 accept_Handle.s28 k ((), (), (), (), (), b5, b6, b8, b9, b10, ())
noncomputable def accept_Handle.c25 (k : Nat) (b5 : Ty_api_Message.den) (b6 : Ty_accept_Step.den) (b8 : Ty_accept_Step.den) (b10 : Ty_api_Record.den) : Option (Ty_accept_Step.den × Int) := runC Alg.std G_index_Attrs T Try.f13 accept_Handle.cuts accept_Handle.r 25 accept_Handle.s25 k ((), (), (), (), b5, b6, b8, b10, ())
noncomputable def accept_Handle.c33 (k : Nat) (b5 : Ty_api_Message.den) (b6 : Ty_accept_Step.den) (b8 : Ty_accept_Step.den) (b9 : Ty_api_Record.den) : Option (Ty_accept_Step.den × Int) := runC Alg.std G_index_Attrs T Try.f13 accept_Handle.cuts accept_Handle.r 33 accept_Handle.s33 k ((), (), (), (), b5, b6, b8, b9, ())
noncomputable def G_accept_Handle (k : Nat) : Gam := ins 13 (.pu accept_Handle.ps accept_Handle.r (accept_Handle k)) (G_index_Attrs k)
theorem ok_accept_Handle : GOk Try.prog G_accept_Handle := ok_index_Attrs.ins fun k => by rw [show accept_Handle k = accept_Handle.raw k from congrFun (sealed_eq accept_Handle.raw) k]; exact runF_ok tabOk ok_index_Attrs mix Try.func13 Try.call13 accept_Handle.cuts accept_Handle.ps accept_Handle.r (by rw [Try.ntmps13]; decide) k
def althinglaw12_awake.cuts : List (Nat × List CK) := []
abbrev althinglaw12_awake.ps : List PK := []
abbrev althinglaw12_awake.r : Ty := .bool
noncomputable def althinglaw12_awake.raw (k : Nat) : Option Bool := runF Alg.std G_accept_Handle T Try.f12 althinglaw12_awake.cuts althinglaw12_awake.ps althinglaw12_awake.r k
noncomputable def althinglaw12_awake (k : Nat) : Option Bool := sealed althinglaw12_awake.raw k
theorem althinglaw12_awake_raw (k : Nat) : althinglaw12_awake k = althinglaw12_awake.raw k := by unfold althinglaw12_awake; rw [sealed_eq]
noncomputable def G_althinglaw12_awake (k : Nat) : Gam := ins 12 (.pu althinglaw12_awake.ps althinglaw12_awake.r (althinglaw12_awake k)) (G_accept_Handle k)
theorem ok_althinglaw12_awake : GOk Try.prog G_althinglaw12_awake := ok_accept_Handle.ins fun k => by rw [show althinglaw12_awake k = althinglaw12_awake.raw k from congrFun (sealed_eq althinglaw12_awake.raw) k]; exact runF_ok tabOk ok_accept_Handle mix Try.func12 Try.call12 althinglaw12_awake.cuts althinglaw12_awake.ps althinglaw12_awake.r (by rw [Try.ntmps12]; decide) k
def althingref07_Same.cuts : List (Nat × List CK) := []
abbrev althingref07_Same.ps : List PK := [.val Ty_api_Record, .val Ty_api_Record]
abbrev althingref07_Same.r : Ty := .bool
noncomputable def althingref07_Same.raw (k : Nat) (a0 : Ty_api_Record.den) (a1 : Ty_api_Record.den) : Option Bool := runF Alg.std G_althinglaw12_awake T Try.f23 althingref07_Same.cuts althingref07_Same.ps althingref07_Same.r k a0 a1
noncomputable def althingref07_Same (k : Nat) (a0 : Ty_api_Record.den) (a1 : Ty_api_Record.den) : Option Bool := sealed althingref07_Same.raw k a0 a1
theorem althingref07_Same_raw (k : Nat) (a0 : Ty_api_Record.den) (a1 : Ty_api_Record.den) : althingref07_Same k a0 a1 = althingref07_Same.raw k a0 a1 := by unfold althingref07_Same; rw [sealed_eq]
noncomputable def G_althingref07_Same (k : Nat) : Gam := ins 23 (.pu althingref07_Same.ps althingref07_Same.r (althingref07_Same k)) (G_althinglaw12_awake k)
theorem ok_althingref07_Same : GOk Try.prog G_althingref07_Same := ok_althinglaw12_awake.ins fun k => by rw [show althingref07_Same k = althingref07_Same.raw k from congrFun (sealed_eq althingref07_Same.raw) k]; exact runF_ok tabOk ok_althinglaw12_awake mix Try.func23 Try.call23 althingref07_Same.cuts althingref07_Same.ps althingref07_Same.r (by rw [Try.ntmps23]; decide) k
def althingref07_SameMessage.cuts : List (Nat × List CK) := []
abbrev althingref07_SameMessage.ps : List PK := [.val Ty_api_Message, .val Ty_api_Message]
abbrev althingref07_SameMessage.r : Ty := .bool
noncomputable def althingref07_SameMessage.raw (k : Nat) (a0 : Ty_api_Message.den) (a1 : Ty_api_Message.den) : Option Bool := runF Alg.std G_althingref07_Same T Try.f19 althingref07_SameMessage.cuts althingref07_SameMessage.ps althingref07_SameMessage.r k a0 a1
noncomputable def althingref07_SameMessage (k : Nat) (a0 : Ty_api_Message.den) (a1 : Ty_api_Message.den) : Option Bool := sealed althingref07_SameMessage.raw k a0 a1
theorem althingref07_SameMessage_raw (k : Nat) (a0 : Ty_api_Message.den) (a1 : Ty_api_Message.den) : althingref07_SameMessage k a0 a1 = althingref07_SameMessage.raw k a0 a1 := by unfold althingref07_SameMessage; rw [sealed_eq]
noncomputable def G_althingref07_SameMessage (k : Nat) : Gam := ins 19 (.pu althingref07_SameMessage.ps althingref07_SameMessage.r (althingref07_SameMessage k)) (G_althingref07_Same k)
theorem ok_althingref07_SameMessage : GOk Try.prog G_althingref07_SameMessage := ok_althingref07_Same.ins fun k => by rw [show althingref07_SameMessage k = althingref07_SameMessage.raw k from congrFun (sealed_eq althingref07_SameMessage.raw) k]; exact runF_ok tabOk ok_althingref07_Same mix Try.func19 Try.call19 althingref07_SameMessage.cuts althingref07_SameMessage.ps althingref07_SameMessage.r (by rw [Try.ntmps19]; decide) k
def althinglaw12_same.cuts : List (Nat × List CK) := []
abbrev althinglaw12_same.ps : List PK := [.val Ty_accept_Step, .val Ty_accept_Step]
abbrev althinglaw12_same.r : Ty := .bool
noncomputable def althinglaw12_same.raw (k : Nat) (a0 : Ty_accept_Step.den) (a1 : Ty_accept_Step.den) : Option Bool := runF Alg.std G_althingref07_SameMessage T Try.f14 althinglaw12_same.cuts althinglaw12_same.ps althinglaw12_same.r k a0 a1
noncomputable def althinglaw12_same (k : Nat) (a0 : Ty_accept_Step.den) (a1 : Ty_accept_Step.den) : Option Bool := sealed althinglaw12_same.raw k a0 a1
theorem althinglaw12_same_raw (k : Nat) (a0 : Ty_accept_Step.den) (a1 : Ty_accept_Step.den) : althinglaw12_same k a0 a1 = althinglaw12_same.raw k a0 a1 := by unfold althinglaw12_same; rw [sealed_eq]
noncomputable def G_althinglaw12_same (k : Nat) : Gam := ins 14 (.pu althinglaw12_same.ps althinglaw12_same.r (althinglaw12_same k)) (G_althingref07_SameMessage k)
theorem ok_althinglaw12_same : GOk Try.prog G_althinglaw12_same := ok_althingref07_SameMessage.ins fun k => by rw [show althinglaw12_same k = althinglaw12_same.raw k from congrFun (sealed_eq althinglaw12_same.raw) k]; exact runF_ok tabOk ok_althingref07_SameMessage mix Try.func14 Try.call14 althinglaw12_same.cuts althinglaw12_same.ps althinglaw12_same.r (by rw [Try.ntmps14]; decide) k
def althingref12_Know.s3 : List CK := [.tmp 0 (.sl 38 Ty_api_Record), .ptr 3 3 Ty_api_Instance, .ptr 4 4 Ty_api_Record, .ptr 5 5 Ty_api_Record, .tmp 6 Ty.i64, .box 3 Ty_api_Instance, .box 4 Ty_api_Record, .box 5 Ty_api_Record]
def althingref12_Know.cuts : List (Nat × List CK) := [(3, althingref12_Know.s3)]
abbrev althingref12_Know.ps : List PK := [.val (.sl 38 Ty_api_Record), .val Ty_api_Instance]
abbrev althingref12_Know.r : Ty := Ty_api_Record
noncomputable def althingref12_Know.raw (k : Nat) (a0 : List Ty_api_Record.den) (a1 : Ty_api_Instance.den) : Option Ty_api_Record.den := runF Alg.std G_althinglaw12_same T Try.f15 althingref12_Know.cuts althingref12_Know.ps althingref12_Know.r k a0 a1
noncomputable def althingref12_Know (k : Nat) (a0 : List Ty_api_Record.den) (a1 : Ty_api_Instance.den) : Option Ty_api_Record.den := sealed althingref12_Know.raw k a0 a1
theorem althingref12_Know_raw (k : Nat) (a0 : List Ty_api_Record.den) (a1 : Ty_api_Instance.den) : althingref12_Know k a0 a1 = althingref12_Know.raw k a0 a1 := by unfold althingref12_Know; rw [sealed_eq]
noncomputable def althingref12_Know.c3 (k : Nat) (x0 : List Ty_api_Record.den) (x6 : Int) (b3 : Ty_api_Instance.den) (b4 : Ty_api_Record.den) (b5 : Ty_api_Record.den) : Option Ty_api_Record.den := runC Alg.std G_althinglaw12_same T Try.f15 althingref12_Know.cuts althingref12_Know.r 3 althingref12_Know.s3 k (x0, (), (), (), x6, b3, b4, b5, ())
noncomputable def G_althingref12_Know (k : Nat) : Gam := ins 15 (.pu althingref12_Know.ps althingref12_Know.r (althingref12_Know k)) (G_althinglaw12_same k)
theorem ok_althingref12_Know : GOk Try.prog G_althingref12_Know := ok_althinglaw12_same.ins fun k => by rw [show althingref12_Know k = althingref12_Know.raw k from congrFun (sealed_eq althingref12_Know.raw) k]; exact runF_ok tabOk ok_althinglaw12_same mix Try.func15 Try.call15 althingref12_Know.cuts althingref12_Know.ps althingref12_Know.r (by rw [Try.ntmps15]; decide) k
def althingref07_RightMessage.cuts : List (Nat × List CK) := []
abbrev althingref07_RightMessage.ps : List PK := [.val Ty_api_Message]
abbrev althingref07_RightMessage.r : Ty := .bool
noncomputable def althingref07_RightMessage.raw (k : Nat) (a0 : Ty_api_Message.den) : Option Bool := runF Alg.std G_althingref12_Know T Try.f18 althingref07_RightMessage.cuts althingref07_RightMessage.ps althingref07_RightMessage.r k a0
noncomputable def althingref07_RightMessage (k : Nat) (a0 : Ty_api_Message.den) : Option Bool := sealed althingref07_RightMessage.raw k a0
theorem althingref07_RightMessage_raw (k : Nat) (a0 : Ty_api_Message.den) : althingref07_RightMessage k a0 = althingref07_RightMessage.raw k a0 := by unfold althingref07_RightMessage; rw [sealed_eq]
noncomputable def G_althingref07_RightMessage (k : Nat) : Gam := ins 18 (.pu althingref07_RightMessage.ps althingref07_RightMessage.r (althingref07_RightMessage k)) (G_althingref12_Know k)
theorem ok_althingref07_RightMessage : GOk Try.prog G_althingref07_RightMessage := ok_althingref12_Know.ins fun k => by rw [show althingref07_RightMessage k = althingref07_RightMessage.raw k from congrFun (sealed_eq althingref07_RightMessage.raw) k]; exact runF_ok tabOk ok_althingref12_Know mix Try.func18 Try.call18 althingref07_RightMessage.cuts althingref07_RightMessage.ps althingref07_RightMessage.r (by rw [Try.ntmps18]; decide) k
def althinglaw12_AcceptKeeps.s3 : List CK := [.tmp 0 (.sl 38 Ty_api_Record), .tmp 1 Ty.i64, .ptr 5 5 Ty_api_Message, .box 5 Ty_api_Message]
def althinglaw12_AcceptKeeps.s9 : List CK := [.tmp 1 Ty.i64, .ptr 5 5 Ty_api_Message, .ptr 7 7 Ty_accept_Step, .ptr 9 9 Ty_api_Record, .box 5 Ty_api_Message, .box 7 Ty_accept_Step, .box 9 Ty_api_Record]
def althinglaw12_AcceptKeeps.cuts : List (Nat × List CK) := [(3, althinglaw12_AcceptKeeps.s3), (9, althinglaw12_AcceptKeeps.s9)]
abbrev althinglaw12_AcceptKeeps.ps : List PK := [.val (.sl 38 Ty_api_Record), .val Ty.i64, .val Ty_api_Message]
abbrev althinglaw12_AcceptKeeps.r : Ty := .bool
noncomputable def althinglaw12_AcceptKeeps.raw (k : Nat) (a0 : List Ty_api_Record.den) (a1 : Int) (a2 : Ty_api_Message.den) : Option Bool := runF Alg.std G_althingref07_RightMessage T Try.f3 althinglaw12_AcceptKeeps.cuts althinglaw12_AcceptKeeps.ps althinglaw12_AcceptKeeps.r k a0 a1 a2
noncomputable def althinglaw12_AcceptKeeps (k : Nat) (a0 : List Ty_api_Record.den) (a1 : Int) (a2 : Ty_api_Message.den) : Option Bool := sealed althinglaw12_AcceptKeeps.raw k a0 a1 a2
theorem althinglaw12_AcceptKeeps_raw (k : Nat) (a0 : List Ty_api_Record.den) (a1 : Int) (a2 : Ty_api_Message.den) : althinglaw12_AcceptKeeps k a0 a1 a2 = althinglaw12_AcceptKeeps.raw k a0 a1 a2 := by unfold althinglaw12_AcceptKeeps; rw [sealed_eq]
noncomputable def althinglaw12_AcceptKeeps.c3 (k : Nat) (x0 : List Ty_api_Record.den) (x1 : Int) (b5 : Ty_api_Message.den) : Option Bool := runC Alg.std G_althingref07_RightMessage T Try.f3 althinglaw12_AcceptKeeps.cuts althinglaw12_AcceptKeeps.r 3 althinglaw12_AcceptKeeps.s3 k (x0, x1, (), b5, ())
noncomputable def althinglaw12_AcceptKeeps.c9 (k : Nat) (x1 : Int) (b5 : Ty_api_Message.den) (b7 : Ty_accept_Step.den) (b9 : Ty_api_Record.den) : Option Bool := runC Alg.std G_althingref07_RightMessage T Try.f3 althinglaw12_AcceptKeeps.cuts althinglaw12_AcceptKeeps.r 9 althinglaw12_AcceptKeeps.s9 k (x1, (), (), (), b5, b7, b9, ())
noncomputable def G_althinglaw12_AcceptKeeps (k : Nat) : Gam := ins 3 (.pu althinglaw12_AcceptKeeps.ps althinglaw12_AcceptKeeps.r (althinglaw12_AcceptKeeps k)) (G_althingref07_RightMessage k)
theorem ok_althinglaw12_AcceptKeeps : GOk Try.prog G_althinglaw12_AcceptKeeps := ok_althingref07_RightMessage.ins fun k => by rw [show althinglaw12_AcceptKeeps k = althinglaw12_AcceptKeeps.raw k from congrFun (sealed_eq althinglaw12_AcceptKeeps.raw) k]; exact runF_ok tabOk ok_althingref07_RightMessage mix Try.func3 Try.call3 althinglaw12_AcceptKeeps.cuts althinglaw12_AcceptKeeps.ps althinglaw12_AcceptKeeps.r (by rw [Try.ntmps3]; decide) k
def althinglaw12_AcceptAgain.s3 : List CK := [.tmp 0 (.sl 38 Ty_api_Record), .tmp 1 Ty.i64, .ptr 5 5 Ty_api_Message, .box 5 Ty_api_Message]
def althinglaw12_AcceptAgain.s9 : List CK := [.tmp 1 Ty.i64, .ptr 5 5 Ty_api_Message, .ptr 7 7 Ty_accept_Step, .own 9 38 Ty_api_Record, .box 5 Ty_api_Message, .box 7 Ty_accept_Step]
def althinglaw12_AcceptAgain.cuts : List (Nat × List CK) := [(3, althinglaw12_AcceptAgain.s3), (9, althinglaw12_AcceptAgain.s9)]
abbrev althinglaw12_AcceptAgain.ps : List PK := [.val (.sl 38 Ty_api_Record), .val Ty.i64, .val Ty_api_Message]
abbrev althinglaw12_AcceptAgain.r : Ty := .bool
noncomputable def althinglaw12_AcceptAgain.raw (k : Nat) (a0 : List Ty_api_Record.den) (a1 : Int) (a2 : Ty_api_Message.den) : Option Bool := runF Alg.std G_althinglaw12_AcceptKeeps T Try.f4 althinglaw12_AcceptAgain.cuts althinglaw12_AcceptAgain.ps althinglaw12_AcceptAgain.r k a0 a1 a2
noncomputable def althinglaw12_AcceptAgain (k : Nat) (a0 : List Ty_api_Record.den) (a1 : Int) (a2 : Ty_api_Message.den) : Option Bool := sealed althinglaw12_AcceptAgain.raw k a0 a1 a2
theorem althinglaw12_AcceptAgain_raw (k : Nat) (a0 : List Ty_api_Record.den) (a1 : Int) (a2 : Ty_api_Message.den) : althinglaw12_AcceptAgain k a0 a1 a2 = althinglaw12_AcceptAgain.raw k a0 a1 a2 := by unfold althinglaw12_AcceptAgain; rw [sealed_eq]
noncomputable def althinglaw12_AcceptAgain.c3 (k : Nat) (x0 : List Ty_api_Record.den) (x1 : Int) (b5 : Ty_api_Message.den) : Option Bool := runC Alg.std G_althinglaw12_AcceptKeeps T Try.f4 althinglaw12_AcceptAgain.cuts althinglaw12_AcceptAgain.r 3 althinglaw12_AcceptAgain.s3 k (x0, x1, (), b5, ())
noncomputable def althinglaw12_AcceptAgain.c9 (k : Nat) (x1 : Int) (x9 : List Ty_api_Record.den) (b5 : Ty_api_Message.den) (b7 : Ty_accept_Step.den) : Option Bool := runC Alg.std G_althinglaw12_AcceptKeeps T Try.f4 althinglaw12_AcceptAgain.cuts althinglaw12_AcceptAgain.r 9 althinglaw12_AcceptAgain.s9 k (x1, (), (), x9, b5, b7, ())
noncomputable def G_althinglaw12_AcceptAgain (k : Nat) : Gam := ins 4 (.pu althinglaw12_AcceptAgain.ps althinglaw12_AcceptAgain.r (althinglaw12_AcceptAgain k)) (G_althinglaw12_AcceptKeeps k)
theorem ok_althinglaw12_AcceptAgain : GOk Try.prog G_althinglaw12_AcceptAgain := ok_althinglaw12_AcceptKeeps.ins fun k => by rw [show althinglaw12_AcceptAgain k = althinglaw12_AcceptAgain.raw k from congrFun (sealed_eq althinglaw12_AcceptAgain.raw) k]; exact runF_ok tabOk ok_althinglaw12_AcceptKeeps mix Try.func4 Try.call4 althinglaw12_AcceptAgain.cuts althinglaw12_AcceptAgain.ps althinglaw12_AcceptAgain.r (by rw [Try.ntmps4]; decide) k
def althinglaw12_AcceptAfter.s3 : List CK := [.tmp 0 (.sl 38 Ty_api_Record), .tmp 1 Ty.i64, .ptr 6 6 Ty_api_Message, .ptr 7 7 Ty_api_Message, .box 6 Ty_api_Message, .box 7 Ty_api_Message]
def althinglaw12_AcceptAfter.s7 : List CK := [.tmp 0 (.sl 38 Ty_api_Record), .tmp 1 Ty.i64, .ptr 6 6 Ty_api_Message, .ptr 7 7 Ty_api_Message, .ptr 9 9 Ty_accept_Step, .box 6 Ty_api_Message, .box 7 Ty_api_Message, .box 9 Ty_accept_Step]
def althinglaw12_AcceptAfter.s10 : List CK := [.tmp 1 Ty.i64, .ptr 6 6 Ty_api_Message, .ptr 7 7 Ty_api_Message, .own 11 38 Ty_api_Record, .box 6 Ty_api_Message, .box 7 Ty_api_Message]
def althinglaw12_AcceptAfter.cuts : List (Nat × List CK) := [(3, althinglaw12_AcceptAfter.s3), (7, althinglaw12_AcceptAfter.s7), (10, althinglaw12_AcceptAfter.s10)]
abbrev althinglaw12_AcceptAfter.ps : List PK := [.val (.sl 38 Ty_api_Record), .val Ty.i64, .val Ty_api_Message, .val Ty_api_Message]
abbrev althinglaw12_AcceptAfter.r : Ty := .bool
noncomputable def althinglaw12_AcceptAfter.raw (k : Nat) (a0 : List Ty_api_Record.den) (a1 : Int) (a2 : Ty_api_Message.den) (a3 : Ty_api_Message.den) : Option Bool := runF Alg.std G_althinglaw12_AcceptAgain T Try.f5 althinglaw12_AcceptAfter.cuts althinglaw12_AcceptAfter.ps althinglaw12_AcceptAfter.r k a0 a1 a2 a3
noncomputable def althinglaw12_AcceptAfter (k : Nat) (a0 : List Ty_api_Record.den) (a1 : Int) (a2 : Ty_api_Message.den) (a3 : Ty_api_Message.den) : Option Bool := sealed althinglaw12_AcceptAfter.raw k a0 a1 a2 a3
theorem althinglaw12_AcceptAfter_raw (k : Nat) (a0 : List Ty_api_Record.den) (a1 : Int) (a2 : Ty_api_Message.den) (a3 : Ty_api_Message.den) : althinglaw12_AcceptAfter k a0 a1 a2 a3 = althinglaw12_AcceptAfter.raw k a0 a1 a2 a3 := by unfold althinglaw12_AcceptAfter; rw [sealed_eq]
noncomputable def althinglaw12_AcceptAfter.c3 (k : Nat) (x0 : List Ty_api_Record.den) (x1 : Int) (b6 : Ty_api_Message.den) (b7 : Ty_api_Message.den) : Option Bool := runC Alg.std G_althinglaw12_AcceptAgain T Try.f5 althinglaw12_AcceptAfter.cuts althinglaw12_AcceptAfter.r 3 althinglaw12_AcceptAfter.s3 k (x0, x1, (), (), b6, b7, ())
noncomputable def althinglaw12_AcceptAfter.c7 (k : Nat) (x0 : List Ty_api_Record.den) (x1 : Int) (b6 : Ty_api_Message.den) (b7 : Ty_api_Message.den) (b9 : Ty_accept_Step.den) : Option Bool := runC Alg.std G_althinglaw12_AcceptAgain T Try.f5 althinglaw12_AcceptAfter.cuts althinglaw12_AcceptAfter.r 7 althinglaw12_AcceptAfter.s7 k (x0, x1, (), (), (), b6, b7, b9, ())
noncomputable def althinglaw12_AcceptAfter.c10 (k : Nat) (x1 : Int) (x11 : List Ty_api_Record.den) (b6 : Ty_api_Message.den) (b7 : Ty_api_Message.den) : Option Bool := runC Alg.std G_althinglaw12_AcceptAgain T Try.f5 althinglaw12_AcceptAfter.cuts althinglaw12_AcceptAfter.r 10 althinglaw12_AcceptAfter.s10 k (x1, (), (), x11, b6, b7, ())
noncomputable def G_althinglaw12_AcceptAfter (k : Nat) : Gam := ins 5 (.pu althinglaw12_AcceptAfter.ps althinglaw12_AcceptAfter.r (althinglaw12_AcceptAfter k)) (G_althinglaw12_AcceptAgain k)
theorem ok_althinglaw12_AcceptAfter : GOk Try.prog G_althinglaw12_AcceptAfter := ok_althinglaw12_AcceptAgain.ins fun k => by rw [show althinglaw12_AcceptAfter k = althinglaw12_AcceptAfter.raw k from congrFun (sealed_eq althinglaw12_AcceptAfter.raw) k]; exact runF_ok tabOk ok_althinglaw12_AcceptAgain mix Try.func5 Try.call5 althinglaw12_AcceptAfter.cuts althinglaw12_AcceptAfter.ps althinglaw12_AcceptAfter.r (by rw [Try.ntmps5]; decide) k
noncomputable def G_althingref04_Join (k : Nat) : Gam := ins 60 (althingref04_Join.spec k) (G_althinglaw12_AcceptAfter k)
theorem ok_althingref04_Join : GOk Try.prog G_althingref04_Join := ok_althinglaw12_AcceptAfter.ins (althingref04_Join.ok)
def althingref05_Keys.s3 : List CK := [.ptr 1 1 Ty_api_Command, .own 3 9 .str, .tmp 4 Ty.i64, .box 1 Ty_api_Command]
def althingref05_Keys.s7 : List CK := [.ptr 1 1 Ty_api_Command, .own 3 9 .str, .tmp 5 Ty.i64, .box 1 Ty_api_Command]
def althingref05_Keys.cuts : List (Nat × List CK) := [(3, althingref05_Keys.s3), (7, althingref05_Keys.s7)]
abbrev althingref05_Keys.ps : List PK := [.val Ty_api_Command]
abbrev althingref05_Keys.r : Ty := (.sl 9 .str)
noncomputable def althingref05_Keys.raw (k : Nat) (a0 : Ty_api_Command.den) : Option (List ByteArray) := runF Alg.std G_althingref04_Join T Try.f39 althingref05_Keys.cuts althingref05_Keys.ps althingref05_Keys.r k a0
noncomputable def althingref05_Keys (k : Nat) (a0 : Ty_api_Command.den) : Option (List ByteArray) := sealed althingref05_Keys.raw k a0
theorem althingref05_Keys_raw (k : Nat) (a0 : Ty_api_Command.den) : althingref05_Keys k a0 = althingref05_Keys.raw k a0 := by unfold althingref05_Keys; rw [sealed_eq]
noncomputable def althingref05_Keys.c3 (k : Nat) (x3 : List ByteArray) (x4 : Int) (b1 : Ty_api_Command.den) : Option (List ByteArray) := runC Alg.std G_althingref04_Join T Try.f39 althingref05_Keys.cuts althingref05_Keys.r 3 althingref05_Keys.s3 k ((), x3, x4, b1, ())
noncomputable def althingref05_Keys.c7 (k : Nat) (x3 : List ByteArray) (x5 : Int) (b1 : Ty_api_Command.den) : Option (List ByteArray) := runC Alg.std G_althingref04_Join T Try.f39 althingref05_Keys.cuts althingref05_Keys.r 7 althingref05_Keys.s7 k ((), x3, x5, b1, ())
noncomputable def G_althingref05_Keys (k : Nat) : Gam := ins 39 (.pu althingref05_Keys.ps althingref05_Keys.r (althingref05_Keys k)) (G_althingref04_Join k)
theorem ok_althingref05_Keys : GOk Try.prog G_althingref05_Keys := ok_althingref04_Join.ins fun k => by rw [show althingref05_Keys k = althingref05_Keys.raw k from congrFun (sealed_eq althingref05_Keys.raw) k]; exact runF_ok tabOk ok_althingref04_Join mix Try.func39 Try.call39 althingref05_Keys.cuts althingref05_Keys.ps althingref05_Keys.r (by rw [Try.ntmps39]; decide) k
def althingref04_In.s2 : List CK := [.tmp 0 (.sl 9 .str), .tmp 1 .str, .tmp 5 Ty.i64]
def althingref04_In.cuts : List (Nat × List CK) := [(2, althingref04_In.s2)]
abbrev althingref04_In.ps : List PK := [.val (.sl 9 .str), .val .str]
abbrev althingref04_In.r : Ty := .bool
noncomputable def althingref04_In.raw (k : Nat) (a0 : List ByteArray) (a1 : ByteArray) : Option Bool := runF Alg.std G_althingref05_Keys T Try.f40 althingref04_In.cuts althingref04_In.ps althingref04_In.r k a0 a1
noncomputable def althingref04_In (k : Nat) (a0 : List ByteArray) (a1 : ByteArray) : Option Bool := sealed althingref04_In.raw k a0 a1
theorem althingref04_In_raw (k : Nat) (a0 : List ByteArray) (a1 : ByteArray) : althingref04_In k a0 a1 = althingref04_In.raw k a0 a1 := by unfold althingref04_In; rw [sealed_eq]
noncomputable def althingref04_In.c2 (k : Nat) (x0 : List ByteArray) (x1 : ByteArray) (x5 : Int) : Option Bool := runC Alg.std G_althingref05_Keys T Try.f40 althingref04_In.cuts althingref04_In.r 2 althingref04_In.s2 k (x0, x1, x5, ())
noncomputable def G_althingref04_In (k : Nat) : Gam := ins 40 (.pu althingref04_In.ps althingref04_In.r (althingref04_In k)) (G_althingref05_Keys k)
theorem ok_althingref04_In : GOk Try.prog G_althingref04_In := ok_althingref05_Keys.ins fun k => by rw [show althingref04_In k = althingref04_In.raw k from congrFun (sealed_eq althingref04_In.raw) k]; exact runF_ok tabOk ok_althingref05_Keys mix Try.func40 Try.call40 althingref04_In.cuts althingref04_In.ps althingref04_In.r (by rw [Try.ntmps40]; decide) k
def althingref05_Interfere.s3 : List CK := [.ptr 2 2 Ty_api_Command, .ptr 3 3 Ty_api_Command, .box 2 Ty_api_Command, .box 3 Ty_api_Command]
def althingref05_Interfere.s8 : List CK := [.tmp 5 (.sl 9 .str), .tmp 6 (.sl 9 .str), .tmp 7 Ty.i64]
def althingref05_Interfere.cuts : List (Nat × List CK) := [(3, althingref05_Interfere.s3), (8, althingref05_Interfere.s8)]
abbrev althingref05_Interfere.ps : List PK := [.val Ty_api_Command, .val Ty_api_Command]
abbrev althingref05_Interfere.r : Ty := .bool
noncomputable def althingref05_Interfere.raw (k : Nat) (a0 : Ty_api_Command.den) (a1 : Ty_api_Command.den) : Option Bool := runF Alg.std G_althingref04_In T Try.f21 althingref05_Interfere.cuts althingref05_Interfere.ps althingref05_Interfere.r k a0 a1
noncomputable def althingref05_Interfere (k : Nat) (a0 : Ty_api_Command.den) (a1 : Ty_api_Command.den) : Option Bool := sealed althingref05_Interfere.raw k a0 a1
theorem althingref05_Interfere_raw (k : Nat) (a0 : Ty_api_Command.den) (a1 : Ty_api_Command.den) : althingref05_Interfere k a0 a1 = althingref05_Interfere.raw k a0 a1 := by unfold althingref05_Interfere; rw [sealed_eq]
noncomputable def althingref05_Interfere.c3 (k : Nat) (b2 : Ty_api_Command.den) (b3 : Ty_api_Command.den) : Option Bool := runC Alg.std G_althingref04_In T Try.f21 althingref05_Interfere.cuts althingref05_Interfere.r 3 althingref05_Interfere.s3 k ((), (), b2, b3, ())
noncomputable def althingref05_Interfere.c8 (k : Nat) (x5 : List ByteArray) (x6 : List ByteArray) (x7 : Int) : Option Bool := runC Alg.std G_althingref04_In T Try.f21 althingref05_Interfere.cuts althingref05_Interfere.r 8 althingref05_Interfere.s8 k (x5, x6, x7, ())
noncomputable def G_althingref05_Interfere (k : Nat) : Gam := ins 21 (.pu althingref05_Interfere.ps althingref05_Interfere.r (althingref05_Interfere k)) (G_althingref04_In k)
theorem ok_althingref05_Interfere : GOk Try.prog G_althingref05_Interfere := ok_althingref04_In.ins fun k => by rw [show althingref05_Interfere k = althingref05_Interfere.raw k from congrFun (sealed_eq althingref05_Interfere.raw) k]; exact runF_ok tabOk ok_althingref04_In mix Try.func21 Try.call21 althingref05_Interfere.cuts althingref05_Interfere.ps althingref05_Interfere.r (by rw [Try.ntmps21]; decide) k
def althinglaw12_AcceptOrders.s3 : List CK := [.tmp 0 (.sl 38 Ty_api_Record), .tmp 1 Ty.i64, .ptr 5 5 Ty_api_Message, .box 5 Ty_api_Message]
def althinglaw12_AcceptOrders.s7 : List CK := [.tmp 0 (.sl 38 Ty_api_Record), .ptr 5 5 Ty_api_Message, .ptr 7 7 Ty_accept_Step, .tmp 44 (.sl 38 Ty_api_Record), .tmp 45 Ty.i64, .tmp 46 Ty.i64, .box 5 Ty_api_Message, .box 7 Ty_accept_Step]
def althinglaw12_AcceptOrders.s11 : List CK := [.tmp 0 (.sl 38 Ty_api_Record), .ptr 5 5 Ty_api_Message, .ptr 7 7 Ty_accept_Step, .ptr 10 10 Ty_api_Record, .tmp 11 .bool, .tmp 44 (.sl 38 Ty_api_Record), .tmp 45 Ty.i64, .tmp 46 Ty.i64, .tmp 54 (.sl 38 Ty_api_Record), .tmp 55 Ty.i64, .tmp 56 Ty.i64, .box 5 Ty_api_Message, .box 7 Ty_accept_Step, .box 10 Ty_api_Record]
def althinglaw12_AcceptOrders.s16 : List CK := [.tmp 0 (.sl 38 Ty_api_Record), .ptr 5 5 Ty_api_Message, .ptr 7 7 Ty_accept_Step, .ptr 10 10 Ty_api_Record, .tmp 44 (.sl 38 Ty_api_Record), .tmp 45 Ty.i64, .tmp 46 Ty.i64, .box 5 Ty_api_Message, .box 7 Ty_accept_Step, .box 10 Ty_api_Record]
def althinglaw12_AcceptOrders.cuts : List (Nat × List CK) := [(3, althinglaw12_AcceptOrders.s3), (7, althinglaw12_AcceptOrders.s7), (11, althinglaw12_AcceptOrders.s11), (16, althinglaw12_AcceptOrders.s16)]
abbrev althinglaw12_AcceptOrders.ps : List PK := [.val (.sl 38 Ty_api_Record), .val Ty.i64, .val Ty_api_Message]
abbrev althinglaw12_AcceptOrders.r : Ty := .bool
noncomputable def althinglaw12_AcceptOrders.raw (k : Nat) (a0 : List Ty_api_Record.den) (a1 : Int) (a2 : Ty_api_Message.den) : Option Bool := runF Alg.std G_althingref05_Interfere T Try.f6 althinglaw12_AcceptOrders.cuts althinglaw12_AcceptOrders.ps althinglaw12_AcceptOrders.r k a0 a1 a2
noncomputable def althinglaw12_AcceptOrders (k : Nat) (a0 : List Ty_api_Record.den) (a1 : Int) (a2 : Ty_api_Message.den) : Option Bool := sealed althinglaw12_AcceptOrders.raw k a0 a1 a2
theorem althinglaw12_AcceptOrders_raw (k : Nat) (a0 : List Ty_api_Record.den) (a1 : Int) (a2 : Ty_api_Message.den) : althinglaw12_AcceptOrders k a0 a1 a2 = althinglaw12_AcceptOrders.raw k a0 a1 a2 := by unfold althinglaw12_AcceptOrders; rw [sealed_eq]
noncomputable def althinglaw12_AcceptOrders.c3 (k : Nat) (x0 : List Ty_api_Record.den) (x1 : Int) (b5 : Ty_api_Message.den) : Option Bool := runC Alg.std G_althingref05_Interfere T Try.f6 althinglaw12_AcceptOrders.cuts althinglaw12_AcceptOrders.r 3 althinglaw12_AcceptOrders.s3 k (x0, x1, (), b5, ())
noncomputable def althinglaw12_AcceptOrders.c7 (k : Nat) (x0 : List Ty_api_Record.den) (x44 : List Ty_api_Record.den) (x45 : Int) (x46 : Int) (b5 : Ty_api_Message.den) (b7 : Ty_accept_Step.den) : Option Bool := runC Alg.std G_althingref05_Interfere T Try.f6 althinglaw12_AcceptOrders.cuts althinglaw12_AcceptOrders.r 7 althinglaw12_AcceptOrders.s7 k (x0, (), (), x44, x45, x46, b5, b7, ())
noncomputable def althinglaw12_AcceptOrders.c11 (k : Nat) (x0 : List Ty_api_Record.den) (x11 : Bool) (x44 : List Ty_api_Record.den) (x45 : Int) (x46 : Int) (x54 : List Ty_api_Record.den) (x55 : Int) (x56 : Int) (b5 : Ty_api_Message.den) (b7 : Ty_accept_Step.den) (b10 : Ty_api_Record.den) : Option Bool := runC Alg.std G_althingref05_Interfere T Try.f6 althinglaw12_AcceptOrders.cuts althinglaw12_AcceptOrders.r 11 althinglaw12_AcceptOrders.s11 k (x0, (), (), (), x11, x44, x45, x46, x54, x55, x56, b5, b7, b10, ())
noncomputable def althinglaw12_AcceptOrders.c16 (k : Nat) (x0 : List Ty_api_Record.den) (x44 : List Ty_api_Record.den) (x45 : Int) (x46 : Int) (b5 : Ty_api_Message.den) (b7 : Ty_accept_Step.den) (b10 : Ty_api_Record.den) : Option Bool := runC Alg.std G_althingref05_Interfere T Try.f6 althinglaw12_AcceptOrders.cuts althinglaw12_AcceptOrders.r 16 althinglaw12_AcceptOrders.s16 k (x0, (), (), (), x44, x45, x46, b5, b7, b10, ())
noncomputable def G_althinglaw12_AcceptOrders (k : Nat) : Gam := ins 6 (.pu althinglaw12_AcceptOrders.ps althinglaw12_AcceptOrders.r (althinglaw12_AcceptOrders k)) (G_althingref05_Interfere k)
theorem ok_althinglaw12_AcceptOrders : GOk Try.prog G_althinglaw12_AcceptOrders := ok_althingref05_Interfere.ins fun k => by rw [show althinglaw12_AcceptOrders k = althinglaw12_AcceptOrders.raw k from congrFun (sealed_eq althinglaw12_AcceptOrders.raw) k]; exact runF_ok tabOk ok_althingref05_Interfere mix Try.func6 Try.call6 althinglaw12_AcceptOrders.cuts althinglaw12_AcceptOrders.ps althinglaw12_AcceptOrders.r (by rw [Try.ntmps6]; decide) k
def althinglaw12_AcceptOthers.s3 : List CK := [.tmp 0 (.sl 38 Ty_api_Record), .tmp 1 Ty.i64, .ptr 6 6 Ty_api_Message, .ptr 7 7 Ty_api_Instance, .box 6 Ty_api_Message, .box 7 Ty_api_Instance]
def althinglaw12_AcceptOthers.s7 : List CK := [.tmp 0 (.sl 38 Ty_api_Record), .ptr 6 6 Ty_api_Message, .ptr 7 7 Ty_api_Instance, .ptr 9 9 Ty_accept_Step, .own 11 38 Ty_api_Record, .box 6 Ty_api_Message, .box 7 Ty_api_Instance, .box 9 Ty_accept_Step]
def althinglaw12_AcceptOthers.cuts : List (Nat × List CK) := [(3, althinglaw12_AcceptOthers.s3), (7, althinglaw12_AcceptOthers.s7)]
abbrev althinglaw12_AcceptOthers.ps : List PK := [.val (.sl 38 Ty_api_Record), .val Ty.i64, .val Ty_api_Message, .val Ty_api_Instance]
abbrev althinglaw12_AcceptOthers.r : Ty := .bool
noncomputable def althinglaw12_AcceptOthers.raw (k : Nat) (a0 : List Ty_api_Record.den) (a1 : Int) (a2 : Ty_api_Message.den) (a3 : Ty_api_Instance.den) : Option Bool := runF Alg.std G_althinglaw12_AcceptOrders T Try.f7 althinglaw12_AcceptOthers.cuts althinglaw12_AcceptOthers.ps althinglaw12_AcceptOthers.r k a0 a1 a2 a3
noncomputable def althinglaw12_AcceptOthers (k : Nat) (a0 : List Ty_api_Record.den) (a1 : Int) (a2 : Ty_api_Message.den) (a3 : Ty_api_Instance.den) : Option Bool := sealed althinglaw12_AcceptOthers.raw k a0 a1 a2 a3
theorem althinglaw12_AcceptOthers_raw (k : Nat) (a0 : List Ty_api_Record.den) (a1 : Int) (a2 : Ty_api_Message.den) (a3 : Ty_api_Instance.den) : althinglaw12_AcceptOthers k a0 a1 a2 a3 = althinglaw12_AcceptOthers.raw k a0 a1 a2 a3 := by unfold althinglaw12_AcceptOthers; rw [sealed_eq]
noncomputable def althinglaw12_AcceptOthers.c3 (k : Nat) (x0 : List Ty_api_Record.den) (x1 : Int) (b6 : Ty_api_Message.den) (b7 : Ty_api_Instance.den) : Option Bool := runC Alg.std G_althinglaw12_AcceptOrders T Try.f7 althinglaw12_AcceptOthers.cuts althinglaw12_AcceptOthers.r 3 althinglaw12_AcceptOthers.s3 k (x0, x1, (), (), b6, b7, ())
noncomputable def althinglaw12_AcceptOthers.c7 (k : Nat) (x0 : List Ty_api_Record.den) (x11 : List Ty_api_Record.den) (b6 : Ty_api_Message.den) (b7 : Ty_api_Instance.den) (b9 : Ty_accept_Step.den) : Option Bool := runC Alg.std G_althinglaw12_AcceptOrders T Try.f7 althinglaw12_AcceptOthers.cuts althinglaw12_AcceptOthers.r 7 althinglaw12_AcceptOthers.s7 k (x0, (), (), (), x11, b6, b7, b9, ())
noncomputable def G_althinglaw12_AcceptOthers (k : Nat) : Gam := ins 7 (.pu althinglaw12_AcceptOthers.ps althinglaw12_AcceptOthers.r (althinglaw12_AcceptOthers k)) (G_althinglaw12_AcceptOrders k)
theorem ok_althinglaw12_AcceptOthers : GOk Try.prog G_althinglaw12_AcceptOthers := ok_althinglaw12_AcceptOrders.ins fun k => by rw [show althinglaw12_AcceptOthers k = althinglaw12_AcceptOthers.raw k from congrFun (sealed_eq althinglaw12_AcceptOthers.raw) k]; exact runF_ok tabOk ok_althinglaw12_AcceptOrders mix Try.func7 Try.call7 althinglaw12_AcceptOthers.cuts althinglaw12_AcceptOthers.ps althinglaw12_AcceptOthers.r (by rw [Try.ntmps7]; decide) k
def index_Slot.s3 : List CK := [.tmp 1 Ty.i64, .tmp 5 Ty.i64, .tmp 8 (.sl 38 Ty_api_Record), .tmp 9 Ty.i64, .tmp 10 Ty.i64]
def index_Slot.cuts : List (Nat × List CK) := [(3, index_Slot.s3)]
abbrev index_Slot.ps : List PK := [.val (.sl 38 Ty_api_Record), .val Ty.i64]
abbrev index_Slot.r : Ty := Ty.i64
noncomputable def index_Slot.raw (k : Nat) (a0 : List Ty_api_Record.den) (a1 : Int) : Option Int := runF Alg.std G_althinglaw12_AcceptOthers T Try.f48 index_Slot.cuts index_Slot.ps index_Slot.r k a0 a1
noncomputable def index_Slot (k : Nat) (a0 : List Ty_api_Record.den) (a1 : Int) : Option Int := sealed index_Slot.raw k a0 a1
theorem index_Slot_raw (k : Nat) (a0 : List Ty_api_Record.den) (a1 : Int) : index_Slot k a0 a1 = index_Slot.raw k a0 a1 := by unfold index_Slot; rw [sealed_eq]
noncomputable def index_Slot.c3 (k : Nat) (x1 : Int) (x5 : Int) (x8 : List Ty_api_Record.den) (x9 : Int) (x10 : Int) : Option Int := runC Alg.std G_althinglaw12_AcceptOthers T Try.f48 index_Slot.cuts index_Slot.r 3 index_Slot.s3 k (x1, x5, x8, x9, x10, ())
noncomputable def G_index_Slot (k : Nat) : Gam := ins 48 (.pu index_Slot.ps index_Slot.r (index_Slot k)) (G_althinglaw12_AcceptOthers k)
theorem ok_index_Slot : GOk Try.prog G_index_Slot := ok_althinglaw12_AcceptOthers.ins fun k => by rw [show index_Slot k = index_Slot.raw k from congrFun (sealed_eq index_Slot.raw) k]; exact runF_ok tabOk ok_althinglaw12_AcceptOthers mix Try.func48 Try.call48 index_Slot.cuts index_Slot.ps index_Slot.r (by rw [Try.ntmps48]; decide) k
def accept_Begin.s3 : List CK := [.tmp 0 (.sl 38 Ty_api_Record), .tmp 1 Ty.i64, .ptr 5 5 Ty_api_Command, .ptr 6 6 Ty_api_Record, .box 5 Ty_api_Command, .box 6 Ty_api_Record]
def accept_Begin.cuts : List (Nat × List CK) := [(3, accept_Begin.s3)]
abbrev accept_Begin.ps : List PK := [.val (.sl 38 Ty_api_Record), .val Ty.i64, .val Ty_api_Command]
abbrev accept_Begin.r : Ty := (.tup (.pair Ty_api_Record Ty.i64))
noncomputable def accept_Begin.raw (k : Nat) (a0 : List Ty_api_Record.den) (a1 : Int) (a2 : Ty_api_Command.den) : Option (Ty_api_Record.den × Int) := runF Alg.std G_index_Slot T Try.f26 accept_Begin.cuts accept_Begin.ps accept_Begin.r k a0 a1 a2
noncomputable def accept_Begin (k : Nat) (a0 : List Ty_api_Record.den) (a1 : Int) (a2 : Ty_api_Command.den) : Option (Ty_api_Record.den × Int) := sealed accept_Begin.raw k a0 a1 a2
theorem accept_Begin_raw (k : Nat) (a0 : List Ty_api_Record.den) (a1 : Int) (a2 : Ty_api_Command.den) : accept_Begin k a0 a1 a2 = accept_Begin.raw k a0 a1 a2 := by unfold accept_Begin; rw [sealed_eq]
noncomputable def accept_Begin.c3 (k : Nat) (x0 : List Ty_api_Record.den) (x1 : Int) (b5 : Ty_api_Command.den) (b6 : Ty_api_Record.den) : Option (Ty_api_Record.den × Int) := runC Alg.std G_index_Slot T Try.f26 accept_Begin.cuts accept_Begin.r 3 accept_Begin.s3 k (x0, x1, (), (), b5, b6, ())
noncomputable def G_accept_Begin (k : Nat) : Gam := ins 26 (.pu accept_Begin.ps accept_Begin.r (accept_Begin k)) (G_index_Slot k)
theorem ok_accept_Begin : GOk Try.prog G_accept_Begin := ok_index_Slot.ins fun k => by rw [show accept_Begin k = accept_Begin.raw k from congrFun (sealed_eq accept_Begin.raw) k]; exact runF_ok tabOk ok_index_Slot mix Try.func26 Try.call26 accept_Begin.cuts accept_Begin.ps accept_Begin.r (by rw [Try.ntmps26]; decide) k
def althingref11_Slot.s3 : List CK := [.tmp 0 (.sl 38 Ty_api_Record), .tmp 1 Ty.i64, .tmp 5 Ty.i64, .tmp 6 Ty.i64]
def althingref11_Slot.s6 : List CK := [.tmp 0 (.sl 38 Ty_api_Record), .tmp 1 Ty.i64, .tmp 6 Ty.i64]
def althingref11_Slot.s4 : List CK := [.tmp 0 (.sl 38 Ty_api_Record), .tmp 1 Ty.i64, .tmp 5 Ty.i64, .tmp 6 Ty.i64]
def althingref11_Slot.cuts : List (Nat × List CK) := [(3, althingref11_Slot.s3), (6, althingref11_Slot.s6), (4, althingref11_Slot.s4)]
abbrev althingref11_Slot.ps : List PK := [.val (.sl 38 Ty_api_Record), .val Ty.i64]
abbrev althingref11_Slot.r : Ty := Ty.i64
noncomputable def althingref11_Slot.raw (k : Nat) (a0 : List Ty_api_Record.den) (a1 : Int) : Option Int := runF Alg.std G_accept_Begin T Try.f49 althingref11_Slot.cuts althingref11_Slot.ps althingref11_Slot.r k a0 a1
noncomputable def althingref11_Slot (k : Nat) (a0 : List Ty_api_Record.den) (a1 : Int) : Option Int := sealed althingref11_Slot.raw k a0 a1
theorem althingref11_Slot_raw (k : Nat) (a0 : List Ty_api_Record.den) (a1 : Int) : althingref11_Slot k a0 a1 = althingref11_Slot.raw k a0 a1 := by unfold althingref11_Slot; rw [sealed_eq]
noncomputable def althingref11_Slot.c3 (k : Nat) (x0 : List Ty_api_Record.den) (x1 : Int) (x5 : Int) (x6 : Int) : Option Int := runC Alg.std G_accept_Begin T Try.f49 althingref11_Slot.cuts althingref11_Slot.r 3 althingref11_Slot.s3 k (x0, x1, x5, x6, ())
noncomputable def althingref11_Slot.c6 (k : Nat) (x0 : List Ty_api_Record.den) (x1 : Int) (x6 : Int) : Option Int := runC Alg.std G_accept_Begin T Try.f49 althingref11_Slot.cuts althingref11_Slot.r 6 althingref11_Slot.s6 k (x0, x1, x6, ())
noncomputable def althingref11_Slot.c4 (k : Nat) (x0 : List Ty_api_Record.den) (x1 : Int) (x5 : Int) (x6 : Int) : Option Int := runC Alg.std G_accept_Begin T Try.f49 althingref11_Slot.cuts althingref11_Slot.r 4 althingref11_Slot.s4 k (x0, x1, x5, x6, ())
noncomputable def G_althingref11_Slot (k : Nat) : Gam := ins 49 (.pu althingref11_Slot.ps althingref11_Slot.r (althingref11_Slot k)) (G_accept_Begin k)
theorem ok_althingref11_Slot : GOk Try.prog G_althingref11_Slot := ok_accept_Begin.ins fun k => by rw [show althingref11_Slot k = althingref11_Slot.raw k from congrFun (sealed_eq althingref11_Slot.raw) k]; exact runF_ok tabOk ok_accept_Begin mix Try.func49 Try.call49 althingref11_Slot.cuts althingref11_Slot.ps althingref11_Slot.r (by rw [Try.ntmps49]; decide) k
def althingref11_Last.s2 : List CK := [.tmp 0 (.sl 38 Ty_api_Record), .tmp 1 Ty.i64, .tmp 5 Ty.i64]
def althingref11_Last.cuts : List (Nat × List CK) := [(2, althingref11_Last.s2)]
abbrev althingref11_Last.ps : List PK := [.val (.sl 38 Ty_api_Record), .val Ty.i64]
abbrev althingref11_Last.r : Ty := .bool
noncomputable def althingref11_Last.raw (k : Nat) (a0 : List Ty_api_Record.den) (a1 : Int) : Option Bool := runF Alg.std G_althingref11_Slot T Try.f83 althingref11_Last.cuts althingref11_Last.ps althingref11_Last.r k a0 a1
noncomputable def althingref11_Last (k : Nat) (a0 : List Ty_api_Record.den) (a1 : Int) : Option Bool := sealed althingref11_Last.raw k a0 a1
theorem althingref11_Last_raw (k : Nat) (a0 : List Ty_api_Record.den) (a1 : Int) : althingref11_Last k a0 a1 = althingref11_Last.raw k a0 a1 := by unfold althingref11_Last; rw [sealed_eq]
noncomputable def althingref11_Last.c2 (k : Nat) (x0 : List Ty_api_Record.den) (x1 : Int) (x5 : Int) : Option Bool := runC Alg.std G_althingref11_Slot T Try.f83 althingref11_Last.cuts althingref11_Last.r 2 althingref11_Last.s2 k (x0, x1, x5, ())
noncomputable def G_althingref11_Last (k : Nat) : Gam := ins 83 (.pu althingref11_Last.ps althingref11_Last.r (althingref11_Last k)) (G_althingref11_Slot k)
theorem ok_althingref11_Last : GOk Try.prog G_althingref11_Last := ok_althingref11_Slot.ins fun k => by rw [show althingref11_Last k = althingref11_Last.raw k from congrFun (sealed_eq althingref11_Last.raw) k]; exact runF_ok tabOk ok_althingref11_Slot mix Try.func83 Try.call83 althingref11_Last.cuts althingref11_Last.ps althingref11_Last.r (by rw [Try.ntmps83]; decide) k
def althingref11_Against.s3 : List CK := [.tmp 0 (.sl 38 Ty_api_Record), .ptr 4 4 Ty_api_Instance, .ptr 5 5 Ty_api_Command, .own 7 38 Ty_api_Record, .tmp 8 Ty.i64, .box 4 Ty_api_Instance, .box 5 Ty_api_Command]
def althingref11_Against.s6 : List CK := [.tmp 0 (.sl 38 Ty_api_Record), .ptr 4 4 Ty_api_Instance, .ptr 5 5 Ty_api_Command, .own 7 38 Ty_api_Record, .tmp 8 Ty.i64, .box 4 Ty_api_Instance, .box 5 Ty_api_Command]
def althingref11_Against.s4 : List CK := [.tmp 0 (.sl 38 Ty_api_Record), .ptr 4 4 Ty_api_Instance, .ptr 5 5 Ty_api_Command, .own 7 38 Ty_api_Record, .tmp 8 Ty.i64, .box 4 Ty_api_Instance, .box 5 Ty_api_Command]
def althingref11_Against.cuts : List (Nat × List CK) := [(3, althingref11_Against.s3), (6, althingref11_Against.s6), (4, althingref11_Against.s4)]
abbrev althingref11_Against.ps : List PK := [.val (.sl 38 Ty_api_Record), .val Ty_api_Instance, .val Ty_api_Command]
abbrev althingref11_Against.r : Ty := (.sl 38 Ty_api_Record)
noncomputable def althingref11_Against.raw (k : Nat) (a0 : List Ty_api_Record.den) (a1 : Ty_api_Instance.den) (a2 : Ty_api_Command.den) : Option (List Ty_api_Record.den) := runF Alg.std G_althingref11_Last T Try.f71 althingref11_Against.cuts althingref11_Against.ps althingref11_Against.r k a0 a1 a2
noncomputable def althingref11_Against (k : Nat) (a0 : List Ty_api_Record.den) (a1 : Ty_api_Instance.den) (a2 : Ty_api_Command.den) : Option (List Ty_api_Record.den) := sealed althingref11_Against.raw k a0 a1 a2
theorem althingref11_Against_raw (k : Nat) (a0 : List Ty_api_Record.den) (a1 : Ty_api_Instance.den) (a2 : Ty_api_Command.den) : althingref11_Against k a0 a1 a2 = althingref11_Against.raw k a0 a1 a2 := by unfold althingref11_Against; rw [sealed_eq]
noncomputable def althingref11_Against.c3 (k : Nat) (x0 : List Ty_api_Record.den) (x7 : List Ty_api_Record.den) (x8 : Int) (b4 : Ty_api_Instance.den) (b5 : Ty_api_Command.den) : Option (List Ty_api_Record.den) := runC Alg.std G_althingref11_Last T Try.f71 althingref11_Against.cuts althingref11_Against.r 3 althingref11_Against.s3 k (x0, (), (), x7, x8, b4, b5, ())
noncomputable def althingref11_Against.c6 (k : Nat) (x0 : List Ty_api_Record.den) (x7 : List Ty_api_Record.den) (x8 : Int) (b4 : Ty_api_Instance.den) (b5 : Ty_api_Command.den) : Option (List Ty_api_Record.den) := runC Alg.std G_althingref11_Last T Try.f71 althingref11_Against.cuts althingref11_Against.r 6 althingref11_Against.s6 k (x0, (), (), x7, x8, b4, b5, ())
noncomputable def althingref11_Against.c4 (k : Nat) (x0 : List Ty_api_Record.den) (x7 : List Ty_api_Record.den) (x8 : Int) (b4 : Ty_api_Instance.den) (b5 : Ty_api_Command.den) : Option (List Ty_api_Record.den) := runC Alg.std G_althingref11_Last T Try.f71 althingref11_Against.cuts althingref11_Against.r 4 althingref11_Against.s4 k (x0, (), (), x7, x8, b4, b5, ())
noncomputable def G_althingref11_Against (k : Nat) : Gam := ins 71 (.pu althingref11_Against.ps althingref11_Against.r (althingref11_Against k)) (G_althingref11_Last k)
theorem ok_althingref11_Against : GOk Try.prog G_althingref11_Against := ok_althingref11_Last.ins fun k => by rw [show althingref11_Against k = althingref11_Against.raw k from congrFun (sealed_eq althingref11_Against.raw) k]; exact runF_ok tabOk ok_althingref11_Last mix Try.func71 Try.call71 althingref11_Against.cuts althingref11_Against.ps althingref11_Against.r (by rw [Try.ntmps71]; decide) k
def althingref03_With.s2 : List CK := [.ptr 2 2 Ty_api_Deps, .ptr 3 3 Ty_api_Instance, .ptr 4 4 Ty_api_Deps, .tmp 5 Ty.i64, .box 2 Ty_api_Deps, .box 3 Ty_api_Instance, .box 4 Ty_api_Deps]
def althingref03_With.s3 : List CK := [.ptr 2 2 Ty_api_Deps, .ptr 3 3 Ty_api_Instance, .ptr 4 4 Ty_api_Deps, .tmp 5 Ty.i64, .box 2 Ty_api_Deps, .box 3 Ty_api_Instance, .box 4 Ty_api_Deps]
def althingref03_With.cuts : List (Nat × List CK) := [(2, althingref03_With.s2), (3, althingref03_With.s3)]
abbrev althingref03_With.ps : List PK := [.val Ty_api_Deps, .val Ty_api_Instance]
abbrev althingref03_With.r : Ty := Ty_api_Deps
noncomputable def althingref03_With.raw (k : Nat) (a0 : Ty_api_Deps.den) (a1 : Ty_api_Instance.den) : Option Ty_api_Deps.den := runF Alg.std G_althingref11_Against T Try.f72 althingref03_With.cuts althingref03_With.ps althingref03_With.r k a0 a1
noncomputable def althingref03_With (k : Nat) (a0 : Ty_api_Deps.den) (a1 : Ty_api_Instance.den) : Option Ty_api_Deps.den := sealed althingref03_With.raw k a0 a1
theorem althingref03_With_raw (k : Nat) (a0 : Ty_api_Deps.den) (a1 : Ty_api_Instance.den) : althingref03_With k a0 a1 = althingref03_With.raw k a0 a1 := by unfold althingref03_With; rw [sealed_eq]
noncomputable def althingref03_With.c2 (k : Nat) (x5 : Int) (b2 : Ty_api_Deps.den) (b3 : Ty_api_Instance.den) (b4 : Ty_api_Deps.den) : Option Ty_api_Deps.den := runC Alg.std G_althingref11_Against T Try.f72 althingref03_With.cuts althingref03_With.r 2 althingref03_With.s2 k ((), (), (), x5, b2, b3, b4, ())
noncomputable def althingref03_With.c3 (k : Nat) (x5 : Int) (b2 : Ty_api_Deps.den) (b3 : Ty_api_Instance.den) (b4 : Ty_api_Deps.den) : Option Ty_api_Deps.den := runC Alg.std G_althingref11_Against T Try.f72 althingref03_With.cuts althingref03_With.r 3 althingref03_With.s3 k ((), (), (), x5, b2, b3, b4, ())
noncomputable def G_althingref03_With (k : Nat) : Gam := ins 72 (.pu althingref03_With.ps althingref03_With.r (althingref03_With k)) (G_althingref11_Against k)
theorem ok_althingref03_With : GOk Try.prog G_althingref03_With := ok_althingref11_Against.ins fun k => by rw [show althingref03_With k = althingref03_With.raw k from congrFun (sealed_eq althingref03_With.raw) k]; exact runF_ok tabOk ok_althingref11_Against mix Try.func72 Try.call72 althingref03_With.cuts althingref03_With.ps althingref03_With.r (by rw [Try.ntmps72]; decide) k
def althingref11_Attrs.s3 : List CK := [.tmp 3 Ty.i64, .ptr 9 9 Ty_api_Deps, .ptr 11 11 Ty_api_Deps, .tmp 12 (.sl 38 Ty_api_Record), .tmp 13 Ty.i64, .box 9 Ty_api_Deps, .box 11 Ty_api_Deps]
def althingref11_Attrs.s9 : List CK := [.tmp 3 Ty.i64, .ptr 9 9 Ty_api_Deps, .ptr 11 11 Ty_api_Deps, .tmp 12 (.sl 38 Ty_api_Record), .tmp 13 Ty.i64, .tmp 14 Ty.i64, .box 9 Ty_api_Deps, .box 11 Ty_api_Deps]
def althingref11_Attrs.s11 : List CK := [.tmp 3 Ty.i64, .ptr 9 9 Ty_api_Deps, .ptr 11 11 Ty_api_Deps, .tmp 12 (.sl 38 Ty_api_Record), .tmp 13 Ty.i64, .box 9 Ty_api_Deps, .box 11 Ty_api_Deps]
def althingref11_Attrs.cuts : List (Nat × List CK) := [(3, althingref11_Attrs.s3), (9, althingref11_Attrs.s9), (11, althingref11_Attrs.s11)]
abbrev althingref11_Attrs.ps : List PK := [.val (.sl 38 Ty_api_Record), .val Ty_api_Instance, .val Ty_api_Command, .val Ty.i64, .val Ty_api_Deps]
abbrev althingref11_Attrs.r : Ty := (.tup (.pair Ty.i64 Ty_api_Deps))
noncomputable def althingref11_Attrs.raw (k : Nat) (a0 : List Ty_api_Record.den) (a1 : Ty_api_Instance.den) (a2 : Ty_api_Command.den) (a3 : Int) (a4 : Ty_api_Deps.den) : Option (Int × Ty_api_Deps.den) := runF Alg.std G_althingref03_With T Try.f50 althingref11_Attrs.cuts althingref11_Attrs.ps althingref11_Attrs.r k a0 a1 a2 a3 a4
noncomputable def althingref11_Attrs (k : Nat) (a0 : List Ty_api_Record.den) (a1 : Ty_api_Instance.den) (a2 : Ty_api_Command.den) (a3 : Int) (a4 : Ty_api_Deps.den) : Option (Int × Ty_api_Deps.den) := sealed althingref11_Attrs.raw k a0 a1 a2 a3 a4
theorem althingref11_Attrs_raw (k : Nat) (a0 : List Ty_api_Record.den) (a1 : Ty_api_Instance.den) (a2 : Ty_api_Command.den) (a3 : Int) (a4 : Ty_api_Deps.den) : althingref11_Attrs k a0 a1 a2 a3 a4 = althingref11_Attrs.raw k a0 a1 a2 a3 a4 := by unfold althingref11_Attrs; rw [sealed_eq]
noncomputable def althingref11_Attrs.c3 (k : Nat) (x3 : Int) (x12 : List Ty_api_Record.den) (x13 : Int) (b9 : Ty_api_Deps.den) (b11 : Ty_api_Deps.den) : Option (Int × Ty_api_Deps.den) := runC Alg.std G_althingref03_With T Try.f50 althingref11_Attrs.cuts althingref11_Attrs.r 3 althingref11_Attrs.s3 k (x3, (), (), x12, x13, b9, b11, ())
noncomputable def althingref11_Attrs.c9 (k : Nat) (x3 : Int) (x12 : List Ty_api_Record.den) (x13 : Int) (x14 : Int) (b9 : Ty_api_Deps.den) (b11 : Ty_api_Deps.den) : Option (Int × Ty_api_Deps.den) := runC Alg.std G_althingref03_With T Try.f50 althingref11_Attrs.cuts althingref11_Attrs.r 9 althingref11_Attrs.s9 k (x3, (), (), x12, x13, x14, b9, b11, ())
noncomputable def althingref11_Attrs.c11 (k : Nat) (x3 : Int) (x12 : List Ty_api_Record.den) (x13 : Int) (b9 : Ty_api_Deps.den) (b11 : Ty_api_Deps.den) : Option (Int × Ty_api_Deps.den) := runC Alg.std G_althingref03_With T Try.f50 althingref11_Attrs.cuts althingref11_Attrs.r 11 althingref11_Attrs.s11 k (x3, (), (), x12, x13, b9, b11, ())
noncomputable def G_althingref11_Attrs (k : Nat) : Gam := ins 50 (.pu althingref11_Attrs.ps althingref11_Attrs.r (althingref11_Attrs k)) (G_althingref03_With k)
theorem ok_althingref11_Attrs : GOk Try.prog G_althingref11_Attrs := ok_althingref03_With.ins fun k => by rw [show althingref11_Attrs k = althingref11_Attrs.raw k from congrFun (sealed_eq althingref11_Attrs.raw) k]; exact runF_ok tabOk ok_althingref03_With mix Try.func50 Try.call50 althingref11_Attrs.cuts althingref11_Attrs.ps althingref11_Attrs.r (by rw [Try.ntmps50]; decide) k
def althingref12_Begin.s3 : List CK := [.tmp 0 (.sl 38 Ty_api_Record), .tmp 1 Ty.i64, .ptr 5 5 Ty_api_Command, .ptr 6 6 Ty_api_Record, .box 5 Ty_api_Command, .box 6 Ty_api_Record]
def althingref12_Begin.cuts : List (Nat × List CK) := [(3, althingref12_Begin.s3)]
abbrev althingref12_Begin.ps : List PK := [.val (.sl 38 Ty_api_Record), .val Ty.i64, .val Ty_api_Command]
abbrev althingref12_Begin.r : Ty := (.tup (.pair Ty_api_Record Ty.i64))
noncomputable def althingref12_Begin.raw (k : Nat) (a0 : List Ty_api_Record.den) (a1 : Int) (a2 : Ty_api_Command.den) : Option (Ty_api_Record.den × Int) := runF Alg.std G_althingref11_Attrs T Try.f27 althingref12_Begin.cuts althingref12_Begin.ps althingref12_Begin.r k a0 a1 a2
noncomputable def althingref12_Begin (k : Nat) (a0 : List Ty_api_Record.den) (a1 : Int) (a2 : Ty_api_Command.den) : Option (Ty_api_Record.den × Int) := sealed althingref12_Begin.raw k a0 a1 a2
theorem althingref12_Begin_raw (k : Nat) (a0 : List Ty_api_Record.den) (a1 : Int) (a2 : Ty_api_Command.den) : althingref12_Begin k a0 a1 a2 = althingref12_Begin.raw k a0 a1 a2 := by unfold althingref12_Begin; rw [sealed_eq]
noncomputable def althingref12_Begin.c3 (k : Nat) (x0 : List Ty_api_Record.den) (x1 : Int) (b5 : Ty_api_Command.den) (b6 : Ty_api_Record.den) : Option (Ty_api_Record.den × Int) := runC Alg.std G_althingref11_Attrs T Try.f27 althingref12_Begin.cuts althingref12_Begin.r 3 althingref12_Begin.s3 k (x0, x1, (), (), b5, b6, ())
noncomputable def G_althingref12_Begin (k : Nat) : Gam := ins 27 (.pu althingref12_Begin.ps althingref12_Begin.r (althingref12_Begin k)) (G_althingref11_Attrs k)
theorem ok_althingref12_Begin : GOk Try.prog G_althingref12_Begin := ok_althingref11_Attrs.ins fun k => by rw [show althingref12_Begin k = althingref12_Begin.raw k from congrFun (sealed_eq althingref12_Begin.raw) k]; exact runF_ok tabOk ok_althingref11_Attrs mix Try.func27 Try.call27 althingref12_Begin.cuts althingref12_Begin.ps althingref12_Begin.r (by rw [Try.ntmps27]; decide) k
def althinglaw12_AcceptBegins.s3 : List CK := [.tmp 0 (.sl 38 Ty_api_Record), .tmp 1 Ty.i64, .ptr 6 6 Ty_api_Command, .ptr 7 7 Ty_api_Instance, .box 6 Ty_api_Command, .box 7 Ty_api_Instance]
def althinglaw12_AcceptBegins.cuts : List (Nat × List CK) := [(3, althinglaw12_AcceptBegins.s3)]
abbrev althinglaw12_AcceptBegins.ps : List PK := [.val (.sl 38 Ty_api_Record), .val Ty.i64, .val Ty_api_Command, .val Ty_api_Instance]
abbrev althinglaw12_AcceptBegins.r : Ty := .bool
noncomputable def althinglaw12_AcceptBegins.raw (k : Nat) (a0 : List Ty_api_Record.den) (a1 : Int) (a2 : Ty_api_Command.den) (a3 : Ty_api_Instance.den) : Option Bool := runF Alg.std G_althingref12_Begin T Try.f8 althinglaw12_AcceptBegins.cuts althinglaw12_AcceptBegins.ps althinglaw12_AcceptBegins.r k a0 a1 a2 a3
noncomputable def althinglaw12_AcceptBegins (k : Nat) (a0 : List Ty_api_Record.den) (a1 : Int) (a2 : Ty_api_Command.den) (a3 : Ty_api_Instance.den) : Option Bool := sealed althinglaw12_AcceptBegins.raw k a0 a1 a2 a3
theorem althinglaw12_AcceptBegins_raw (k : Nat) (a0 : List Ty_api_Record.den) (a1 : Int) (a2 : Ty_api_Command.den) (a3 : Ty_api_Instance.den) : althinglaw12_AcceptBegins k a0 a1 a2 a3 = althinglaw12_AcceptBegins.raw k a0 a1 a2 a3 := by unfold althinglaw12_AcceptBegins; rw [sealed_eq]
noncomputable def althinglaw12_AcceptBegins.c3 (k : Nat) (x0 : List Ty_api_Record.den) (x1 : Int) (b6 : Ty_api_Command.den) (b7 : Ty_api_Instance.den) : Option Bool := runC Alg.std G_althingref12_Begin T Try.f8 althinglaw12_AcceptBegins.cuts althinglaw12_AcceptBegins.r 3 althinglaw12_AcceptBegins.s3 k (x0, x1, (), (), b6, b7, ())
noncomputable def G_althinglaw12_AcceptBegins (k : Nat) : Gam := ins 8 (.pu althinglaw12_AcceptBegins.ps althinglaw12_AcceptBegins.r (althinglaw12_AcceptBegins k)) (G_althingref12_Begin k)
theorem ok_althinglaw12_AcceptBegins : GOk Try.prog G_althinglaw12_AcceptBegins := ok_althingref12_Begin.ins fun k => by rw [show althinglaw12_AcceptBegins k = althinglaw12_AcceptBegins.raw k from congrFun (sealed_eq althinglaw12_AcceptBegins.raw) k]; exact runF_ok tabOk ok_althingref12_Begin mix Try.func8 Try.call8 althinglaw12_AcceptBegins.cuts althinglaw12_AcceptBegins.ps althinglaw12_AcceptBegins.r (by rw [Try.ntmps8]; decide) k
def althinglaw12_AcceptOwn.s3 : List CK := [.tmp 0 (.sl 38 Ty_api_Record), .tmp 1 Ty.i64, .ptr 5 5 Ty_api_Command, .box 5 Ty_api_Command]
def althinglaw12_AcceptOwn.s7 : List CK := [.tmp 0 (.sl 38 Ty_api_Record), .tmp 1 Ty.i64, .ptr 5 5 Ty_api_Command, .ptr 7 7 Ty_api_Record, .tmp 44 (.sl 38 Ty_api_Record), .tmp 45 Ty.i64, .tmp 46 Ty.i64, .box 5 Ty_api_Command, .box 7 Ty_api_Record]
def althinglaw12_AcceptOwn.s13 : List CK := [.tmp 0 (.sl 38 Ty_api_Record), .tmp 1 Ty.i64, .ptr 5 5 Ty_api_Command, .ptr 7 7 Ty_api_Record, .ptr 10 10 Ty_api_Record, .tmp 11 .bool, .tmp 44 (.sl 38 Ty_api_Record), .tmp 45 Ty.i64, .tmp 46 Ty.i64, .tmp 59 (.sl 38 Ty_api_Record), .tmp 60 Ty.i64, .tmp 61 Ty.i64, .box 5 Ty_api_Command, .box 7 Ty_api_Record, .box 10 Ty_api_Record]
def althinglaw12_AcceptOwn.cuts : List (Nat × List CK) := [(3, althinglaw12_AcceptOwn.s3), (7, althinglaw12_AcceptOwn.s7), (13, althinglaw12_AcceptOwn.s13)]
abbrev althinglaw12_AcceptOwn.ps : List PK := [.val (.sl 38 Ty_api_Record), .val Ty.i64, .val Ty_api_Command]
abbrev althinglaw12_AcceptOwn.r : Ty := .bool
noncomputable def althinglaw12_AcceptOwn.raw (k : Nat) (a0 : List Ty_api_Record.den) (a1 : Int) (a2 : Ty_api_Command.den) : Option Bool := runF Alg.std G_althinglaw12_AcceptBegins T Try.f9 althinglaw12_AcceptOwn.cuts althinglaw12_AcceptOwn.ps althinglaw12_AcceptOwn.r k a0 a1 a2
noncomputable def althinglaw12_AcceptOwn (k : Nat) (a0 : List Ty_api_Record.den) (a1 : Int) (a2 : Ty_api_Command.den) : Option Bool := sealed althinglaw12_AcceptOwn.raw k a0 a1 a2
theorem althinglaw12_AcceptOwn_raw (k : Nat) (a0 : List Ty_api_Record.den) (a1 : Int) (a2 : Ty_api_Command.den) : althinglaw12_AcceptOwn k a0 a1 a2 = althinglaw12_AcceptOwn.raw k a0 a1 a2 := by unfold althinglaw12_AcceptOwn; rw [sealed_eq]
noncomputable def althinglaw12_AcceptOwn.c3 (k : Nat) (x0 : List Ty_api_Record.den) (x1 : Int) (b5 : Ty_api_Command.den) : Option Bool := runC Alg.std G_althinglaw12_AcceptBegins T Try.f9 althinglaw12_AcceptOwn.cuts althinglaw12_AcceptOwn.r 3 althinglaw12_AcceptOwn.s3 k (x0, x1, (), b5, ())
noncomputable def althinglaw12_AcceptOwn.c7 (k : Nat) (x0 : List Ty_api_Record.den) (x1 : Int) (x44 : List Ty_api_Record.den) (x45 : Int) (x46 : Int) (b5 : Ty_api_Command.den) (b7 : Ty_api_Record.den) : Option Bool := runC Alg.std G_althinglaw12_AcceptBegins T Try.f9 althinglaw12_AcceptOwn.cuts althinglaw12_AcceptOwn.r 7 althinglaw12_AcceptOwn.s7 k (x0, x1, (), (), x44, x45, x46, b5, b7, ())
noncomputable def althinglaw12_AcceptOwn.c13 (k : Nat) (x0 : List Ty_api_Record.den) (x1 : Int) (x11 : Bool) (x44 : List Ty_api_Record.den) (x45 : Int) (x46 : Int) (x59 : List Ty_api_Record.den) (x60 : Int) (x61 : Int) (b5 : Ty_api_Command.den) (b7 : Ty_api_Record.den) (b10 : Ty_api_Record.den) : Option Bool := runC Alg.std G_althinglaw12_AcceptBegins T Try.f9 althinglaw12_AcceptOwn.cuts althinglaw12_AcceptOwn.r 13 althinglaw12_AcceptOwn.s13 k (x0, x1, (), (), (), x11, x44, x45, x46, x59, x60, x61, b5, b7, b10, ())
noncomputable def G_althinglaw12_AcceptOwn (k : Nat) : Gam := ins 9 (.pu althinglaw12_AcceptOwn.ps althinglaw12_AcceptOwn.r (althinglaw12_AcceptOwn k)) (G_althinglaw12_AcceptBegins k)
theorem ok_althinglaw12_AcceptOwn : GOk Try.prog G_althinglaw12_AcceptOwn := ok_althinglaw12_AcceptBegins.ins fun k => by rw [show althinglaw12_AcceptOwn k = althinglaw12_AcceptOwn.raw k from congrFun (sealed_eq althinglaw12_AcceptOwn.raw) k]; exact runF_ok tabOk ok_althinglaw12_AcceptBegins mix Try.func9 Try.call9 althinglaw12_AcceptOwn.cuts althinglaw12_AcceptOwn.ps althinglaw12_AcceptOwn.r (by rw [Try.ntmps9]; decide) k
end Go.Proofs.Ytmkiodkkhfdlpaa.V
end
section
set_option maxHeartbeats 4000000
set_option maxRecDepth 100000
namespace Go.Proofs.Ytmkiodkkhfdlpaa.V
open Go Go.Vm
theorem althinglaw05_Few_eq (k) (a0) : althinglaw05_Few k a0 = (althinglaw05_Few.c2 k a0 (a0.length : Int) 0) := (althinglaw05_Few_raw k a0).trans (by kernel_rfl)
theorem althinglaw05_Few.c2_eq (k) (x7) (x8) (x9) : althinglaw05_Few.c2 (k + 1) x7 x8 x9 = (bif (decide (x9 < x8)) then (bif (inI x9 x7.length) then (althinglaw05_Few.c5 k 0 x7 x8 x9 (x7.getD x9.toNat (Ty.zero Ty_api_Command))) else none) else (some true)) := by kernel_rfl
theorem althinglaw05_Few.c5_eq (k) (x5) (x7) (x8) (x9) (b4) : althinglaw05_Few.c5 (k + 1) x5 x7 x8 x9 b4 = (bif (decide (x5 < (b4.2.2.2.2.1.length : Int))) then (bif (decide (x5 ≤ 20)) then (althinglaw05_Few.c7 k x5 x7 x8 x9 b4) else (althinglaw05_Few.c10 k 0 x7 x8 x9 b4)) else (althinglaw05_Few.c10 k 0 x7 x8 x9 b4)) := by kernel_rfl
theorem althinglaw05_Few.c7_eq (k) (x5) (x7) (x8) (x9) (b4) : althinglaw05_Few.c7 (k + 1) x5 x7 x8 x9 b4 = (bif (inI x5 b4.2.2.2.2.1.length) then (bif (decide (((b4.2.2.2.2.1.getD x5.toNat (Ty.zero Ty_api_Read)).1.size : Int) > 100)) then (some false) else (althinglaw05_Few.c5 k (IntKind.wrap IntKind.i64 (x5 + 1)) x7 x8 x9 b4)) else none) := by kernel_rfl
theorem althinglaw05_Few.c10_eq (k) (x6) (x7) (x8) (x9) (b4) : althinglaw05_Few.c10 (k + 1) x6 x7 x8 x9 b4 = (bif (decide (x6 < (b4.2.2.2.2.2.1.length : Int))) then (bif (decide (x6 ≤ 20)) then (althinglaw05_Few.c12 k x6 x7 x8 x9 b4) else (althinglaw05_Few.c14 k x7 x8 x9 b4)) else (althinglaw05_Few.c14 k x7 x8 x9 b4)) := by kernel_rfl
theorem althinglaw05_Few.c12_eq (k) (x6) (x7) (x8) (x9) (b4) : althinglaw05_Few.c12 (k + 1) x6 x7 x8 x9 b4 = (bif (inI x6 b4.2.2.2.2.2.1.length) then (bif (decide (((b4.2.2.2.2.2.1.getD x6.toNat (Ty.zero Ty_api_Write)).1.size : Int) > 100)) then (some false) else (bif (inI x6 b4.2.2.2.2.2.1.length) then (bif (decide (((b4.2.2.2.2.2.1.getD x6.toNat (Ty.zero Ty_api_Write)).2.size : Int) > 100)) then (some false) else (althinglaw05_Few.c10 k (IntKind.wrap IntKind.i64 (x6 + 1)) x7 x8 x9 b4)) else none)) else none) := by kernel_rfl
theorem althinglaw05_Few.c14_eq (k) (x7) (x8) (x9) (b4) : althinglaw05_Few.c14 (k + 1) x7 x8 x9 b4 = (bif (decide ((b4.2.2.2.2.1.length : Int) > 20)) then (some false) else (bif (decide ((b4.2.2.2.2.2.1.length : Int) > 20)) then (some false) else (althinglaw05_Few.c2 k x7 x8 (IntKind.wrap IntKind.i64 (x9 + 1))))) := by kernel_rfl
theorem althinglaw11_Few_eq (k) (a0) : althinglaw11_Few k a0 = (althinglaw11_Few.c2 k a0 0) := (althinglaw11_Few_raw k a0).trans (by kernel_rfl)
theorem althinglaw11_Few.c2_eq (k) (x0) (x3) : althinglaw11_Few.c2 (k + 1) x0 x3 = (bif (decide (x3 < (x0.length : Int))) then (bif (decide (x3 ≤ 20)) then (althinglaw11_Few.c4 k x0 x3) else (some (decide ((x0.length : Int) ≤ 20)))) else (some (decide ((x0.length : Int) ≤ 20)))) := by kernel_rfl
theorem althinglaw11_Few.c4_eq (k) (x0) (x3) : althinglaw11_Few.c4 (k + 1) x0 x3 = (bif (inI x3 x0.length) then ((althinglaw05_Few k [(x0.getD x3.toNat (Ty.zero Ty_api_Record)).2.2.2.2.1]).bind fun r0 => (bif (!r0) then (some false) else (althinglaw11_Few.c2 k x0 (IntKind.wrap IntKind.i64 (x3 + 1))))) else none) := by kernel_rfl
theorem althinglaw12_few_eq (k) (a0) (a1) : althinglaw12_few k a0 a1 = ((althinglaw11_Few k a0).bind fun r0 => (bif r0 then ((althinglaw05_Few k [a1.2.2.2.2.2.2.2.2.1]).bind fun r1 => (some r1)) else (some false))) := (althinglaw12_few_raw k a0 a1).trans (by kernel_rfl)
theorem althingref02_RightInst_eq (k) (a0) : althingref02_RightInst k a0 = (bif (decide (a0.1 ≥ 0)) then (bif (decide (a0.1 ≤ 6)) then (bif (decide (a0.2 ≥ 1)) then (some (decide (a0.2 ≤ 1048576))) else (some false)) else (some false)) else (some false)) := (althingref02_RightInst_raw k a0).trans (by kernel_rfl)
theorem althingref02_RightBallot_eq (k) (a0) : althingref02_RightBallot k a0 = (bif (decide (a0.1 ≥ 0)) then (bif (decide (a0.1 ≤ 1099511627776)) then (bif (decide (a0.2 ≥ 0)) then (some (decide (a0.2 ≤ 6))) else (some false)) else (some false)) else (some false)) := (althingref02_RightBallot_raw k a0).trans (by kernel_rfl)
theorem althingref02_Order_eq (k) (a0) (a1) (a2) (a3) : althingref02_Order k a0 a1 a2 a3 = (bif (decide (a0 < a2)) then (some (-1)) else (bif (decide (a0 > a2)) then (some 1) else (bif (decide (a1 < a3)) then (some (-1)) else (bif (decide (a1 > a3)) then (some 1) else (some 0))))) := (althingref02_Order_raw k a0 a1 a2 a3).trans (by kernel_rfl)
theorem althingref02_Lower_eq (k) (a0) (a1) : althingref02_Lower k a0 a1 = ((althingref02_Order k a0.1 a0.2 a1.1 a1.2).bind fun r0 => (some (decide (r0 < 0)))) := (althingref02_Lower_raw k a0 a1).trans (by kernel_rfl)
theorem althingref05_Same_eq (k) (a0) (a1) : althingref05_Same k a0 a1 = (bif (a0.1 != a1.1) then (some false) else (bif (!(Ty.beq Ty_api_Instance a0.2.1 a1.2.1)) then (some false) else (bif (!(Ty.beq Ty_api_Instance a0.2.2.1 a1.2.2.1)) then (some false) else (bif (a0.2.2.2.1 != a1.2.2.2.1) then (some false) else (bif (!(Ty.beq Ty.bool a0.2.2.2.2.2.2 a1.2.2.2.2.2.2)) then (some false) else (bif ((a0.2.2.2.2.1.length : Int) != (a1.2.2.2.2.1.length : Int)) then (some false) else (bif ((a0.2.2.2.2.2.1.length : Int) != (a1.2.2.2.2.2.1.length : Int)) then (some false) else (althingref05_Same.c4 k 0 a0 a1)))))))) := (althingref05_Same_raw k a0 a1).trans (by kernel_rfl)
theorem althingref05_Same.c4_eq (k) (x5) (b2) (b3) : althingref05_Same.c4 (k + 1) x5 b2 b3 = (bif (decide (x5 < (b2.2.2.2.2.1.length : Int))) then (bif (inI x5 b2.2.2.2.2.1.length) then (bif (inI x5 b3.2.2.2.2.1.length) then (bif (!(Ty.beq Ty_api_Read (b2.2.2.2.2.1.getD x5.toNat (Ty.zero Ty_api_Read)) (b3.2.2.2.2.1.getD x5.toNat (Ty.zero Ty_api_Read)))) then (some false) else (althingref05_Same.c4 k (IntKind.wrap IntKind.i64 (x5 + 1)) b2 b3)) else none) else none) else (althingref05_Same.c9 k 0 b2 b3)) := by kernel_rfl
theorem althingref05_Same.c9_eq (k) (x6) (b2) (b3) : althingref05_Same.c9 (k + 1) x6 b2 b3 = (bif (decide (x6 < (b2.2.2.2.2.2.1.length : Int))) then (bif (inI x6 b2.2.2.2.2.2.1.length) then (bif (inI x6 b3.2.2.2.2.2.1.length) then (bif (!(Ty.beq Ty_api_Write (b2.2.2.2.2.2.1.getD x6.toNat (Ty.zero Ty_api_Write)) (b3.2.2.2.2.2.1.getD x6.toNat (Ty.zero Ty_api_Write)))) then (some false) else (althingref05_Same.c9 k (IntKind.wrap IntKind.i64 (x6 + 1)) b2 b3)) else none) else none) else (some true)) := by kernel_rfl
theorem althingref02_RightTxn_eq (k) (a0) : althingref02_RightTxn k a0 = (bif (decide (a0.1 ≥ 0)) then (bif (decide (a0.1 ≤ 3)) then (bif (decide (a0.2 ≥ 1)) then (some (decide (a0.2 ≤ 1099511627776))) else (some false)) else (some false)) else (some false)) := (althingref02_RightTxn_raw k a0).trans (by kernel_rfl)
theorem althingref02_RightStamp_eq (k) (a0) : althingref02_RightStamp k a0 = (bif (decide (a0.1 ≥ 0)) then (bif (decide (a0.1 ≤ 1099511627776)) then (bif (decide (a0.2 ≥ 0)) then (some (decide (a0.2 ≤ 3))) else (some false)) else (some false)) else (some false)) := (althingref02_RightStamp_raw k a0).trans (by kernel_rfl)
theorem althingref02_Before_eq (k) (a0) (a1) : althingref02_Before k a0 a1 = ((althingref02_Order k a0.1 a0.2 a1.1 a1.2).bind fun r0 => (some (decide (r0 < 0)))) := (althingref02_Before_raw k a0 a1).trans (by kernel_rfl)
theorem althingref04_Right_eq (k) (a0) : althingref04_Right k a0 = (bif (decide ((a0.size : Int) > 0)) then (some (decide ((a0.size : Int) < 9))) else (some false)) := (althingref04_Right_raw k a0).trans (by kernel_rfl)
theorem althingref04_Before_eq (k) (a0) (a1) : althingref04_Before k a0 a1 = (althingref04_Before.c2 k a0 a1 0) := (althingref04_Before_raw k a0 a1).trans (by kernel_rfl)
theorem althingref04_Before.c2_eq (k) (x0) (x1) (x5) : althingref04_Before.c2 (k + 1) x0 x1 x5 = (bif (decide (x5 < (x1.size : Int))) then (bif (x5 == (x0.size : Int)) then (some true) else (bif (inI x5 x0.size) then (bif (inI x5 x1.size) then (bif ((strAt x0 x5) != (strAt x1 x5)) then (bif (inI x5 x0.size) then (bif (inI x5 x1.size) then (some (decide ((strAt x0 x5) < (strAt x1 x5)))) else none) else none) else (althingref04_Before.c2 k x0 x1 (IntKind.wrap IntKind.i64 (x5 + 1)))) else none) else none)) else (some false)) := by kernel_rfl
theorem althingref04_Rights_eq (k) (a0) : althingref04_Rights k a0 = (althingref04_Rights.c2 k a0 0) := (althingref04_Rights_raw k a0).trans (by kernel_rfl)
theorem althingref04_Rights.c2_eq (k) (x0) (x3) : althingref04_Rights.c2 (k + 1) x0 x3 = (bif (decide (x3 < (x0.length : Int))) then (bif (inI x3 x0.length) then ((althingref04_Right k (x0.getD x3.toNat (⟨#[]⟩ : ByteArray))).bind fun r0 => (bif (!r0) then (some false) else (bif (decide (x3 > 0)) then (bif (inI (IntKind.wrap IntKind.i64 (x3 - 1)) x0.length) then (bif (inI x3 x0.length) then ((althingref04_Before k (x0.getD (IntKind.wrap IntKind.i64 (x3 - 1)).toNat (⟨#[]⟩ : ByteArray)) (x0.getD x3.toNat (⟨#[]⟩ : ByteArray))).bind fun r1 => (bif (!r1) then (some false) else (althingref04_Rights.c2 k x0 (IntKind.wrap IntKind.i64 (x3 + 1))))) else none) else none) else (althingref04_Rights.c2 k x0 (IntKind.wrap IntKind.i64 (x3 + 1)))))) else none) else (some (decide ((x0.length : Int) ≤ 8)))) := by kernel_rfl
theorem althingref05_Right_eq (k) (a0) : althingref05_Right k a0 = (bif (a0.1 == 0) then (bif (Ty.beq Ty_api_Instance a0.2.1 (Ty.zero (Ty.pair Ty.i64 Ty.i64))) then (bif (Ty.beq Ty_api_Instance a0.2.2.1 (Ty.zero (Ty.pair Ty.i64 Ty.i64))) then (bif (a0.2.2.2.1 == 0) then (bif ((a0.2.2.2.2.1.length : Int) == 0) then (bif ((a0.2.2.2.2.2.1.length : Int) == 0) then (some (!a0.2.2.2.2.2.2)) else (some false)) else (some false)) else (some false)) else (some false)) else (some false)) else (bif (a0.1 != 1) then (bif (a0.1 != 2) then (some false) else (bif (a0.1 == 1) then (bif a0.2.2.2.2.2.2 then (some false) else (althingref05_Right.c5 k a0)) else (althingref05_Right.c5 k a0))) else (bif (a0.1 == 1) then (bif a0.2.2.2.2.2.2 then (some false) else (althingref05_Right.c5 k a0)) else (althingref05_Right.c5 k a0)))) := (althingref05_Right_raw k a0).trans (by kernel_rfl)
theorem althingref05_Right.c5_eq (k) (b1) : althingref05_Right.c5 (k + 1) b1 = ((althingref02_RightTxn k b1.2.1).bind fun r0 => (bif (!r0) then (some false) else ((althingref02_RightStamp k b1.2.2.1).bind fun r1 => (bif (!r1) then (some false) else (bif (b1.2.2.1.1 == 0) then (some false) else (bif (b1.2.2.1.2 != b1.2.1.1) then (some false) else (althingref05_Right.c7 k b1))))))) := by kernel_rfl
theorem althingref05_Right.c7_eq (k) (b1) : althingref05_Right.c7 (k + 1) b1 = (bif (decide (b1.2.2.2.1 ≤ 0)) then (some false) else (bif (decide (b1.2.2.2.1 ≥ 16)) then (some false) else (bif ((b1.2.2.2.2.1.length : Int) == 0) then (bif ((b1.2.2.2.2.2.1.length : Int) == 0) then (some false) else (althingref05_Right.c11 k [] 0 b1)) else (althingref05_Right.c11 k [] 0 b1)))) := by kernel_rfl
theorem althingref05_Right.c11_eq (k) (x3) (x4) (b1) : althingref05_Right.c11 (k + 1) x3 x4 b1 = (bif (decide (x4 < (b1.2.2.2.2.1.length : Int))) then (bif (inI x4 b1.2.2.2.2.1.length) then ((althingref02_RightStamp k (b1.2.2.2.2.1.getD x4.toNat (Ty.zero Ty_api_Read)).2).bind fun r0 => (bif (!r0) then (some false) else (bif (inI x4 b1.2.2.2.2.1.length) then ((althingref02_Before k (b1.2.2.2.2.1.getD x4.toNat (Ty.zero Ty_api_Read)).2 b1.2.2.1).bind fun r1 => (bif (!r1) then (some false) else (althingref05_Right.c15 k x3 x4 b1))) else none))) else none) else (althingref05_Right.c18 k x3 [] 0 b1)) := by kernel_rfl
theorem althingref05_Right.c15_eq (k) (x3) (x4) (b1) : althingref05_Right.c15 (k + 1) x3 x4 b1 = (bif (inI x4 b1.2.2.2.2.1.length) then (bif (decide ((x3.length + 1) < 4294967296)) then (althingref05_Right.c11 k (x3 ++ [(b1.2.2.2.2.1.getD x4.toNat (Ty.zero Ty_api_Read)).1]) (IntKind.wrap IntKind.i64 (x4 + 1)) b1) else none) else none) := by kernel_rfl
theorem althingref05_Right.c18_eq (k) (x3) (x5) (x6) (b1) : althingref05_Right.c18 (k + 1) x3 x5 x6 b1 = (bif (decide (x6 < (b1.2.2.2.2.2.1.length : Int))) then (bif (inI x6 b1.2.2.2.2.2.1.length) then (bif (decide (((b1.2.2.2.2.2.1.getD x6.toNat (Ty.zero Ty_api_Write)).2.size : Int) > 8)) then (some false) else (bif (inI x6 b1.2.2.2.2.2.1.length) then (bif (decide ((x5.length + 1) < 4294967296)) then (althingref05_Right.c18 k x3 (x5 ++ [(b1.2.2.2.2.2.1.getD x6.toNat (Ty.zero Ty_api_Write)).1]) (IntKind.wrap IntKind.i64 (x6 + 1)) b1) else none) else none)) else none) else ((althingref04_Rights k x3).bind fun r0 => (bif r0 then ((althingref04_Rights k x5).bind fun r1 => (some r1)) else (some false)))) := by kernel_rfl
theorem althingref03_Right_eq (k) (a0) : althingref03_Right k a0 = (althingref03_Right.c2 k 0 a0) := (althingref03_Right_raw k a0).trans (by kernel_rfl)
theorem althingref03_Right.c2_eq (k) (x3) (b1) : althingref03_Right.c2 (k + 1) x3 b1 = (bif (decide (x3 < 7)) then (bif (inI x3 7) then (bif (decide ((b1.getD x3.toNat 0) < 0)) then (some false) else (bif (inI x3 7) then (bif (decide ((b1.getD x3.toNat 0) > 1048576)) then (some false) else (althingref03_Right.c2 k (IntKind.wrap IntKind.i64 (x3 + 1)) b1)) else none)) else none) else (some true)) := by kernel_rfl
theorem althingref07_RightRecord_eq (k) (a0) : althingref07_RightRecord k a0 = ((althingref02_RightInst k a0.1).bind fun r0 => (bif (!r0) then (some false) else ((althingref02_RightBallot k a0.2.2.1).bind fun r1 => (bif (!r1) then (some false) else ((althingref02_RightBallot k a0.2.2.2.1).bind fun r2 => (bif (!r2) then (some false) else ((althingref02_Lower k a0.2.2.1 a0.2.2.2.1).bind fun r3 => (bif r3 then (some false) else (bif a0.2.2.2.2.2.2.2 then (bif (a0.2.1 != 1) then (some false) else (althingref07_RightRecord.c3 k a0)) else (althingref07_RightRecord.c3 k a0)))))))))) := (althingref07_RightRecord_raw k a0).trans (by kernel_rfl)
theorem althingref07_RightRecord.c3_eq (k) (b1) : althingref07_RightRecord.c3 (k + 1) b1 = (bif (b1.2.1 == 0) then (bif (Ty.beq Ty_api_Instance b1.2.2.2.1 (Ty.zero (Ty.pair Ty.i64 Ty.i64))) then (bif (b1.2.2.2.2.2.1 == 0) then (bif (Ty.beq Ty_api_Deps b1.2.2.2.2.2.2.1 [0, 0, 0, 0, 0, 0, 0]) then ((althingref05_Same k b1.2.2.2.2.1 (Ty.zero (Ty.pair Ty.i64 (Ty.pair Ty_api_Instance (Ty.pair Ty_api_Instance (Ty.pair Ty.i64 (Ty.pair (Ty.sl 79 Ty_api_Read) (Ty.pair (Ty.sl 81 Ty_api_Write) Ty.bool)))))))).bind fun r0 => (some r0)) else (some false)) else (some false)) else (some false)) else (bif (decide (b1.2.1 ≥ 1)) then (bif (decide (b1.2.1 ≤ 3)) then ((althingref05_Right k b1.2.2.2.2.1).bind fun r0 => (bif r0 then (bif (decide (b1.2.2.2.2.2.1 ≥ 1)) then (bif (decide (b1.2.2.2.2.2.1 ≤ 1099511627776)) then ((althingref03_Right k b1.2.2.2.2.2.2.1).bind fun r1 => (some r1)) else (some false)) else (some false)) else (some false))) else (some false)) else (some false))) := by kernel_rfl
theorem althinglaw12_rights_eq (k) (a0) : althinglaw12_rights k a0 = (althinglaw12_rights.c2 k a0 (a0.length : Int) 0) := (althinglaw12_rights_raw k a0).trans (by kernel_rfl)
theorem althinglaw12_rights.c2_eq (k) (x5) (x6) (x7) : althinglaw12_rights.c2 (k + 1) x5 x6 x7 = (bif (decide (x7 < x6)) then (bif (inI x7 x5.length) then ((althingref07_RightRecord k (x5.getD x7.toNat (Ty.zero Ty_api_Record))).bind fun r0 => (bif (!r0) then (some false) else (althinglaw12_rights.c2 k x5 x6 (IntKind.wrap IntKind.i64 (x7 + 1))))) else none) else (some true)) := by kernel_rfl
theorem wire_within_eq (k) (a0) (a1) (a2) : wire_within k a0 a1 a2 = (bif (decide (a0 ≥ a1)) then (some (decide (a0 ≤ a2))) else (some false)) := (wire_within_raw k a0 a1 a2).trans (by kernel_rfl)
theorem stamp_within_int_eq (k) (a0) (a1) (a2) : stamp_within_int k a0 a1 a2 = (bif (decide (a0 ≥ a1)) then (some (decide (a0 ≤ a2))) else (some false)) := (stamp_within_int_raw k a0 a1 a2).trans (by kernel_rfl)
theorem stamp_RightBallot_eq (k) (a0) : stamp_RightBallot k a0 = ((stamp_within_int k a0.1 0 1099511627776).bind fun r0 => (bif r0 then ((stamp_within_int k a0.2 0 6).bind fun r1 => (some r1)) else (some false))) := (stamp_RightBallot_raw k a0).trans (by kernel_rfl)
theorem stamp_RightInst_eq (k) (a0) : stamp_RightInst k a0 = ((stamp_within_int k a0.1 0 6).bind fun r0 => (bif r0 then ((stamp_within_int k a0.2 1 1048576).bind fun r1 => (some r1)) else (some false))) := (stamp_RightInst_raw k a0).trans (by kernel_rfl)
theorem stamp_order_eq (k) (a0) (a1) (a2) (a3) : stamp_order k a0 a1 a2 a3 = (bif (decide (a0 < a2)) then (some (-1)) else (bif (a0 == a2) then (bif (decide (a1 < a3)) then (some (-1)) else (stamp_order.c3 k a0 a1 a2 a3)) else (stamp_order.c3 k a0 a1 a2 a3))) := (stamp_order_raw k a0 a1 a2 a3).trans (by kernel_rfl)
theorem stamp_order.c3_eq (k) (x0) (x1) (x2) (x3) : stamp_order.c3 (k + 1) x0 x1 x2 x3 = (bif (x0 == x2) then (bif (x1 == x3) then (some 0) else (some 1)) else (some 1)) := by kernel_rfl
theorem stamp_CompareBallots_eq (k) (a0) (a1) : stamp_CompareBallots k a0 a1 = ((stamp_order k a0.1 a0.2 a1.1 a1.2).bind fun r0 => (some r0)) := (stamp_CompareBallots_raw k a0 a1).trans (by kernel_rfl)
theorem slices_Equal_api_Read_api_Read_eq (k) (a0) (a1) : slices_Equal_api_Read_api_Read k a0 a1 = (bif ((a0.length : Int) != (a1.length : Int)) then (some false) else (slices_Equal_api_Read_api_Read.c4 k a0 a1 (a0.length : Int) 0)) := (slices_Equal_api_Read_api_Read_raw k a0 a1).trans (by kernel_rfl)
theorem slices_Equal_api_Read_api_Read.c4_eq (k) (x0) (x1) (x12) (x13) : slices_Equal_api_Read_api_Read.c4 (k + 1) x0 x1 x12 x13 = (bif (decide (x13 < x12)) then (bif (inI x13 x0.length) then (bif (inI x13 x1.length) then (bif (!(Ty.beq Ty_api_Read (x0.getD x13.toNat (Ty.zero Ty_api_Read)) (x1.getD x13.toNat (Ty.zero Ty_api_Read)))) then (some false) else (slices_Equal_api_Read_api_Read.c4 k x0 x1 x12 (IntKind.wrap IntKind.i64 (x13 + 1)))) else none) else none) else (some true)) := by kernel_rfl
theorem slices_Equal_api_Write_api_Write_eq (k) (a0) (a1) : slices_Equal_api_Write_api_Write k a0 a1 = (bif ((a0.length : Int) != (a1.length : Int)) then (some false) else (slices_Equal_api_Write_api_Write.c4 k a0 a1 (a0.length : Int) 0)) := (slices_Equal_api_Write_api_Write_raw k a0 a1).trans (by kernel_rfl)
theorem slices_Equal_api_Write_api_Write.c4_eq (k) (x0) (x1) (x12) (x13) : slices_Equal_api_Write_api_Write.c4 (k + 1) x0 x1 x12 x13 = (bif (decide (x13 < x12)) then (bif (inI x13 x0.length) then (bif (inI x13 x1.length) then (bif (!(Ty.beq Ty_api_Write (x0.getD x13.toNat (Ty.zero Ty_api_Write)) (x1.getD x13.toNat (Ty.zero Ty_api_Write)))) then (some false) else (slices_Equal_api_Write_api_Write.c4 k x0 x1 x12 (IntKind.wrap IntKind.i64 (x13 + 1)))) else none) else none) else (some true)) := by kernel_rfl
theorem command_Same_eq (k) (a0) (a1) : command_Same k a0 a1 = (bif (a0.1 == a1.1) then (bif (Ty.beq Ty_api_Instance a0.2.1 a1.2.1) then (bif (Ty.beq Ty_api_Instance a0.2.2.1 a1.2.2.1) then (bif (a0.2.2.2.1 == a1.2.2.2.1) then (bif (Ty.beq Ty.bool a0.2.2.2.2.2.2 a1.2.2.2.2.2.2) then ((slices_Equal_api_Read_api_Read k a0.2.2.2.2.1 a1.2.2.2.2.1).bind fun r0 => (bif r0 then ((slices_Equal_api_Write_api_Write k a0.2.2.2.2.2.1 a1.2.2.2.2.2.1).bind fun r1 => (some r1)) else (some false))) else (some false)) else (some false)) else (some false)) else (some false)) else (some false)) := (command_Same_raw k a0 a1).trans (by kernel_rfl)
theorem wire_SameRecord_eq (k) (a0) (a1) : wire_SameRecord k a0 a1 = (bif (Ty.beq Ty_api_Instance a0.1 a1.1) then (bif (a0.2.1 == a1.2.1) then (bif (Ty.beq Ty_api_Instance a0.2.2.1 a1.2.2.1) then (bif (Ty.beq Ty_api_Instance a0.2.2.2.1 a1.2.2.2.1) then (bif (a0.2.2.2.2.2.1 == a1.2.2.2.2.2.1) then (bif (Ty.beq Ty_api_Deps a0.2.2.2.2.2.2.1 a1.2.2.2.2.2.2.1) then (bif (Ty.beq Ty.bool a0.2.2.2.2.2.2.2 a1.2.2.2.2.2.2.2) then ((command_Same k a0.2.2.2.2.1 a1.2.2.2.2.1).bind fun r0 => (some r0)) else (some false)) else (some false)) else (some false)) else (some false)) else (some false)) else (some false)) else (some false)) := (wire_SameRecord_raw k a0 a1).trans (by kernel_rfl)
theorem stamp_RightTxn_eq (k) (a0) : stamp_RightTxn k a0 = ((stamp_within_int k a0.1 0 3).bind fun r0 => (bif r0 then ((stamp_within_int k a0.2 1 1099511627776).bind fun r1 => (some r1)) else (some false))) := (stamp_RightTxn_raw k a0).trans (by kernel_rfl)
theorem stamp_RightStamp_eq (k) (a0) : stamp_RightStamp k a0 = ((stamp_within_int k a0.1 0 1099511627776).bind fun r0 => (bif r0 then ((stamp_within_int k a0.2 0 3).bind fun r1 => (some r1)) else (some false))) := (stamp_RightStamp_raw k a0).trans (by kernel_rfl)
theorem stamp_CompareStamps_eq (k) (a0) (a1) : stamp_CompareStamps k a0 a1 = ((stamp_order k a0.1 a0.2 a1.1 a1.2).bind fun r0 => (some r0)) := (stamp_CompareStamps_raw k a0 a1).trans (by kernel_rfl)
theorem command_Right_1_eq (k) (a0) (a1) : command_Right_1 k a0 a1 = ((stamp_RightStamp k a0.2).bind fun r0 => (bif r0 then ((stamp_CompareStamps k a0.2 a1.2.2.1).bind fun r1 => (some (decide (r1 < 0)))) else (some false))) := (command_Right_1_raw k a0 a1).trans (by kernel_rfl)
theorem keys_Right_eq (k) (a0) : keys_Right k a0 = (bif (decide ((a0.size : Int) ≥ 1)) then (some (decide ((a0.size : Int) ≤ 8))) else (some false)) := (keys_Right_raw k a0).trans (by kernel_rfl)
theorem keys_Rights_eq (k) (a0) : keys_Rights k a0 = (keys_Rights.c2 k a0 a0 (a0.length : Int) 0) := (keys_Rights_raw k a0).trans (by kernel_rfl)
theorem keys_Rights.c2_eq (k) (x0) (x5) (x6) (x7) : keys_Rights.c2 (k + 1) x0 x5 x6 x7 = (bif (decide (x7 < x6)) then (bif (inI x7 x5.length) then ((keys_Right k (x5.getD x7.toNat (⟨#[]⟩ : ByteArray))).bind fun r0 => (bif (!r0) then (some false) else (bif (decide (x7 > 0)) then (bif (inI (IntKind.wrap IntKind.i64 (x7 - 1)) x0.length) then (bif (!(strLt (x0.getD (IntKind.wrap IntKind.i64 (x7 - 1)).toNat (⟨#[]⟩ : ByteArray)) (x5.getD x7.toNat (⟨#[]⟩ : ByteArray)))) then (some false) else (keys_Rights.c2 k x0 x5 x6 (IntKind.wrap IntKind.i64 (x7 + 1)))) else none) else (keys_Rights.c2 k x0 x5 x6 (IntKind.wrap IntKind.i64 (x7 + 1)))))) else none) else (some (decide ((x0.length : Int) ≤ 8)))) := by kernel_rfl
theorem command_Right_eq (k) (a0) : command_Right k a0 = (bif (a0.1 == 0) then ((command_Same k a0 (Ty.zero (Ty.pair Ty.i64 (Ty.pair Ty_api_Instance (Ty.pair Ty_api_Instance (Ty.pair Ty.i64 (Ty.pair (Ty.sl 79 Ty_api_Read) (Ty.pair (Ty.sl 81 Ty_api_Write) Ty.bool)))))))).bind fun r0 => (some r0)) else (bif (a0.1 == 1) then (bif (a0.1 == 1) then (command_Right.c7 k a0) else (some false)) else (bif (a0.1 == 2) then (command_Right.c7 k a0) else (some false)))) := (command_Right_raw k a0).trans (by kernel_rfl)
theorem command_Right.c7_eq (k) (b1) : command_Right.c7 (k + 1) b1 = ((stamp_RightTxn k b1.2.1).bind fun r0 => (bif (!r0) then (some false) else ((stamp_RightStamp k b1.2.2.1).bind fun r1 => (bif (!r1) then (some false) else (bif (decide (b1.2.2.1.1 < 1)) then (some false) else (bif (b1.2.2.1.2 != b1.2.1.1) then (some false) else (bif (decide (b1.2.2.2.1 < 1)) then (some false) else (bif (decide (b1.2.2.2.1 > 15)) then (some false) else (bif ((IntKind.wrap IntKind.i64 ((b1.2.2.2.2.1.length : Int) + (b1.2.2.2.2.2.1.length : Int))) == 0) then (some false) else (bif b1.2.2.2.2.2.2 then (bif (b1.1 == 1) then (some false) else (command_Right.c9 k b1)) else (command_Right.c9 k b1))))))))))) := by kernel_rfl
theorem command_Right.c9_eq (k) (b1) : command_Right.c9 (k + 1) b1 = (command_Right.c11 k b1.2.2.2.2.1 (b1.2.2.2.2.1.length : Int) 0 b1) := by kernel_rfl
theorem command_Right.c11_eq (k) (x74) (x75) (x76) (b1) : command_Right.c11 (k + 1) x74 x75 x76 b1 = (bif (decide (x76 < x75)) then (bif (inI x76 x74.length) then ((command_Right_1 k (x74.getD x76.toNat (Ty.zero Ty_api_Read)) b1).bind fun r0 => (bif (!r0) then (some false) else (command_Right.c11 k x74 x75 (IntKind.wrap IntKind.i64 (x76 + 1)) b1))) else none) else (command_Right.c17 k b1.2.2.2.2.2.1 (b1.2.2.2.2.2.1.length : Int) 0 b1)) := by kernel_rfl
theorem command_Right.c17_eq (k) (x86) (x87) (x88) (b1) : command_Right.c17 (k + 1) x86 x87 x88 b1 = (bif (decide (x88 < x87)) then (bif (inI x88 x86.length) then (bif (decide (((x86.getD x88.toNat (Ty.zero Ty_api_Write)).2.size : Int) > 8)) then (some false) else (command_Right.c17 k x86 x87 (IntKind.wrap IntKind.i64 (x88 + 1)) b1)) else none) else ((command_read k b1).bind fun r0 => ((keys_Rights k r0).bind fun r1 => (bif r1 then ((command_written k b1).bind fun r2 => ((keys_Rights k r2).bind fun r3 => (some r3))) else (some false))))) := by kernel_rfl
theorem deps_Right_eq (k) (a0) : deps_Right k a0 = (deps_Right.c2 k a0 0) := (deps_Right_raw k a0).trans (by kernel_rfl)
theorem deps_Right.c2_eq (k) (x5) (x6) : deps_Right.c2 (k + 1) x5 x6 = (bif (decide (x6 < 7)) then (bif (inI x6 7) then (bif (decide ((x5.getD x6.toNat 0) < 0)) then (some false) else (bif (decide ((x5.getD x6.toNat 0) > 1048576)) then (some false) else (deps_Right.c2 k x5 (IntKind.wrap IntKind.i64 (x6 + 1))))) else none) else (some true)) := by kernel_rfl
theorem wire_RightRecord_eq (k) (a0) : wire_RightRecord k a0 = ((stamp_RightInst k a0.1).bind fun r0 => (bif (!r0) then (some false) else ((stamp_RightBallot k a0.2.2.1).bind fun r1 => (bif (!r1) then (some false) else ((stamp_RightBallot k a0.2.2.2.1).bind fun r2 => (bif (!r2) then (some false) else ((stamp_CompareBallots k a0.2.2.2.1 a0.2.2.1).bind fun r3 => (bif (decide (r3 > 0)) then (some false) else ((wire_within k a0.2.1 0 3).bind fun r4 => (bif (!r4) then (some false) else (bif a0.2.2.2.2.2.2.2 then (bif (a0.2.1 != 1) then (some false) else (wire_RightRecord.c3 k a0)) else (wire_RightRecord.c3 k a0)))))))))))) := (wire_RightRecord_raw k a0).trans (by kernel_rfl)
theorem wire_RightRecord.c3_eq (k) (b1) : wire_RightRecord.c3 (k + 1) b1 = (bif (b1.2.1 == 0) then ((wire_SameRecord k b1 (b1.1, (0, (b1.2.2.1, (Ty.zero (Ty.pair Ty_api_Instance (Ty.pair Ty_api_Command (Ty.pair Ty.i64 (Ty.pair Ty_api_Deps Ty.bool))))))))).bind fun r0 => (some r0)) else ((command_Right k b1.2.2.2.2.1).bind fun r0 => (bif r0 then ((wire_within k b1.2.2.2.2.2.1 1 1099511627776).bind fun r1 => (bif r1 then ((deps_Right k b1.2.2.2.2.2.2.1).bind fun r2 => (some r2)) else (some false))) else (some false)))) := by kernel_rfl
theorem wire_RightMessage_eq (k) (a0) : wire_RightMessage k a0 = ((wire_within k a0.1 1 8).bind fun r0 => (bif r0 then ((wire_within k a0.2.1 0 6).bind fun r1 => (bif r1 then ((wire_within k a0.2.2.1 0 6).bind fun r2 => (bif r2 then ((stamp_RightBallot k a0.2.2.2.1).bind fun r3 => (bif r3 then ((wire_RightRecord k a0.2.2.2.2).bind fun r4 => (some r4)) else (some false))) else (some false))) else (some false))) else (some false))) := (wire_RightMessage_raw k a0).trans (by kernel_rfl)
theorem accept_question_1_eq (k) (a0) (a1) : accept_question_1 k a0 a1 = (bif (a1.2.2.2.2.2.1 == a0) then (some (Ty.beq Ty_api_Instance a1.2.2.2.2.2.2.2.1 a1.2.2.2.1)) else (some false)) := (accept_question_1_raw k a0 a1).trans (by kernel_rfl)
theorem accept_question_eq (k) (a0) (a1) : accept_question k a0 a1 = ((wire_RightMessage k a1).bind fun r0 => (bif (!r0) then (some false) else (bif (a1.2.2.1 != a0) then (some false) else (accept_question.c3 k a1)))) := (accept_question_raw k a0 a1).trans (by kernel_rfl)
theorem accept_question.c3_eq (k) (b3) : accept_question.c3 (k + 1) b3 = (bif (b3.1 == 1) then ((accept_question_1 k 1 b3).bind fun r0 => (some r0)) else (bif (b3.1 == 3) then ((accept_question_1 k 2 b3).bind fun r0 => (some r0)) else (bif (b3.1 == 5) then (some (b3.2.2.2.2.2.1 == 3)) else (some (b3.1 == 6))))) := by kernel_rfl
theorem accept_own_eq (k) (a0) : accept_own k a0 = ((command_Clone k a0.2.2.2.2.1).bind fun r0 => (some (a0.1, (a0.2.1, (a0.2.2.1, (a0.2.2.2.1, (r0, a0.2.2.2.2.2))))))) := (accept_own_raw k a0).trans (by kernel_rfl)
theorem accept_Know_eq (k) (a0) (a1) : accept_Know k a0 a1 = (accept_Know.c2 k a0 (IntKind.wrap IntKind.i64 ((a0.length : Int) - 1)) a1 (Ty.zero Ty_api_Record)) := (accept_Know_raw k a0 a1).trans (by kernel_rfl)
theorem accept_Know.c2_eq (k) (x0) (x5) (b3) (b4) : accept_Know.c2 (k + 1) x0 x5 b3 b4 = (bif (decide (x5 ≥ 0)) then (bif (inI x5 x0.length) then (bif (Ty.beq Ty_api_Instance (x0.getD x5.toNat (Ty.zero Ty_api_Record)).1 b3) then (bif (inI x5 x0.length) then ((accept_own k (x0.getD x5.toNat (Ty.zero Ty_api_Record))).bind fun r0 => (some r0)) else none) else (accept_Know.c2 k x0 (IntKind.wrap IntKind.i64 (x5 - 1)) b3 b4)) else none) else (some (b3, (Ty.zero (Ty.pair Ty.i64 (Ty.pair Ty_api_Instance (Ty.pair Ty_api_Instance (Ty.pair Ty_api_Command (Ty.pair Ty.i64 (Ty.pair Ty_api_Deps Ty.bool)))))))))) := by kernel_rfl
theorem accept_Step_keep_eq (k) (a0) (a1) : accept_Step_keep k a0 a1 = ((accept_own k a1).bind fun r0 => (some (r0, (true, a0.2.2)))) := (accept_Step_keep_raw k a0 a1).trans (by kernel_rfl)
theorem accept_Step_tell_eq (k) (a0) (a1) (a2) (a3) (a4) : accept_Step_tell k a0 a1 a2 a3 a4 = ((accept_own k a4).bind fun r0 => (some (a0.1, (a0.2.1, ((a2, (a1.2.2.1, (a1.2.1, (a3, r0)))), true))))) := (accept_Step_tell_raw k a0 a1 a2 a3 a4).trans (by kernel_rfl)
theorem deps_is_eq (k) (a0) : deps_is k a0 = (bif (decide (a0.1 ≥ 0)) then (some (decide (a0.1 < 7))) else (some false)) := (deps_is_raw k a0).trans (by kernel_rfl)
theorem deps_With_eq (k) (a0) (a1) : deps_With k a0 a1 = ((deps_is k a1).bind fun r0 => (bif r0 then (bif (inI a1.1 7) then (bif (inI a1.1 7) then (some (a0.set a1.1.toNat (max (a0.getD a1.1.toNat 0) a1.2))) else none) else none) else (some a0))) := (deps_With_raw k a0 a1).trans (by kernel_rfl)
theorem index_Attrs_eq (k) (a0) (a1) (a2) (a3) (a4) : index_Attrs k a0 a1 a2 a3 a4 = ((index_Against k a0 a1 a2).bind fun r0 => (index_Attrs.c2 k a3 r0 (r0.length : Int) 0 a4 (Ty.zero Ty_api_Deps))) := (index_Attrs_raw k a0 a1 a2 a3 a4).trans (by kernel_rfl)
theorem index_Attrs.c2_eq (k) (x3) (x17) (x18) (x19) (b9) (b11) : index_Attrs.c2 (k + 1) x3 x17 x18 x19 b9 b11 = (bif (decide (x19 < x18)) then (bif (inI x19 x17.length) then ((deps_With k b9 (x17.getD x19.toNat (Ty.zero Ty_api_Record)).1).bind fun r0 => (index_Attrs.c2 k (max x3 (IntKind.wrap IntKind.i64 ((min (x17.getD x19.toNat (Ty.zero Ty_api_Record)).2.2.2.2.2.1 1099511627775) + 1))) x17 x18 (IntKind.wrap IntKind.i64 (x19 + 1)) r0 b11)) else none) else (some (x3, b9))) := by kernel_rfl
theorem accept_Handle_eq (k) (a0) (a1) (a2) : accept_Handle k a0 a1 a2 = ((accept_question k a1 a2).bind fun r0 => (bif (!r0) then (some ((Ty.zero Ty_accept_Step), 1)) else ((accept_Know k a0 a2.2.2.2.2.1).bind fun r1 => (bif (a2.1 == 5) then (bif (r1.2.1 == 3) then (some ((Ty.zero Ty_accept_Step), 0)) else (accept_Handle.c9 k a0 (Ty.beq Ty_api_Instance r1.2.2.2.1 a2.2.2.2.1) a2 (Ty.zero Ty_accept_Step) (Ty.zero Ty_accept_Step) r1 (a2.2.2.2.2.1, (a2.2.2.2.2.2.1, (a2.2.2.2.1, a2.2.2.2.2.2.2.2))))) else (accept_Handle.c9 k a0 (Ty.beq Ty_api_Instance r1.2.2.2.1 a2.2.2.2.1) a2 (Ty.zero Ty_accept_Step) (Ty.zero Ty_accept_Step) r1 (a2.2.2.2.2.1, (a2.2.2.2.2.2.1, (a2.2.2.2.1, a2.2.2.2.2.2.2.2)))))))) := (accept_Handle_raw k a0 a1 a2).trans (by kernel_rfl)
theorem accept_Handle.c9_eq (k) (x0) (x11) (b5) (b6) (b8) (b9) (b10) : accept_Handle.c9 (k + 1) x0 x11 b5 b6 b8 b9 b10 = (bif (b5.1 == 5) then ((stamp_CompareBallots k b10.2.2.2.1 b9.2.2.1).bind fun r0 => (bif (decide (r0 > 0)) then ((accept_Step_keep k b8 (b10.1, (b10.2.1, (b10.2.2.2.1, b10.2.2.2)))).bind fun r1 => (some (r1, 0))) else ((accept_Step_keep k b8 (b10.1, (b10.2.1, (b9.2.2.1, b10.2.2.2)))).bind fun r1 => (some (r1, 0))))) else (bif (b9.2.1 == 3) then ((accept_Step_tell k b8 b5 5 b9.2.2.2.1 b9).bind fun r0 => (some (r0, 0))) else ((stamp_CompareBallots k b5.2.2.2.1 b9.2.2.1).bind fun r0 => (bif (decide (r0 < 0)) then ((accept_Step_tell k b8 b5 8 b9.2.2.1 (b9.1, (Ty.zero (Ty.pair Ty.i64 (Ty.pair Ty_api_Instance (Ty.pair Ty_api_Instance (Ty.pair Ty_api_Command (Ty.pair Ty.i64 (Ty.pair Ty_api_Deps Ty.bool))))))))).bind fun r1 => (some (r1, 0))) else (bif (b5.1 == 1) then (bif x11 then (bif (b9.2.1 == 1) then (accept_Handle.c19 k b5 b6 b8 b9) else (accept_Handle.c20 k x0 x11 b5 b6 b8 b9 b10)) else (accept_Handle.c20 k x0 x11 b5 b6 b8 b9 b10)) else (accept_Handle.c20 k x0 x11 b5 b6 b8 b9 b10)))))) := by kernel_rfl
theorem accept_Handle.c19_eq (k) (b5) (b6) (b8) (b9) : accept_Handle.c19 (k + 1) b5 b6 b8 b9 = ((accept_Step_tell k b8 b5 2 b5.2.2.2.1 b9).bind fun r0 => (some (r0, 0))) := by kernel_rfl
theorem accept_Handle.c20_eq (k) (x0) (x11) (b5) (b6) (b8) (b9) (b10) : accept_Handle.c20 (k + 1) x0 x11 b5 b6 b8 b9 b10 = (bif (b5.1 == 1) then (bif x11 then (bif (b9.2.1 == 2) then (some (b8, 9)) else (accept_Handle.c22 k x0 x11 b5 b6 b8 b9 b10)) else (accept_Handle.c22 k x0 x11 b5 b6 b8 b9 b10)) else (accept_Handle.c22 k x0 x11 b5 b6 b8 b9 b10)) := by kernel_rfl
theorem accept_Handle.c22_eq (k) (x0) (x11) (b5) (b6) (b8) (b9) (b10) : accept_Handle.c22 (k + 1) x0 x11 b5 b6 b8 b9 b10 = (bif (b5.1 == 1) then ((index_Attrs k x0 b10.1 b10.2.2.2.2.1 b10.2.2.2.2.2.1 b10.2.2.2.2.2.2.1).bind fun r0 => (bif (r0.1 == b5.2.2.2.2.2.2.2.2.2.1) then (accept_Handle.c25 k b5 b6 b8 (b10.1, (b10.2.1, (b10.2.2.1, (b10.2.2.2.1, (b10.2.2.2.2.1, (r0.1, (r0.2, (Ty.beq Ty_api_Deps r0.2 b5.2.2.2.2.2.2.2.2.2.2.1))))))))) else (accept_Handle.c25 k b5 b6 b8 (b10.1, (b10.2.1, (b10.2.2.1, (b10.2.2.2.1, (b10.2.2.2.2.1, (r0.1, (r0.2, false)))))))))) else (bif (b5.1 == 3) then (bif x11 then (bif (b9.2.1 == 2) then (accept_Handle.c27 k b5 b6 b8 b9) else (accept_Handle.c28 k b5 b6 b8 b9 b10)) else (accept_Handle.c28 k b5 b6 b8 b9 b10)) else (accept_Handle.c28 k b5 b6 b8 b9 b10))) := by kernel_rfl
theorem accept_Handle.c27_eq (k) (b5) (b6) (b8) (b9) : accept_Handle.c27 (k + 1) b5 b6 b8 b9 = ((accept_Step_tell k b8 b5 4 b5.2.2.2.1 b9).bind fun r0 => (some (r0, 0))) := by kernel_rfl
theorem accept_Handle.c28_eq (k) (b5) (b6) (b8) (b9) (b10) : accept_Handle.c28 (k + 1) b5 b6 b8 b9 b10 = (bif (b5.1 == 3) then ((accept_Step_keep k b8 b10).bind fun r0 => ((accept_Step_tell k r0 b5 4 b5.2.2.2.1 b10).bind fun r1 => (some (r1, 0)))) else (bif (!(Ty.beq Ty_api_Instance b9.2.2.1 b5.2.2.2.1)) then ((accept_Step_keep k b8 (b9.1, (b9.2.1, (b5.2.2.2.1, b9.2.2.2)))).bind fun r0 => (accept_Handle.c33 k b5 b6 r0 (b9.1, (b9.2.1, (b5.2.2.2.1, b9.2.2.2))))) else (accept_Handle.c33 k b5 b6 b8 b9))) := by kernel_rfl
theorem accept_Handle.c25_eq (k) (b5) (b6) (b8) (b10) : accept_Handle.c25 (k + 1) b5 b6 b8 b10 = ((accept_Step_keep k b8 b10).bind fun r0 => ((accept_Step_tell k r0 b5 2 b5.2.2.2.1 b10).bind fun r1 => (some (r1, 0)))) := by kernel_rfl
theorem accept_Handle.c33_eq (k) (b5) (b6) (b8) (b9) : accept_Handle.c33 (k + 1) b5 b6 b8 b9 = ((accept_Step_tell k b8 b5 7 b5.2.2.2.1 b9).bind fun r0 => (some (r0, 0))) := by kernel_rfl
theorem althinglaw12_awake_eq (k) : althinglaw12_awake k  = ((accept_Handle k [] 2 (6, (1, (2, ((2, 1), ((0, 4), (Ty.zero (Ty.pair Ty.i64 (Ty.pair Ty_api_Instance (Ty.pair Ty_api_Instance (Ty.pair Ty_api_Command (Ty.pair Ty.i64 (Ty.pair Ty_api_Deps Ty.bool))))))))))))).bind fun r0 => (bif (r0.2 == 0) then (bif r0.1.2.1 then (bif (Ty.beq Ty_api_Instance r0.1.1.2.2.1 (2, 1)) then (bif (r0.1.1.2.1 == 0) then (bif r0.1.2.2.2 then (bif (r0.1.2.2.1.1 == 7) then (some (r0.1.2.2.1.2.2.1 == 1)) else (some false)) else (some false)) else (some false)) else (some false)) else (some false)) else (some false))) := (althinglaw12_awake_raw k ).trans (by kernel_rfl)
theorem althingref07_Same_eq (k) (a0) (a1) : althingref07_Same k a0 a1 = (bif (Ty.beq Ty_api_Instance a0.1 a1.1) then (bif (a0.2.1 == a1.2.1) then (bif (Ty.beq Ty_api_Instance a0.2.2.1 a1.2.2.1) then (bif (Ty.beq Ty_api_Instance a0.2.2.2.1 a1.2.2.2.1) then (bif (a0.2.2.2.2.2.1 == a1.2.2.2.2.2.1) then (bif (Ty.beq Ty_api_Deps a0.2.2.2.2.2.2.1 a1.2.2.2.2.2.2.1) then (bif (Ty.beq Ty.bool a0.2.2.2.2.2.2.2 a1.2.2.2.2.2.2.2) then ((althingref05_Same k a0.2.2.2.2.1 a1.2.2.2.2.1).bind fun r0 => (some r0)) else (some false)) else (some false)) else (some false)) else (some false)) else (some false)) else (some false)) else (some false)) := (althingref07_Same_raw k a0 a1).trans (by kernel_rfl)
theorem althingref07_SameMessage_eq (k) (a0) (a1) : althingref07_SameMessage k a0 a1 = (bif (a0.1 == a1.1) then (bif (a0.2.1 == a1.2.1) then (bif (a0.2.2.1 == a1.2.2.1) then (bif (Ty.beq Ty_api_Instance a0.2.2.2.1 a1.2.2.2.1) then ((althingref07_Same k a0.2.2.2.2 a1.2.2.2.2).bind fun r0 => (some r0)) else (some false)) else (some false)) else (some false)) else (some false)) := (althingref07_SameMessage_raw k a0 a1).trans (by kernel_rfl)
theorem althinglaw12_same_eq (k) (a0) (a1) : althinglaw12_same k a0 a1 = (bif (Ty.beq Ty.bool a0.2.1 a1.2.1) then (bif (Ty.beq Ty.bool a0.2.2.2 a1.2.2.2) then ((althingref07_Same k a0.1 a1.1).bind fun r0 => (bif r0 then ((althingref07_SameMessage k a0.2.2.1 a1.2.2.1).bind fun r1 => (some r1)) else (some false))) else (some false)) else (some false)) := (althinglaw12_same_raw k a0 a1).trans (by kernel_rfl)
theorem althingref12_Know_eq (k) (a0) (a1) : althingref12_Know k a0 a1 = (althingref12_Know.c3 k a0 0 a1 (Ty.zero Ty_api_Record) (a1, (Ty.zero (Ty.pair Ty.i64 (Ty.pair Ty_api_Instance (Ty.pair Ty_api_Instance (Ty.pair Ty_api_Command (Ty.pair Ty.i64 (Ty.pair Ty_api_Deps Ty.bool))))))))) := (althingref12_Know_raw k a0 a1).trans (by kernel_rfl)
theorem althingref12_Know.c3_eq (k) (x0) (x6) (b3) (b4) (b5) : althingref12_Know.c3 (k + 1) x0 x6 b3 b4 b5 = (bif (decide (x6 < (x0.length : Int))) then (bif (inI x6 x0.length) then (bif (Ty.beq Ty_api_Instance (x0.getD x6.toNat (Ty.zero Ty_api_Record)).1 b3) then (bif (inI x6 x0.length) then (althingref12_Know.c3 k x0 (IntKind.wrap IntKind.i64 (x6 + 1)) b3 b4 (x0.getD x6.toNat (Ty.zero Ty_api_Record))) else none) else (althingref12_Know.c3 k x0 (IntKind.wrap IntKind.i64 (x6 + 1)) b3 b4 b5)) else none) else (some b5)) := by kernel_rfl
theorem althingref07_RightMessage_eq (k) (a0) : althingref07_RightMessage k a0 = (bif (decide (a0.1 ≥ 1)) then (bif (decide (a0.1 ≤ 8)) then (bif (decide (a0.2.1 ≥ 0)) then (bif (decide (a0.2.1 ≤ 6)) then (bif (decide (a0.2.2.1 ≥ 0)) then (bif (decide (a0.2.2.1 ≤ 6)) then ((althingref02_RightBallot k a0.2.2.2.1).bind fun r0 => (bif r0 then ((althingref07_RightRecord k a0.2.2.2.2).bind fun r1 => (some r1)) else (some false))) else (some false)) else (some false)) else (some false)) else (some false)) else (some false)) else (some false)) := (althingref07_RightMessage_raw k a0).trans (by kernel_rfl)
theorem althinglaw12_AcceptKeeps_eq (k) (a0) (a1) (a2) : althinglaw12_AcceptKeeps k a0 a1 a2 = ((althinglaw12_few k a0 a2).bind fun r0 => (bif (!r0) then ((althinglaw12_awake k).bind fun r1 => (some r1)) else ((althinglaw12_rights k a0).bind fun r1 => (bif (!r1) then ((althinglaw12_awake k).bind fun r2 => (some r2)) else (althinglaw12_AcceptKeeps.c3 k a0 a1 a2))))) := (althinglaw12_AcceptKeeps_raw k a0 a1 a2).trans (by kernel_rfl)
theorem althinglaw12_AcceptKeeps.c3_eq (k) (x0) (x1) (b5) : althinglaw12_AcceptKeeps.c3 (k + 1) x0 x1 b5 = ((accept_Handle k x0 x1 b5).bind fun r0 => (bif (r0.2 != 0) then ((althinglaw12_same k r0.1 (Ty.zero (Ty.pair Ty_api_Record (Ty.pair Ty.bool (Ty.pair Ty_api_Message Ty.bool))))).bind fun r1 => (bif r1 then ((althinglaw12_awake k).bind fun r2 => (some r2)) else (some false))) else ((althingref12_Know k x0 b5.2.2.2.2.1).bind fun r1 => (bif r0.1.2.1 then (bif (!(Ty.beq Ty_api_Instance r0.1.1.1 r1.1)) then (some false) else (bif (r1.2.1 == 3) then (some false) else ((althingref02_Lower k r0.1.1.2.2.1 r1.2.2.1).bind fun r2 => (bif r2 then (some false) else ((althingref07_RightRecord k r0.1.1).bind fun r3 => (bif (!r3) then (some false) else (althinglaw12_AcceptKeeps.c9 k x1 b5 r0.1 r1))))))) else (althinglaw12_AcceptKeeps.c9 k x1 b5 r0.1 r1))))) := by kernel_rfl
theorem althinglaw12_AcceptKeeps.c9_eq (k) (x1) (b5) (b7) (b9) : althinglaw12_AcceptKeeps.c9 (k + 1) x1 b5 b7 b9 = (bif (!b7.2.2.2) then ((althinglaw12_awake k).bind fun r0 => (some r0)) else ((althingref07_RightMessage k b7.2.2.1).bind fun r0 => (bif r0 then (bif (b7.2.2.1.2.1 == x1) then (bif (b7.2.2.1.2.2.1 == b5.2.1) then (bif (Ty.beq Ty_api_Instance b7.2.2.1.2.2.2.2.1 b9.1) then ((althinglaw12_awake k).bind fun r1 => (some r1)) else (some false)) else (some false)) else (some false)) else (some false)))) := by kernel_rfl
theorem althinglaw12_AcceptAgain_eq (k) (a0) (a1) (a2) : althinglaw12_AcceptAgain k a0 a1 a2 = ((althinglaw12_few k a0 a2).bind fun r0 => (bif (!r0) then ((althinglaw12_awake k).bind fun r1 => (some r1)) else (bif (decide ((a0.length : Int) > 19)) then ((althinglaw12_awake k).bind fun r1 => (some r1)) else ((althinglaw12_rights k a0).bind fun r1 => (bif (!r1) then ((althinglaw12_awake k).bind fun r2 => (some r2)) else (althinglaw12_AcceptAgain.c3 k a0 a1 a2)))))) := (althinglaw12_AcceptAgain_raw k a0 a1 a2).trans (by kernel_rfl)
theorem althinglaw12_AcceptAgain.c3_eq (k) (x0) (x1) (b5) : althinglaw12_AcceptAgain.c3 (k + 1) x0 x1 b5 = ((accept_Handle k x0 x1 b5).bind fun r0 => (bif (r0.2 != 0) then ((althinglaw12_awake k).bind fun r1 => (some r1)) else (bif (decide ((0 + x0.length) < 4294967296)) then (bif r0.1.2.1 then (bif (decide ((x0.length + 1) < 4294967296)) then (althinglaw12_AcceptAgain.c9 k x1 (x0 ++ [r0.1.1]) b5 r0.1) else none) else (althinglaw12_AcceptAgain.c9 k x1 x0 b5 r0.1)) else none))) := by kernel_rfl
theorem althinglaw12_AcceptAgain.c9_eq (k) (x1) (x9) (b5) (b7) : althinglaw12_AcceptAgain.c9 (k + 1) x1 x9 b5 b7 = ((accept_Handle k x9 x1 b5).bind fun r0 => (bif (r0.2 == 0) then (bif (!r0.1.2.1) then (bif (Ty.beq Ty.bool r0.1.2.2.2 b7.2.2.2) then ((althingref07_SameMessage k r0.1.2.2.1 b7.2.2.1).bind fun r1 => (bif r1 then ((althinglaw12_awake k).bind fun r2 => (some r2)) else (some false))) else (some false)) else (some false)) else (some false))) := by kernel_rfl
theorem althinglaw12_AcceptAfter_eq (k) (a0) (a1) (a2) (a3) : althinglaw12_AcceptAfter k a0 a1 a2 a3 = ((althinglaw12_few k a0 a2).bind fun r0 => (bif (!r0) then ((althinglaw12_awake k).bind fun r1 => (some r1)) else ((althinglaw05_Few k [a3.2.2.2.2.2.2.2.2.1]).bind fun r1 => (bif (!r1) then ((althinglaw12_awake k).bind fun r2 => (some r2)) else (bif (decide ((a0.length : Int) > 19)) then ((althinglaw12_awake k).bind fun r2 => (some r2)) else ((althinglaw12_rights k a0).bind fun r2 => (bif (!r2) then ((althinglaw12_awake k).bind fun r3 => (some r3)) else (bif (a2.1 != 6) then ((althinglaw12_awake k).bind fun r3 => (some r3)) else (althinglaw12_AcceptAfter.c3 k a0 a1 a2 a3))))))))) := (althinglaw12_AcceptAfter_raw k a0 a1 a2 a3).trans (by kernel_rfl)
theorem althinglaw12_AcceptAfter.c3_eq (k) (x0) (x1) (b6) (b7) : althinglaw12_AcceptAfter.c3 (k + 1) x0 x1 b6 b7 = ((accept_Handle k x0 x1 b6).bind fun r0 => (bif (r0.2 != 0) then ((althinglaw12_awake k).bind fun r1 => (some r1)) else (bif (r0.1.2.2.1.1 != 7) then ((althinglaw12_awake k).bind fun r1 => (some r1)) else ((althingref02_Lower k b7.2.2.2.1 b6.2.2.2.1).bind fun r1 => (bif (!r1) then ((althinglaw12_awake k).bind fun r2 => (some r2)) else (bif (b7.1 == 5) then ((althinglaw12_awake k).bind fun r2 => (some r2)) else (althinglaw12_AcceptAfter.c7 k x0 x1 b6 (b7.1, (b7.2.1, (b7.2.2.1, (b7.2.2.2.1, (b6.2.2.2.2.1, b7.2.2.2.2.2))))) r0.1))))))) := by kernel_rfl
theorem althinglaw12_AcceptAfter.c7_eq (k) (x0) (x1) (b6) (b7) (b9) : althinglaw12_AcceptAfter.c7 (k + 1) x0 x1 b6 b7 b9 = (bif (decide ((0 + x0.length) < 4294967296)) then (bif b9.2.1 then (bif (decide ((x0.length + 1) < 4294967296)) then (althinglaw12_AcceptAfter.c10 k x1 (x0 ++ [b9.1]) b6 b7) else none) else (althinglaw12_AcceptAfter.c10 k x1 x0 b6 b7)) else none) := by kernel_rfl
theorem althinglaw12_AcceptAfter.c10_eq (k) (x1) (x11) (b6) (b7) : althinglaw12_AcceptAfter.c10 (k + 1) x1 x11 b6 b7 = ((accept_Handle k x11 x1 b7).bind fun r0 => (bif (!r0.1.2.1) then (bif (r0.2 != 0) then ((althinglaw12_awake k).bind fun r1 => (some r1)) else (bif (r0.1.2.2.1.1 == 8) then (bif (Ty.beq Ty_api_Instance r0.1.2.2.1.2.2.2.1 b6.2.2.2.1) then ((althinglaw12_awake k).bind fun r1 => (some r1)) else (some false)) else (some false))) else (some false))) := by kernel_rfl
theorem althingref05_Keys_eq (k) (a0) : althingref05_Keys k a0 = (althingref05_Keys.c3 k [] 0 a0) := (althingref05_Keys_raw k a0).trans (by kernel_rfl)
theorem althingref05_Keys.c3_eq (k) (x3) (x4) (b1) : althingref05_Keys.c3 (k + 1) x3 x4 b1 = (bif (decide (x4 < (b1.2.2.2.2.1.length : Int))) then (bif (inI x4 b1.2.2.2.2.1.length) then (bif (decide ((x3.length + 1) < 4294967296)) then (althingref05_Keys.c3 k (x3 ++ [(b1.2.2.2.2.1.getD x4.toNat (Ty.zero Ty_api_Read)).1]) (IntKind.wrap IntKind.i64 (x4 + 1)) b1) else none) else none) else (althingref05_Keys.c7 k x3 0 b1)) := by kernel_rfl
theorem althingref05_Keys.c7_eq (k) (x3) (x5) (b1) : althingref05_Keys.c7 (k + 1) x3 x5 b1 = (bif (decide (x5 < (b1.2.2.2.2.2.1.length : Int))) then (bif (inI x5 b1.2.2.2.2.2.1.length) then (bif (decide ((x3.length + 1) < 4294967296)) then (althingref05_Keys.c7 k (x3 ++ [(b1.2.2.2.2.2.1.getD x5.toNat (Ty.zero Ty_api_Write)).1]) (IntKind.wrap IntKind.i64 (x5 + 1)) b1) else none) else none) else ((althingref04_Join k x3 []).bind fun r0 => (some r0))) := by kernel_rfl
theorem althingref04_In_eq (k) (a0) (a1) : althingref04_In k a0 a1 = (althingref04_In.c2 k a0 a1 0) := (althingref04_In_raw k a0 a1).trans (by kernel_rfl)
theorem althingref04_In.c2_eq (k) (x0) (x1) (x5) : althingref04_In.c2 (k + 1) x0 x1 x5 = (bif (decide (x5 < (x0.length : Int))) then (bif (inI x5 x0.length) then (bif (decide ((x0.getD x5.toNat (⟨#[]⟩ : ByteArray)) = x1)) then (some true) else (althingref04_In.c2 k x0 x1 (IntKind.wrap IntKind.i64 (x5 + 1)))) else none) else (some false)) := by kernel_rfl
theorem althingref05_Interfere_eq (k) (a0) (a1) : althingref05_Interfere k a0 a1 = (bif (a0.1 == 0) then (some false) else (bif (a1.1 == 0) then (some false) else (althingref05_Interfere.c3 k a0 a1))) := (althingref05_Interfere_raw k a0 a1).trans (by kernel_rfl)
theorem althingref05_Interfere.c3_eq (k) (b2) (b3) : althingref05_Interfere.c3 (k + 1) b2 b3 = (bif (Ty.beq Ty_api_Instance b2.2.1 b3.2.1) then (some true) else ((althingref05_Keys k b2).bind fun r0 => ((althingref05_Keys k b3).bind fun r1 => (althingref05_Interfere.c8 k r0 r1 0)))) := by kernel_rfl
theorem althingref05_Interfere.c8_eq (k) (x5) (x6) (x7) : althingref05_Interfere.c8 (k + 1) x5 x6 x7 = (bif (decide (x7 < (x5.length : Int))) then (bif (inI x7 x5.length) then ((althingref04_In k x6 (x5.getD x7.toNat (⟨#[]⟩ : ByteArray))).bind fun r0 => (bif r0 then (some true) else (althingref05_Interfere.c8 k x5 x6 (IntKind.wrap IntKind.i64 (x7 + 1))))) else none) else (some false)) := by kernel_rfl
theorem althinglaw12_AcceptOrders_eq (k) (a0) (a1) (a2) : althinglaw12_AcceptOrders k a0 a1 a2 = ((althinglaw12_few k a0 a2).bind fun r0 => (bif (!r0) then ((althinglaw12_awake k).bind fun r1 => (some r1)) else ((althinglaw12_rights k a0).bind fun r1 => (bif (!r1) then ((althinglaw12_awake k).bind fun r2 => (some r2)) else (bif (a2.1 != 1) then ((althinglaw12_awake k).bind fun r2 => (some r2)) else (althinglaw12_AcceptOrders.c3 k a0 a1 a2)))))) := (althinglaw12_AcceptOrders_raw k a0 a1 a2).trans (by kernel_rfl)
theorem althinglaw12_AcceptOrders.c3_eq (k) (x0) (x1) (b5) : althinglaw12_AcceptOrders.c3 (k + 1) x0 x1 b5 = ((accept_Handle k x0 x1 b5).bind fun r0 => (bif (r0.2 != 0) then ((althinglaw12_awake k).bind fun r1 => (some r1)) else (bif (!r0.1.2.1) then ((althinglaw12_awake k).bind fun r1 => (some r1)) else (althinglaw12_AcceptOrders.c7 k x0 x0 (x0.length : Int) 0 b5 r0.1)))) := by kernel_rfl
theorem althinglaw12_AcceptOrders.c7_eq (k) (x0) (x44) (x45) (x46) (b5) (b7) : althinglaw12_AcceptOrders.c7 (k + 1) x0 x44 x45 x46 b5 b7 = (bif (decide (x46 < x45)) then (bif (inI x46 x44.length) then (bif (((decide (0 ≤ (IntKind.wrap IntKind.i64 (x46 + 1)))) && (decide ((IntKind.wrap IntKind.i64 (x46 + 1)) ≤ (x0.length : Int)))) && (decide ((x0.length : Int) ≤ (x0.length : Int)))) then (althinglaw12_AcceptOrders.c11 k x0 true x44 x45 x46 (sliceL x0 (IntKind.wrap IntKind.i64 (x46 + 1)) (x0.length : Int)) ((sliceL x0 (IntKind.wrap IntKind.i64 (x46 + 1)) (x0.length : Int)).length : Int) 0 b5 b7 (x44.getD x46.toNat (Ty.zero Ty_api_Record))) else none) else none) else (bif (b7.1.2.2.2.2.2.1 == b5.2.2.2.2.2.2.2.2.2.1) then (bif (Ty.beq Ty.bool b7.1.2.2.2.2.2.2.2 (Ty.beq Ty_api_Deps b7.1.2.2.2.2.2.2.1 b5.2.2.2.2.2.2.2.2.2.2.1)) then ((wire_RightRecord k b7.1).bind fun r0 => (bif r0 then ((althinglaw12_awake k).bind fun r1 => (some r1)) else (some false))) else (some false)) else (bif (Ty.beq Ty.bool b7.1.2.2.2.2.2.2.2 false) then ((wire_RightRecord k b7.1).bind fun r0 => (bif r0 then ((althinglaw12_awake k).bind fun r1 => (some r1)) else (some false))) else (some false)))) := by kernel_rfl
theorem althinglaw12_AcceptOrders.c11_eq (k) (x0) (x11) (x44) (x45) (x46) (x54) (x55) (x56) (b5) (b7) (b10) : althinglaw12_AcceptOrders.c11 (k + 1) x0 x11 x44 x45 x46 x54 x55 x56 b5 b7 b10 = (bif (decide (x56 < x55)) then (bif (inI x56 x54.length) then (bif x11 then (althinglaw12_AcceptOrders.c11 k x0 (!(Ty.beq Ty_api_Instance (x54.getD x56.toNat (Ty.zero Ty_api_Record)).1 b10.1)) x44 x45 x46 x54 x55 (IntKind.wrap IntKind.i64 (x56 + 1)) b5 b7 b10) else (althinglaw12_AcceptOrders.c11 k x0 false x44 x45 x46 x54 x55 (IntKind.wrap IntKind.i64 (x56 + 1)) b5 b7 b10)) else none) else (bif (!x11) then (althinglaw12_AcceptOrders.c7 k x0 x44 x45 (IntKind.wrap IntKind.i64 (x46 + 1)) b5 b7) else (bif (Ty.beq Ty_api_Instance b10.1 b7.1.1) then (althinglaw12_AcceptOrders.c7 k x0 x44 x45 (IntKind.wrap IntKind.i64 (x46 + 1)) b5 b7) else (bif (b10.2.1 == 0) then (althinglaw12_AcceptOrders.c7 k x0 x44 x45 (IntKind.wrap IntKind.i64 (x46 + 1)) b5 b7) else ((althingref05_Interfere k b10.2.2.2.2.1 b7.1.2.2.2.2.1).bind fun r0 => (bif (!r0) then (althinglaw12_AcceptOrders.c7 k x0 x44 x45 (IntKind.wrap IntKind.i64 (x46 + 1)) b5 b7) else (althinglaw12_AcceptOrders.c16 k x0 x44 x45 x46 b5 b7 b10))))))) := by kernel_rfl
theorem althinglaw12_AcceptOrders.c16_eq (k) (x0) (x44) (x45) (x46) (b5) (b7) (b10) : althinglaw12_AcceptOrders.c16 (k + 1) x0 x44 x45 x46 b5 b7 b10 = (bif (inI b10.1.1 7) then (bif (decide ((b7.1.2.2.2.2.2.2.1.getD b10.1.1.toNat 0) < b10.1.2)) then (some false) else (althinglaw12_AcceptOrders.c7 k x0 x44 x45 (IntKind.wrap IntKind.i64 (x46 + 1)) b5 b7)) else none) := by kernel_rfl
theorem althinglaw12_AcceptOthers_eq (k) (a0) (a1) (a2) (a3) : althinglaw12_AcceptOthers k a0 a1 a2 a3 = ((althinglaw12_few k a0 a2).bind fun r0 => (bif (!r0) then ((althinglaw12_awake k).bind fun r1 => (some r1)) else (bif (Ty.beq Ty_api_Instance a3 a2.2.2.2.2.1) then ((althinglaw12_awake k).bind fun r1 => (some r1)) else (althinglaw12_AcceptOthers.c3 k a0 a1 a2 a3)))) := (althinglaw12_AcceptOthers_raw k a0 a1 a2 a3).trans (by kernel_rfl)
theorem althinglaw12_AcceptOthers.c3_eq (k) (x0) (x1) (b6) (b7) : althinglaw12_AcceptOthers.c3 (k + 1) x0 x1 b6 b7 = ((accept_Handle k x0 x1 b6).bind fun r0 => (bif (decide ((0 + x0.length) < 4294967296)) then (bif r0.1.2.1 then (bif (decide ((x0.length + 1) < 4294967296)) then (althinglaw12_AcceptOthers.c7 k x0 (x0 ++ [r0.1.1]) b6 b7 r0.1) else none) else (althinglaw12_AcceptOthers.c7 k x0 x0 b6 b7 r0.1)) else none)) := by kernel_rfl
theorem althinglaw12_AcceptOthers.c7_eq (k) (x0) (x11) (b6) (b7) (b9) : althinglaw12_AcceptOthers.c7 (k + 1) x0 x11 b6 b7 b9 = ((accept_Know k x11 b7).bind fun r0 => ((althingref12_Know k x0 b7).bind fun r1 => ((althingref07_Same k r0 r1).bind fun r2 => (bif r2 then (bif (!b9.2.1) then ((althinglaw12_awake k).bind fun r3 => (some r3)) else (bif (Ty.beq Ty_api_Instance b9.1.1 b6.2.2.2.2.1) then ((althinglaw12_awake k).bind fun r3 => (some r3)) else (some false))) else (some false))))) := by kernel_rfl
theorem index_Slot_eq (k) (a0) (a1) : index_Slot k a0 a1 = (index_Slot.c3 k a1 0 a0 (a0.length : Int) 0) := (index_Slot_raw k a0 a1).trans (by kernel_rfl)
theorem index_Slot.c3_eq (k) (x1) (x5) (x8) (x9) (x10) : index_Slot.c3 (k + 1) x1 x5 x8 x9 x10 = (bif (decide (x10 < x9)) then (bif (inI x10 x8.length) then (bif ((x8.getD x10.toNat (Ty.zero Ty_api_Record)).1.1 == x1) then (index_Slot.c3 k x1 (max x5 (min (x8.getD x10.toNat (Ty.zero Ty_api_Record)).1.2 1048576)) x8 x9 (IntKind.wrap IntKind.i64 (x10 + 1))) else (index_Slot.c3 k x1 x5 x8 x9 (IntKind.wrap IntKind.i64 (x10 + 1)))) else none) else (some (IntKind.wrap IntKind.i64 (x5 + 1)))) := by kernel_rfl
theorem accept_Begin_eq (k) (a0) (a1) (a2) : accept_Begin k a0 a1 a2 = (bif (decide (a1 < 0)) then (some ((Ty.zero (Ty.pair Ty_api_Instance (Ty.pair Ty.i64 (Ty.pair Ty_api_Instance (Ty.pair Ty_api_Instance (Ty.pair Ty_api_Command (Ty.pair Ty.i64 (Ty.pair Ty_api_Deps Ty.bool)))))))), 1)) else (bif (decide (a1 ≥ 7)) then (some ((Ty.zero (Ty.pair Ty_api_Instance (Ty.pair Ty.i64 (Ty.pair Ty_api_Instance (Ty.pair Ty_api_Instance (Ty.pair Ty_api_Command (Ty.pair Ty.i64 (Ty.pair Ty_api_Deps Ty.bool)))))))), 1)) else ((command_Right k a2).bind fun r0 => (bif (!r0) then (some ((Ty.zero (Ty.pair Ty_api_Instance (Ty.pair Ty.i64 (Ty.pair Ty_api_Instance (Ty.pair Ty_api_Instance (Ty.pair Ty_api_Command (Ty.pair Ty.i64 (Ty.pair Ty_api_Deps Ty.bool)))))))), 1)) else (accept_Begin.c3 k a0 a1 a2 (Ty.zero Ty_api_Record)))))) := (accept_Begin_raw k a0 a1 a2).trans (by kernel_rfl)
theorem accept_Begin.c3_eq (k) (x0) (x1) (b5) (b6) : accept_Begin.c3 (k + 1) x0 x1 b5 b6 = ((index_Slot k x0 x1).bind fun r0 => (bif (decide (r0 > 1048576)) then (some ((Ty.zero (Ty.pair Ty_api_Instance (Ty.pair Ty.i64 (Ty.pair Ty_api_Instance (Ty.pair Ty_api_Instance (Ty.pair Ty_api_Command (Ty.pair Ty.i64 (Ty.pair Ty_api_Deps Ty.bool)))))))), 2)) else ((index_Attrs k x0 (x1, r0) b5 1 [0, 0, 0, 0, 0, 0, 0]).bind fun r1 => ((accept_own k ((x1, r0), (1, ((Ty.zero Ty_api_Instance), ((Ty.zero Ty_api_Instance), (b5, (r1.1, (r1.2, true)))))))).bind fun r2 => (some (r2, 0)))))) := by kernel_rfl
theorem althingref11_Slot_eq (k) (a0) (a1) : althingref11_Slot k a0 a1 = (althingref11_Slot.c3 k a0 a1 0 0) := (althingref11_Slot_raw k a0 a1).trans (by kernel_rfl)
theorem althingref11_Slot.c3_eq (k) (x0) (x1) (x5) (x6) : althingref11_Slot.c3 (k + 1) x0 x1 x5 x6 = (bif (decide (x6 < (x0.length : Int))) then (bif (inI x6 x0.length) then (bif ((x0.getD x6.toNat (Ty.zero Ty_api_Record)).1.1 == x1) then (bif (inI x6 x0.length) then (bif (decide ((x0.getD x6.toNat (Ty.zero Ty_api_Record)).1.2 > x5)) then (althingref11_Slot.c6 k x0 x1 x6) else (althingref11_Slot.c4 k x0 x1 x5 x6)) else none) else (althingref11_Slot.c4 k x0 x1 x5 x6)) else none) else (bif (decide (x5 > 1048576)) then (some (IntKind.wrap IntKind.i64 (1048576 + 1))) else (some (IntKind.wrap IntKind.i64 (x5 + 1))))) := by kernel_rfl
theorem althingref11_Slot.c6_eq (k) (x0) (x1) (x6) : althingref11_Slot.c6 (k + 1) x0 x1 x6 = (bif (inI x6 x0.length) then (althingref11_Slot.c4 k x0 x1 (x0.getD x6.toNat (Ty.zero Ty_api_Record)).1.2 x6) else none) := by kernel_rfl
theorem althingref11_Slot.c4_eq (k) (x0) (x1) (x5) (x6) : althingref11_Slot.c4 (k + 1) x0 x1 x5 x6 = (althingref11_Slot.c3 k x0 x1 x5 (IntKind.wrap IntKind.i64 (x6 + 1))) := by kernel_rfl
theorem althingref11_Last_eq (k) (a0) (a1) : althingref11_Last k a0 a1 = (althingref11_Last.c2 k a0 a1 (IntKind.wrap IntKind.i64 (a1 + 1))) := (althingref11_Last_raw k a0 a1).trans (by kernel_rfl)
theorem althingref11_Last.c2_eq (k) (x0) (x1) (x5) : althingref11_Last.c2 (k + 1) x0 x1 x5 = (bif (decide (x5 < (x0.length : Int))) then (bif (inI x5 x0.length) then (bif (inI x1 x0.length) then (bif (Ty.beq Ty_api_Instance (x0.getD x5.toNat (Ty.zero Ty_api_Record)).1 (x0.getD x1.toNat (Ty.zero Ty_api_Record)).1) then (some false) else (althingref11_Last.c2 k x0 x1 (IntKind.wrap IntKind.i64 (x5 + 1)))) else none) else none) else (some true)) := by kernel_rfl
theorem althingref11_Against_eq (k) (a0) (a1) (a2) : althingref11_Against k a0 a1 a2 = (althingref11_Against.c3 k a0 [] 0 a1 a2) := (althingref11_Against_raw k a0 a1 a2).trans (by kernel_rfl)
theorem althingref11_Against.c3_eq (k) (x0) (x7) (x8) (b4) (b5) : althingref11_Against.c3 (k + 1) x0 x7 x8 b4 b5 = (bif (decide (x8 < (x0.length : Int))) then ((althingref11_Last k x0 x8).bind fun r0 => (bif r0 then (bif (inI x8 x0.length) then (bif (!(Ty.beq Ty_api_Instance (x0.getD x8.toNat (Ty.zero Ty_api_Record)).1 b4)) then (bif (inI x8 x0.length) then (bif (decide ((x0.getD x8.toNat (Ty.zero Ty_api_Record)).2.1 > 0)) then (bif (inI x8 x0.length) then ((althingref05_Interfere k (x0.getD x8.toNat (Ty.zero Ty_api_Record)).2.2.2.2.1 b5).bind fun r1 => (bif r1 then (althingref11_Against.c6 k x0 x7 x8 b4 b5) else (althingref11_Against.c4 k x0 x7 x8 b4 b5))) else none) else (althingref11_Against.c4 k x0 x7 x8 b4 b5)) else none) else (althingref11_Against.c4 k x0 x7 x8 b4 b5)) else none) else (althingref11_Against.c4 k x0 x7 x8 b4 b5))) else (some x7)) := by kernel_rfl
theorem althingref11_Against.c6_eq (k) (x0) (x7) (x8) (b4) (b5) : althingref11_Against.c6 (k + 1) x0 x7 x8 b4 b5 = (bif (inI x8 x0.length) then (bif (decide ((x7.length + 1) < 4294967296)) then (althingref11_Against.c4 k x0 (x7 ++ [(x0.getD x8.toNat (Ty.zero Ty_api_Record))]) x8 b4 b5) else none) else none) := by kernel_rfl
theorem althingref11_Against.c4_eq (k) (x0) (x7) (x8) (b4) (b5) : althingref11_Against.c4 (k + 1) x0 x7 x8 b4 b5 = (althingref11_Against.c3 k x0 x7 (IntKind.wrap IntKind.i64 (x8 + 1)) b4 b5) := by kernel_rfl
theorem althingref03_With_eq (k) (a0) (a1) : althingref03_With k a0 a1 = (althingref03_With.c2 k 0 a0 a1 (Ty.zero Ty_api_Deps)) := (althingref03_With_raw k a0 a1).trans (by kernel_rfl)
theorem althingref03_With.c2_eq (k) (x5) (b2) (b3) (b4) : althingref03_With.c2 (k + 1) x5 b2 b3 b4 = (bif (decide (x5 < 7)) then (bif (b3.1 == x5) then (bif (inI x5 7) then (bif (decide (b3.2 > (b2.getD x5.toNat 0))) then (bif (inI x5 7) then (althingref03_With.c3 k x5 (b2.set x5.toNat b3.2) b3 b4) else none) else (althingref03_With.c3 k x5 b2 b3 b4)) else none) else (althingref03_With.c3 k x5 b2 b3 b4)) else (some b2)) := by kernel_rfl
theorem althingref03_With.c3_eq (k) (x5) (b2) (b3) (b4) : althingref03_With.c3 (k + 1) x5 b2 b3 b4 = (althingref03_With.c2 k (IntKind.wrap IntKind.i64 (x5 + 1)) b2 b3 b4) := by kernel_rfl
theorem althingref11_Attrs_eq (k) (a0) (a1) (a2) (a3) (a4) : althingref11_Attrs k a0 a1 a2 a3 a4 = ((althingref11_Against k a0 a1 a2).bind fun r0 => (althingref11_Attrs.c3 k a3 r0 0 a4 (Ty.zero Ty_api_Deps))) := (althingref11_Attrs_raw k a0 a1 a2 a3 a4).trans (by kernel_rfl)
theorem althingref11_Attrs.c3_eq (k) (x3) (x12) (x13) (b9) (b11) : althingref11_Attrs.c3 (k + 1) x3 x12 x13 b9 b11 = (bif (decide (x13 < (x12.length : Int))) then (bif (inI x13 x12.length) then (bif (decide ((x12.getD x13.toNat (Ty.zero Ty_api_Record)).2.2.2.2.2.1 < 1099511627776)) then (althingref11_Attrs.c9 k x3 x12 x13 (IntKind.wrap IntKind.i64 ((x12.getD x13.toNat (Ty.zero Ty_api_Record)).2.2.2.2.2.1 + 1)) b9 b11) else (althingref11_Attrs.c9 k x3 x12 x13 1099511627776 b9 b11)) else none) else (some (x3, b9))) := by kernel_rfl
theorem althingref11_Attrs.c9_eq (k) (x3) (x12) (x13) (x14) (b9) (b11) : althingref11_Attrs.c9 (k + 1) x3 x12 x13 x14 b9 b11 = (bif (decide (x14 > x3)) then (althingref11_Attrs.c11 k x14 x12 x13 b9 b11) else (althingref11_Attrs.c11 k x3 x12 x13 b9 b11)) := by kernel_rfl
theorem althingref11_Attrs.c11_eq (k) (x3) (x12) (x13) (b9) (b11) : althingref11_Attrs.c11 (k + 1) x3 x12 x13 b9 b11 = (bif (inI x13 x12.length) then ((althingref03_With k b9 (x12.getD x13.toNat (Ty.zero Ty_api_Record)).1).bind fun r0 => (althingref11_Attrs.c3 k x3 x12 (IntKind.wrap IntKind.i64 (x13 + 1)) r0 b11)) else none) := by kernel_rfl
theorem althingref12_Begin_eq (k) (a0) (a1) (a2) : althingref12_Begin k a0 a1 a2 = (bif (decide (a1 < 0)) then (some ((Ty.zero (Ty.pair Ty_api_Instance (Ty.pair Ty.i64 (Ty.pair Ty_api_Instance (Ty.pair Ty_api_Instance (Ty.pair Ty_api_Command (Ty.pair Ty.i64 (Ty.pair Ty_api_Deps Ty.bool)))))))), 1)) else (bif (decide (a1 > 6)) then (some ((Ty.zero (Ty.pair Ty_api_Instance (Ty.pair Ty.i64 (Ty.pair Ty_api_Instance (Ty.pair Ty_api_Instance (Ty.pair Ty_api_Command (Ty.pair Ty.i64 (Ty.pair Ty_api_Deps Ty.bool)))))))), 1)) else ((althingref05_Right k a2).bind fun r0 => (bif (!r0) then (some ((Ty.zero (Ty.pair Ty_api_Instance (Ty.pair Ty.i64 (Ty.pair Ty_api_Instance (Ty.pair Ty_api_Instance (Ty.pair Ty_api_Command (Ty.pair Ty.i64 (Ty.pair Ty_api_Deps Ty.bool)))))))), 1)) else (althingref12_Begin.c3 k a0 a1 a2 (Ty.zero Ty_api_Record)))))) := (althingref12_Begin_raw k a0 a1 a2).trans (by kernel_rfl)
theorem althingref12_Begin.c3_eq (k) (x0) (x1) (b5) (b6) : althingref12_Begin.c3 (k + 1) x0 x1 b5 b6 = ((althingref11_Slot k x0 x1).bind fun r0 => (bif (decide (r0 > 1048576)) then (some ((Ty.zero (Ty.pair Ty_api_Instance (Ty.pair Ty.i64 (Ty.pair Ty_api_Instance (Ty.pair Ty_api_Instance (Ty.pair Ty_api_Command (Ty.pair Ty.i64 (Ty.pair Ty_api_Deps Ty.bool)))))))), 2)) else ((althingref11_Attrs k x0 (x1, r0) b5 1 [0, 0, 0, 0, 0, 0, 0]).bind fun r1 => (some (((x1, r0), (1, ((Ty.zero Ty_api_Instance), ((Ty.zero Ty_api_Instance), (b5, (r1.1, (r1.2, true))))))), 0))))) := by kernel_rfl
theorem althinglaw12_AcceptBegins_eq (k) (a0) (a1) (a2) (a3) : althinglaw12_AcceptBegins k a0 a1 a2 a3 = ((althinglaw11_Few k a0).bind fun r0 => (bif (!r0) then ((althinglaw12_awake k).bind fun r1 => (some r1)) else ((althinglaw05_Few k [a2]).bind fun r1 => (bif (!r1) then ((althinglaw12_awake k).bind fun r2 => (some r2)) else (althinglaw12_AcceptBegins.c3 k a0 a1 a2 a3))))) := (althinglaw12_AcceptBegins_raw k a0 a1 a2 a3).trans (by kernel_rfl)
theorem althinglaw12_AcceptBegins.c3_eq (k) (x0) (x1) (b6) (b7) : althinglaw12_AcceptBegins.c3 (k + 1) x0 x1 b6 b7 = ((accept_Begin k x0 x1 b6).bind fun r0 => ((althingref12_Begin k x0 x1 b6).bind fun r1 => ((althingref07_Same k r0.1 r1.1).bind fun r2 => (bif r2 then (bif (r0.2 == r1.2) then ((accept_Know k x0 b7).bind fun r3 => ((althingref12_Know k x0 b7).bind fun r4 => ((althingref07_Same k r3 r4).bind fun r5 => (bif r5 then ((althinglaw12_awake k).bind fun r6 => (some r6)) else (some false))))) else (some false)) else (some false))))) := by kernel_rfl
theorem althinglaw12_AcceptOwn_eq (k) (a0) (a1) (a2) : althinglaw12_AcceptOwn k a0 a1 a2 = ((althinglaw11_Few k a0).bind fun r0 => (bif (!r0) then ((althinglaw12_awake k).bind fun r1 => (some r1)) else ((althinglaw05_Few k [a2]).bind fun r1 => (bif (!r1) then ((althinglaw12_awake k).bind fun r2 => (some r2)) else ((althinglaw12_rights k a0).bind fun r2 => (bif (!r2) then ((althinglaw12_awake k).bind fun r3 => (some r3)) else (althinglaw12_AcceptOwn.c3 k a0 a1 a2))))))) := (althinglaw12_AcceptOwn_raw k a0 a1 a2).trans (by kernel_rfl)
theorem althinglaw12_AcceptOwn.c3_eq (k) (x0) (x1) (b5) : althinglaw12_AcceptOwn.c3 (k + 1) x0 x1 b5 = ((accept_Begin k x0 x1 b5).bind fun r0 => (bif (r0.2 != 0) then ((althingref07_Same k r0.1 (Ty.zero (Ty.pair Ty_api_Instance (Ty.pair Ty.i64 (Ty.pair Ty_api_Instance (Ty.pair Ty_api_Instance (Ty.pair Ty_api_Command (Ty.pair Ty.i64 (Ty.pair Ty_api_Deps Ty.bool))))))))).bind fun r1 => (bif r1 then ((althinglaw12_awake k).bind fun r2 => (some r2)) else (some false))) else (althinglaw12_AcceptOwn.c7 k x0 x1 x0 (x0.length : Int) 0 b5 r0.1))) := by kernel_rfl
theorem althinglaw12_AcceptOwn.c7_eq (k) (x0) (x1) (x44) (x45) (x46) (b5) (b7) : althinglaw12_AcceptOwn.c7 (k + 1) x0 x1 x44 x45 x46 b5 b7 = (bif (decide (x46 < x45)) then (bif (inI x46 x44.length) then (bif (Ty.beq Ty_api_Instance (x44.getD x46.toNat (Ty.zero Ty_api_Record)).1 b7.1) then (some false) else (bif (((decide (0 ≤ (IntKind.wrap IntKind.i64 (x46 + 1)))) && (decide ((IntKind.wrap IntKind.i64 (x46 + 1)) ≤ (x0.length : Int)))) && (decide ((x0.length : Int) ≤ (x0.length : Int)))) then (althinglaw12_AcceptOwn.c13 k x0 x1 true x44 x45 x46 (sliceL x0 (IntKind.wrap IntKind.i64 (x46 + 1)) (x0.length : Int)) ((sliceL x0 (IntKind.wrap IntKind.i64 (x46 + 1)) (x0.length : Int)).length : Int) 0 b5 b7 (x44.getD x46.toNat (Ty.zero Ty_api_Record))) else none)) else none) else (bif (b7.1.1 == x1) then (bif b7.2.2.2.2.2.2.2 then (bif (b7.2.1 == 1) then ((wire_RightRecord k b7).bind fun r0 => (bif r0 then ((althinglaw12_awake k).bind fun r1 => (some r1)) else (some false))) else (some false)) else (some false)) else (some false))) := by kernel_rfl
theorem althinglaw12_AcceptOwn.c13_eq (k) (x0) (x1) (x11) (x44) (x45) (x46) (x59) (x60) (x61) (b5) (b7) (b10) : althinglaw12_AcceptOwn.c13 (k + 1) x0 x1 x11 x44 x45 x46 x59 x60 x61 b5 b7 b10 = (bif (decide (x61 < x60)) then (bif (inI x61 x59.length) then (bif x11 then (althinglaw12_AcceptOwn.c13 k x0 x1 (!(Ty.beq Ty_api_Instance (x59.getD x61.toNat (Ty.zero Ty_api_Record)).1 b10.1)) x44 x45 x46 x59 x60 (IntKind.wrap IntKind.i64 (x61 + 1)) b5 b7 b10) else (althinglaw12_AcceptOwn.c13 k x0 x1 false x44 x45 x46 x59 x60 (IntKind.wrap IntKind.i64 (x61 + 1)) b5 b7 b10)) else none) else (bif x11 then (bif (b10.2.1 != 0) then ((althingref05_Interfere k b10.2.2.2.2.1 b5).bind fun r0 => (bif r0 then (bif (inI b10.1.1 7) then (bif (decide ((b7.2.2.2.2.2.2.1.getD b10.1.1.toNat 0) < b10.1.2)) then (some false) else (althinglaw12_AcceptOwn.c7 k x0 x1 x44 x45 (IntKind.wrap IntKind.i64 (x46 + 1)) b5 b7)) else none) else (althinglaw12_AcceptOwn.c7 k x0 x1 x44 x45 (IntKind.wrap IntKind.i64 (x46 + 1)) b5 b7))) else (althinglaw12_AcceptOwn.c7 k x0 x1 x44 x45 (IntKind.wrap IntKind.i64 (x46 + 1)) b5 b7)) else (althinglaw12_AcceptOwn.c7 k x0 x1 x44 x45 (IntKind.wrap IntKind.i64 (x46 + 1)) b5 b7))) := by kernel_rfl
end Go.Proofs.Ytmkiodkkhfdlpaa.V
end
section
namespace Go.Proofs.Ytmkiodkkhfdlpaa.V
open Go Go.Vm Go.Proofs.Ytmkiodkkhfdlpaa.Strs
set_option linter.unusedVariables false
set_option linter.unusedSimpArgs false
def fewR (l : List Rc) : Prop := l.length ≤ 100 ∧ ∀ x ∈ l, small x.2.2.2.2.1
def sameI (x o : Rc) : Bool := Ty.beq Ty_api_Instance o.1 x.1
def knownV : List Rc → List Rc
  | [] => []
  | x :: l => if l.any (sameI x) = true then knownV l else x :: knownV l
theorem knownV_sub : ∀ l, (knownV l).Sublist l
  | [] => .slnil
  | x :: l => by
    unfold knownV
    split
    · exact (knownV_sub l).cons x
    · exact (knownV_sub l).cons_cons x
theorem fewR_sub {l l' : List Rc} (hs : l'.Sublist l) (h : fewR l) : fewR l' := ⟨Nat.le_trans hs.length_le h.1, fun x hx => h.2 x (hs.subset hx)⟩
theorem containsF_at (l : List Rc) (f1 : Rc → Option Bool) (p : Rc → Bool) (hl : l.length ≤ 1000000) (h : ∀ x ∈ l, f1 x = some (p x)) (k : Nat) (hk : l.length < k) : slices_ContainsFunc_api_Record_api_Record k l f1 = some (l.any p) := by
  rw [slices_ContainsFunc_api_Record_api_Record_eq, slices_IndexFunc_api_Record_api_Record_eq]
  have := search_at l (fun j i => slices_IndexFunc_api_Record_api_Record.c2 j l f1 (l.length : Int) i) p (fun i => (i : Int)) (-1)
    (fun k => by rw [slices_IndexFunc_api_Record_api_Record.c2_eq, lt_ff (Nat.lt_irrefl _)]; rfl)
    (fun j i hi => by rw [slices_IndexFunc_api_Record_api_Record.c2_eq, lt_tt hi, inI_tt hi, getD_at hi, wrap_at (by omega), h _ (List.getElem_mem hi)]; rfl) l.length 0 (by omega) k hk
  rw [show ((0 : Nat) : Int) = 0 from rfl] at this
  rw [this, List.drop_zero]
  simp only [Nat.zero_add]
  show some (decide (idxOf p l ≥ 0)) = _
  rw [idxOf_any]
theorem slice_at (l : List Rc) (i : Nat) (hi : i < l.length) : sliceL l ((i + 1 : Nat) : Int) (l.length : Int) = l.drop (i + 1) := by
  unfold sliceL
  rw [Int.toNat_natCast, Int.toNat_natCast, List.take_length]
theorem clone_at (c : Cm) (h : small c) (k : Nat) : command_Clone k c = some c := by
  rw [command_Clone_eq, lt32 (by have := h.1; omega), lt32 (by have := h.2.1; omega)]; rfl
theorem known_c (l : List Rc) (h : fewR l) : ∀ d i (acc : List Rc), i + d = l.length → acc.length ≤ i → Ev (fun k => index_Known.c3 k l acc l (l.length : Int) (i : Int)) (acc ++ knownV (l.drop i))
  | 0, i, acc, hi, ha => by
    obtain rfl : i = l.length := by omega
    rw [List.drop_length, knownV, List.append_nil]
    exact Ev.step (fun k => by rw [index_Known.c3_eq, lt_ff (Nat.lt_irrefl _)]; rfl) (Ev.some acc)
  | d + 1, i, acc, hi, ha => by
    have hil : i < l.length := by omega
    have hl := h.1
    have hs := h.2 _ (List.getElem_mem hil)
    rw [drop_at hil, knownV]
    refine Ev.step (f := fun k => (slices_ContainsFunc_api_Record_api_Record k (l.drop (i + 1)) (fun x => index_Known_1 k x l[i])).bind fun r0 => bif !r0 then (command_Clone k l[i].2.2.2.2.1).bind (fun r1 => index_Known.c3 k l (acc ++ [(l[i].1, l[i].2.1, l[i].2.2.1, l[i].2.2.2.1, r1, l[i].2.2.2.2.2)]) l (l.length : Int) ((i + 1 : Nat) : Int)) else index_Known.c3 k l acc l (l.length : Int) ((i + 1 : Nat) : Int)) (fun k => ?_) ?_
    · rw [index_Known.c3_eq, lt_tt hil, inI_tt hil, getD_at hil, wrap_at (by omega), slice_at l i hil, lt32 (by omega), decide_eq_true (show (0 : Int) ≤ ((i + 1 : Nat) : Int) by omega), decide_eq_true (show ((i + 1 : Nat) : Int) ≤ (l.length : Int) by omega), decide_eq_true (Int.le_refl _)]; rfl
    · refine Ev.bind (a := (l.drop (i + 1)).any (sameI l[i])) ⟨l.length + 1, fun k hk => containsF_at _ _ _ (by rw [List.length_drop]; omega) (fun x hx => index_Known_1_eq k x l[i]) k (by rw [List.length_drop]; omega)⟩ ?_
      cases hc : (l.drop (i + 1)).any (sameI l[i]) with
      | true =>
        rw [if_pos rfl]
        exact known_c l h d (i + 1) acc (by omega) (by omega)
      | false =>
        rw [if_neg (by simp)]
        have ih := known_c l h d (i + 1) (acc ++ [l[i]]) (by omega) (by rw [List.length_append, List.length_singleton]; omega)
        rw [List.append_assoc, List.singleton_append] at ih
        exact Ev.congr (fun k => by rw [clone_at _ hs]; rfl) ih
theorem known_ev (l : List Rc) (h : fewR l) : Ev (fun k => index_Known k l) (knownV l) := by
  have := known_c l h l.length 0 [] (by omega) (by simp)
  refine Ev.congr (fun k => index_Known_eq k l) ?_
  simpa using this
theorem filt_ev {α : Type} {g : Nat → α → Option Bool} {p : α → Bool} : ∀ xs : List α, (∀ x ∈ xs, Ev (fun k => g k x) (p x)) → Ev (fun k => filt (g k) xs) (xs.filter fun x => !p x)
  | [], _ => Ev.some _
  | x :: xs, h => by
    have := Ev.bind (h x (by simp)) (h := fun k b => (filt (g k) xs).bind fun r => some (bif b then r else x :: r)) (Ev.bind (filt_ev xs (fun y hy => h y (List.mem_cons_of_mem _ hy))) (Ev.some _))
    refine Ev.congr (fun k => rfl) (?_ : Ev (fun k => (g k x).bind fun b => (filt (g k) xs).bind fun r => some (bif b then r else x :: r)) _)
    rw [List.filter_cons]
    cases hp : p x
    · rw [hp] at this; exact this
    · rw [hp] at this; exact this
def outV (i : In) (c : Cm) (x : Rc) : Bool := Ty.beq Ty_api_Instance x.1 i || (decide (x.2.1 ≤ 0) || !interV x.2.2.2.2.1 c)
def againstV (l : List Rc) (i : In) (c : Cm) : List Rc := (knownV l).filter fun x => !outV i c x
theorem out_ev (i : In) (c : Cm) (hc : small c) (x : Rc) (hx : small x.2.2.2.2.1) : Ev (fun k => index_Against_1 k x i c) (outV i c x) := by
  refine Ev.congr (fun k => index_Against_1_eq k x i c) ?_
  unfold outV
  cases h1 : Ty.beq Ty_api_Instance x.1 i with
  | true => exact Ev.some _
  | false =>
    refine Ev.bif_ff rfl ?_
    cases h2 : decide (x.2.1 ≤ 0) with
    | true => exact Ev.some _
    | false => exact Ev.bif_ff rfl (Ev.bind (inter_ev _ c hx hc) (Ev.some _))
theorem against_ev (l : List Rc) (h : fewR l) (i : In) (c : Cm) (hc : small c) : Ev (fun k => index_Against k l i c) (againstV l i c) := by
  unfold index_Against
  refine Ev.bind (known_ev l h) (Ev.bif_tt (decide_eq_true (by have := (knownV_sub l).length_le; have := h.1; omega)) (filt_ev _ fun x hx => out_ev i c hc x (h.2 x ((knownV_sub l).subset hx))))
abbrev Dp := Ty_api_Deps.den
def withV (d : Dp) (i : In) : Dp := bif inI i.1 7 then List.set d (Int.toNat i.1) (max (List.getD d (Int.toNat i.1) 0) i.2) else d
theorem with_at (k : Nat) (d : Dp) (i : In) : deps_With k d i = some (withV d i) := by
  rw [deps_With_eq, deps_is_eq]
  unfold withV inI
  by_cases h1 : (i.1 : Int) ≥ 0
  · by_cases h2 : (i.1 : Int) < 7
    · simp [h1, h2]
    · simp [h1, h2]
  · simp [h1]
def attrStep (s : Int × Dp) (x : Rc) : Int × Dp := (max s.1 (IntKind.wrap .i64 (min x.2.2.2.2.2.1 1099511627775 + 1)), withV s.2 x.1)
def attrsV (l : List Rc) (i : In) (c : Cm) (seq : Int) (d : Dp) : Int × Dp := (againstV l i c).foldl attrStep (seq, d)
theorem againstV_sub (l : List Rc) (i : In) (c : Cm) : (againstV l i c).Sublist l := List.filter_sublist.trans (knownV_sub l)
theorem attrs_ev (l : List Rc) (h : fewR l) (i : In) (c : Cm) (hc : small c) (seq : Int) (d : Dp) : Ev (fun k => index_Attrs k l i c seq d) (attrsV l i c seq d) := by
  refine Ev.congr (fun k => index_Attrs_eq k l i c seq d) (Ev.bind (against_ev l h i c hc) ?_)
  have hl := (againstV_sub l i c).length_le
  have h1 := h.1
  unfold attrsV
  generalize againstV l i c = al at hl ⊢
  have := Ev.fold0 al (fun k (s : Int × Dp) j => index_Attrs.c2 k s.1 al (al.length : Int) j s.2 (Ty.zero Ty_api_Deps)) attrStep id (fun _ _ => True) (seq, d) trivial
    (fun s _ => Ev.step (f := fun _ => some s) (fun k => by rw [index_Attrs.c2_eq, lt_ff (Nat.lt_irrefl _)]; rfl) (Ev.some s))
    (fun j s hj _ => ⟨trivial, fun r hr => Ev.step (fun k => by
      rw [index_Attrs.c2_eq, lt_tt hj, inI_tt hj, getD_at hj, wrap_at (by omega), with_at]; rfl) hr⟩)
  exact this
end Go.Proofs.Ytmkiodkkhfdlpaa.V
end
section
namespace Go.Proofs.Ytmkiodkkhfdlpaa.V
open Go Go.Vm Go.Proofs.Ytmkiodkkhfdlpaa.Strs
set_option linter.unusedVariables false
set_option linter.unusedSimpArgs false
section
variable (l : List Cm) (n j : Int) (c : Cm) (P : Prop)
theorem few_c14 (hn : ∃ q, Ev (fun k => althinglaw05_Few.c2 k l n (IntKind.wrap .i64 (j + 1))) q ∧ (q = true → P)) : ∃ q, Ev (fun k => althinglaw05_Few.c14 k l n j c) q ∧ (q = true → P ∧ c.2.2.2.2.1.length ≤ 20 ∧ c.2.2.2.2.2.1.length ≤ 20) := by
  cases h1 : decide ((c.2.2.2.2.1.length : Int) > 20) with
  | true => exact ⟨false, Ev.step (f := fun _ => some false) (fun k => by rw [althinglaw05_Few.c14_eq, h1]; rfl) (Ev.some _), fun e => by cases e⟩
  | false =>
    cases h2 : decide ((c.2.2.2.2.2.1.length : Int) > 20) with
    | true => exact ⟨false, Ev.step (f := fun _ => some false) (fun k => by rw [althinglaw05_Few.c14_eq, h1, h2]; rfl) (Ev.some _), fun e => by cases e⟩
    | false =>
      obtain ⟨q, hq, hp⟩ := hn
      have h1' := of_decide_eq_false h1
      have h2' := of_decide_eq_false h2
      exact ⟨q, Ev.step (fun k => by rw [althinglaw05_Few.c14_eq, h1, h2]; rfl) hq, fun e => ⟨hp e, by omega, by omega⟩⟩
theorem few_c10 (hn : ∃ q, Ev (fun k => althinglaw05_Few.c2 k l n (IntKind.wrap .i64 (j + 1))) q ∧ (q = true → P)) : ∀ dd i, i + dd = min c.2.2.2.2.2.1.length 21 → ∃ q, Ev (fun k => althinglaw05_Few.c10 k (i : Int) l n j c) q ∧ (q = true → P ∧ c.2.2.2.2.1.length ≤ 20 ∧ c.2.2.2.2.2.1.length ≤ 20 ∧ ∀ x ∈ c.2.2.2.2.2.1.drop i, x.1.size ≤ 100 ∧ x.2.size ≤ 100)
  | 0, i, hi => by
    obtain ⟨q, hq, hp⟩ := few_c14 l n j c P hn
    refine ⟨q, Ev.step (fun k => ?_) hq, fun e => ⟨(hp e).1, (hp e).2.1, (hp e).2.2, fun x hx => ?_⟩⟩
    · rw [althinglaw05_Few.c10_eq]
      by_cases h1 : i < c.2.2.2.2.2.1.length
      · rw [lt_tt h1, decide_eq_false (show ¬ ((i : Int) ≤ 20) by omega)]; rfl
      · rw [lt_ff h1]; rfl
    · have := (hp e).2.2
      rw [List.drop_eq_nil_of_le (by omega)] at hx
      cases hx
  | dd + 1, i, hi => by
    have hil : i < c.2.2.2.2.2.1.length := by omega
    refine (?_ : ∃ q, Ev (fun k => althinglaw05_Few.c12 k (i : Int) l n j c) q ∧ _).elim fun q hq => ⟨q, Ev.step (fun k => by rw [althinglaw05_Few.c10_eq, lt_tt hil, decide_eq_true (show (i : Int) ≤ 20 by omega)]; rfl) hq.1, hq.2⟩
    cases h1 : decide ((c.2.2.2.2.2.1[i].1.size : Int) > 100) with
    | true => exact ⟨false, Ev.step (f := fun _ => some false) (fun k => by rw [althinglaw05_Few.c12_eq, inI_tt hil, getD_at hil, h1]; rfl) (Ev.some _), fun e => by cases e⟩
    | false =>
      cases h2 : decide ((c.2.2.2.2.2.1[i].2.size : Int) > 100) with
      | true => exact ⟨false, Ev.step (f := fun _ => some false) (fun k => by rw [althinglaw05_Few.c12_eq, inI_tt hil, getD_at hil, h1, h2]; rfl) (Ev.some _), fun e => by cases e⟩
      | false =>
        obtain ⟨q, hq, hp⟩ := few_c10 hn dd (i + 1) (by omega)
        have h1' := of_decide_eq_false h1
        have h2' := of_decide_eq_false h2
        refine ⟨q, Ev.step (fun k => by rw [althinglaw05_Few.c12_eq, inI_tt hil, getD_at hil, h1, h2, wrap_at (by omega)]; rfl) hq, fun e => ⟨(hp e).1, (hp e).2.1, (hp e).2.2.1, fun x hx => ?_⟩⟩
        rw [drop_at hil] at hx
        rcases List.mem_cons.1 hx with rfl | hx
        · exact ⟨by omega, by omega⟩
        · exact (hp e).2.2.2 x hx
theorem few_c5 (hn : ∃ q, Ev (fun k => althinglaw05_Few.c2 k l n (IntKind.wrap .i64 (j + 1))) q ∧ (q = true → P)) : ∀ dd i, i + dd = min c.2.2.2.2.1.length 21 → ∃ q, Ev (fun k => althinglaw05_Few.c5 k (i : Int) l n j c) q ∧ (q = true → P ∧ c.2.2.2.2.1.length ≤ 20 ∧ c.2.2.2.2.2.1.length ≤ 20 ∧ (∀ x ∈ c.2.2.2.2.1.drop i, x.1.size ≤ 100) ∧ ∀ x ∈ c.2.2.2.2.2.1, x.1.size ≤ 100 ∧ x.2.size ≤ 100)
  | 0, i, hi => by
    obtain ⟨q, hq, hp⟩ := few_c10 l n j c P hn (min c.2.2.2.2.2.1.length 21) 0 (by omega)
    refine ⟨q, Ev.step (fun k => ?_) hq, fun e => ⟨(hp e).1, (hp e).2.1, (hp e).2.2.1, fun x hx => ?_, by simpa using (hp e).2.2.2⟩⟩
    · rw [althinglaw05_Few.c5_eq]
      by_cases h1 : i < c.2.2.2.2.1.length
      · rw [lt_tt h1, decide_eq_false (show ¬ ((i : Int) ≤ 20) by omega)]; rfl
      · rw [lt_ff h1]; rfl
    · have := (hp e).2.1
      rw [List.drop_eq_nil_of_le (by omega)] at hx
      cases hx
  | dd + 1, i, hi => by
    have hil : i < c.2.2.2.2.1.length := by omega
    refine (?_ : ∃ q, Ev (fun k => althinglaw05_Few.c7 k (i : Int) l n j c) q ∧ _).elim fun q hq => ⟨q, Ev.step (fun k => by rw [althinglaw05_Few.c5_eq, lt_tt hil, decide_eq_true (show (i : Int) ≤ 20 by omega)]; rfl) hq.1, hq.2⟩
    cases h1 : decide ((c.2.2.2.2.1[i].1.size : Int) > 100) with
    | true => exact ⟨false, Ev.step (f := fun _ => some false) (fun k => by rw [althinglaw05_Few.c7_eq, inI_tt hil, getD_at hil, h1]; rfl) (Ev.some _), fun e => by cases e⟩
    | false =>
      obtain ⟨q, hq, hp⟩ := few_c5 hn dd (i + 1) (by omega)
      have h1' := of_decide_eq_false h1
      refine ⟨q, Ev.step (fun k => by rw [althinglaw05_Few.c7_eq, inI_tt hil, getD_at hil, h1, wrap_at (by omega)]; rfl) hq, fun e => ⟨(hp e).1, (hp e).2.1, (hp e).2.2.1, fun x hx => ?_, (hp e).2.2.2.2⟩⟩
      rw [drop_at hil] at hx
      rcases List.mem_cons.1 hx with rfl | hx
      · omega
      · exact (hp e).2.2.2.1 x hx
end
theorem few_c2 (l : List Cm) (hl : l.length ≤ 1000) : ∀ dd i, i + dd = l.length → ∃ q, Ev (fun k => althinglaw05_Few.c2 k l (l.length : Int) (i : Int)) q ∧ (q = true → ∀ c ∈ l.drop i, small c)
  | 0, i, hi => by
    obtain rfl : i = l.length := by omega
    exact ⟨true, Ev.step (f := fun _ => some true) (fun k => by rw [althinglaw05_Few.c2_eq, lt_ff (Nat.lt_irrefl _)]; rfl) (Ev.some _), fun _ c hc => by rw [List.drop_length] at hc; cases hc⟩
  | dd + 1, i, hi => by
    have hil : i < l.length := by omega
    have hn := few_c2 l hl dd (i + 1) (by omega)
    rw [← wrap_at (show i ≤ 1000000000 by omega)] at hn
    obtain ⟨q, hq, hp⟩ := few_c5 l (l.length : Int) (i : Int) l[i] _ hn (min l[i].2.2.2.2.1.length 21) 0 (by omega)
    refine ⟨q, Ev.step (fun k => by rw [althinglaw05_Few.c2_eq, lt_tt hil, inI_tt hil, getD_at hil]; rfl) hq, fun e c hc => ?_⟩
    rw [drop_at hil] at hc
    rcases List.mem_cons.1 hc with rfl | hc
    · have := hp e
      exact ⟨this.2.1, this.2.2.1, by simpa using this.2.2.2.1, this.2.2.2.2⟩
    · exact (hp e).1 c hc
theorem few5_ex (l : List Cm) (hl : l.length ≤ 1000) : ∃ q, Ev (fun k => althinglaw05_Few k l) q ∧ (q = true → ∀ c ∈ l, small c) := by
  obtain ⟨q, hq, hp⟩ := few_c2 l hl l.length 0 (by omega)
  exact ⟨q, Ev.congr (fun k => althinglaw05_Few_eq k l) hq, by simpa using hp⟩
theorem few11_c (l : List Rc) : ∀ dd i, i + dd = min l.length 21 → ∃ q, Ev (fun k => althinglaw11_Few.c2 k l (i : Int)) q ∧ (q = true → l.length ≤ 20 ∧ ∀ x ∈ l.drop i, small x.2.2.2.2.1)
  | 0, i, hi => by
    refine ⟨decide ((l.length : Int) ≤ 20), Ev.step (f := fun _ => some (decide ((l.length : Int) ≤ 20))) (fun k => ?_) (Ev.some _), fun e => ?_⟩
    · rw [althinglaw11_Few.c2_eq]
      by_cases h1 : i < l.length
      · rw [lt_tt h1, decide_eq_false (show ¬ ((i : Int) ≤ 20) by omega)]; rfl
      · rw [lt_ff h1]; rfl
    · have := of_decide_eq_true e
      exact ⟨by omega, fun x hx => by rw [List.drop_eq_nil_of_le (by omega)] at hx; cases hx⟩
  | dd + 1, i, hi => by
    have hil : i < l.length := by omega
    refine (?_ : ∃ q, Ev (fun k => althinglaw11_Few.c4 k l (i : Int)) q ∧ _).elim fun q hq => ⟨q, Ev.step (fun k => by rw [althinglaw11_Few.c2_eq, lt_tt hil, decide_eq_true (show (i : Int) ≤ 20 by omega)]; rfl) hq.1, hq.2⟩
    obtain ⟨q5, hq5, hp5⟩ := few5_ex [l[i].2.2.2.2.1] (by simp)
    obtain ⟨q, hq, hp⟩ := few11_c l dd (i + 1) (by omega)
    have hs : ∀ k, althinglaw11_Few.c4 (k + 1) l (i : Int) = (althinglaw05_Few k [l[i].2.2.2.2.1]).bind fun r0 => bif !r0 then some false else althinglaw11_Few.c2 k l ((i + 1 : Nat) : Int) := fun k => by
      rw [althinglaw11_Few.c4_eq, inI_tt hil, getD_at hil, wrap_at (by omega)]; rfl
    cases q5 with
    | false => exact ⟨false, Ev.step hs (Ev.bind hq5 (Ev.some _)), fun e => by cases e⟩
    | true =>
      refine ⟨q, Ev.step hs (Ev.bind hq5 (Ev.bif_ff rfl hq)), fun e => ⟨(hp e).1, fun x hx => ?_⟩⟩
      rw [drop_at hil] at hx
      rcases List.mem_cons.1 hx with rfl | hx
      · exact hp5 rfl _ List.mem_cons_self
      · exact (hp e).2 x hx
theorem few11_ex (l : List Rc) : ∃ q, Ev (fun k => althinglaw11_Few k l) q ∧ (q = true → l.length ≤ 20 ∧ fewR l) := by
  obtain ⟨q, hq, hp⟩ := few11_c l (min l.length 21) 0 (by omega)
  refine ⟨q, Ev.congr (fun k => althinglaw11_Few_eq k l) hq, fun e => ?_⟩
  have := hp e
  exact ⟨this.1, by omega, by simpa using this.2⟩
end Go.Proofs.Ytmkiodkkhfdlpaa.V
end
section
namespace Go.Proofs.Ytmkiodkkhfdlpaa.Strs
open Go.RowKit Go.Proofs.YtmkiodkkhfdlpaaW.PrintWords Go.Proofs.YtmkiodkkhfdlpaaW.PrintLast Go.Proofs.YtmkiodkkhfdlpaaW.PrintMore Go.Proofs.Ytmkiodkkhfdlpaa.X
set_option linter.unusedSimpArgs false
set_option linter.unusedVariables false
theorem before_l0 (a b : ByteArray) (hb : b.size ≤ 2000) : ∀ d i k, i + d = b.size → i ≤ a.size → a.data.toList.take i = b.data.toList.take i → d + 1 ≤ k →
    althingref04_Before.l0 k a b (i : Int) = some (decide (a.data.toList.drop i < b.data.toList.drop i))
  | 0, i, k, h1, h2, h3, hk => by
    obtain ⟨k, rfl⟩ : ∃ k', k = k' + 1 := ⟨k - 1, by omega⟩
    unfold althingref04_Before.l0
    have hd : b.data.toList.drop i = [] := List.drop_eq_nil_of_le (by rw [← sz_len]; omega)
    rw [if_neg (by omega), hd]
    simp
  | d + 1, i, k, h1, h2, h3, hk => by
    obtain ⟨k, rfl⟩ : ∃ k', k = k' + 1 := ⟨k - 1, by omega⟩
    have hbl : i < b.data.toList.length := by rw [← sz_len]; omega
    unfold althingref04_Before.l0
    rw [if_pos (by omega), drop_at _ i hbl]
    by_cases hia : i = a.size
    · have hd : a.data.toList.drop i = [] := List.drop_eq_nil_of_le (by rw [← sz_len]; omega)
      rw [if_pos (by omega), hd]
      simp
    · have hal : i < a.data.toList.length := by rw [← sz_len]; omega
      rw [if_neg (by omega), if_pos (by omega), if_pos (by omega), bt_el a i hal, bt_el b i hbl, drop_at _ i hal]
      by_cases he : a.data.toList[i] = b.data.toList[i]
      · rw [if_pos (by rw [he]), show wrap64 ((i : Int) + 1) = ((i + 1 : Nat) : Int) by unfold wrap64; omega]
        rw [before_l0 a b hb d (i + 1) k (by omega) (by omega) (by rw [List.take_succ_eq_append_getElem hal, List.take_succ_eq_append_getElem hbl, h3, he]) (by omega)]
        congr 1
        rw [decide_eq_decide, List.cons_lt_cons_iff, he]
        constructor
        · intro h; exact .inr ⟨rfl, h⟩
        · rintro (h | h)
          · exact absurd h (by simp)
          · exact h.2
      · have hne : (a.data.toList[i]).toNat ≠ (b.data.toList[i]).toNat := fun e => he (UInt8.toNat_inj.1 e)
        rw [if_neg (by omega)]
        congr 1
        rw [decide_eq_decide, List.cons_lt_cons_iff]
        constructor
        · intro h; exact .inl (UInt8.lt_iff_toNat_lt.2 (by omega))
        · rintro (h | h)
          · have := UInt8.lt_iff_toNat_lt.1 h; omega
          · exact absurd h.1 he
theorem before_is (a b : ByteArray) (hb : b.size ≤ 2000) (k : Nat) (hk : 2001 ≤ k) : althingref04_Before.f k a b = some (decide (blt a b)) := by
  have := before_l0 a b hb b.size 0 k (by omega) (by omega) (by simp) (by omega)
  simpa [althingref04_Before.f, blt] using this
theorem in_l0 (l : List ByteArray) (x : ByteArray) (hl : l.length ≤ 2000) : ∀ d i k, i + d = l.length → d + 1 ≤ k → althingref04_In.l0 k l x (i : Int) = some (inB (l.drop i) x)
  | 0, i, k, h1, hk => by
    obtain ⟨k, rfl⟩ : ∃ k', k = k' + 1 := ⟨k - 1, by omega⟩
    unfold althingref04_In.l0
    rw [if_neg (by omega), List.drop_eq_nil_of_le (by omega)]
    rfl
  | d + 1, i, k, h1, hk => by
    obtain ⟨k, rfl⟩ : ∃ k', k = k' + 1 := ⟨k - 1, by omega⟩
    have hil : i < l.length := by omega
    have e : rdOf ByteArray.empty l (i : Int) = l[i] := by unfold rdOf; rw [Int.toNat_natCast]; simp [List.getD_eq_getElem?_getD, hil]
    unfold althingref04_In.l0
    rw [if_pos (by omega), if_pos (by omega), e, List.drop_eq_getElem_cons hil]
    by_cases hx : l[i] = x
    · rw [if_pos (by rw [hx]), hx]; simp [inB]
    · have hne : ¬ l[i].data.toList = x.data.toList := fun e => hx (bytes_ext e)
      rw [if_neg (by rw [toList_eq, toList_eq]; exact hne), show wrap64 ((i : Int) + 1) = ((i + 1 : Nat) : Int) by unfold wrap64; omega, in_l0 l x hl d (i + 1) k (by omega) (by omega)]
      unfold inB
      rw [List.any_cons, decide_eq_false hne, Bool.false_or]
theorem in_is (l : List ByteArray) (x : ByteArray) (hl : l.length ≤ 2000) (k : Nat) (hk : 2001 ≤ k) : althingref04_In.f k l x = some (inB l x) := by
  have := in_l0 l x hl l.length 0 k (by omega) (by omega)
  simpa [althingref04_In.f] using this
end Go.Proofs.Ytmkiodkkhfdlpaa.Strs
end
section
namespace Go.Proofs.Ytmkiodkkhfdlpaa.Strs
open Go.RowKit Go.Proofs.YtmkiodkkhfdlpaaW.PrintWords Go.Proofs.YtmkiodkkhfdlpaaW.PrintLast Go.Proofs.YtmkiodkkhfdlpaaW.PrintMore Go.Proofs.Ytmkiodkkhfdlpaa.X
set_option linter.unusedSimpArgs false
set_option linter.unusedVariables false
theorem join_l1 (l : List ByteArray) (hl : l.length ≤ 80) (hz : ∀ x ∈ l, x.size ≤ 2000) (i : Nat) (hi : i < l.length) (K : Nat)
    (h0 : ∀ out k, out.Pairwise blt → (∀ x, x ∈ out ↔ x ∈ l.take (i + 1)) → out.length ≤ i + 1 → K ≤ k → ∃ r, althingref04_Join.l0 k out l ((i + 1 : Nat) : Int) = some r ∧ JoinedTo l r)
    (out : List ByteArray) (hs : out.Pairwise blt) (hm : ∀ x, x ∈ out ↔ x ∈ l.take i) (hn : out.length ≤ i) (hx : l[i] ∉ out) :
    ∀ d q k, q + d = out.length → (∀ y ∈ out.take q, blt y l[i]) → K + 2001 + d + 1 ≤ k → ∃ r, althingref04_Join.l1 k out l (i : Int) (q : Int) = some r ∧ JoinedTo l r := by
  have hmem : ∀ q y, y ∈ out.take q ++ [l[i]] ++ out.drop q ↔ y ∈ l.take (i + 1) := fun q y => by
    rw [ins_mem, hm, List.take_succ_eq_append_getElem hi, List.mem_append, List.mem_singleton]
  have hw : wrap64 ((i : Int) + 1) = ((i + 1 : Nat) : Int) := by unfold wrap64; omega
  intro d
  induction d with
  | zero =>
    intro q k hq hlow hk
    obtain ⟨k, rfl⟩ : ∃ k', k = k' + 1 := ⟨k - 1, by omega⟩
    obtain rfl : q = out.length := by omega
    have hd : out.drop out.length = [] := List.drop_eq_nil_of_le (Nat.le_refl _)
    obtain ⟨r, hr, hj⟩ := h0 (out.take out.length ++ [l[i]] ++ out.drop out.length) k (ins_sorted out l[i] out.length hs hlow (by rw [hd]; simp)) (hmem _) (by rw [ins_len]; omega) (by omega)
    refine ⟨r, ?_, hj⟩
    unfold althingref04_Join.l1
    rw [if_neg (by omega)]
    simp only [Option.bind_some, Int.toNat_natCast, List.nil_append, rd_el l i hi]
    rw [if_pos (by omega), if_pos (by omega), if_pos (by simp), if_pos (by omega), if_pos (by omega), if_pos (by simp; omega), if_pos (by simp; omega), hw]
    exact hr
  | succ d ih =>
    intro q k hq hlow hk
    obtain ⟨k, rfl⟩ : ∃ k', k = k' + 1 := ⟨k - 1, by omega⟩
    have hql : q < out.length := by omega
    unfold althingref04_Join.l1
    rw [if_pos (by omega), if_pos (by omega), if_pos (by omega), if_pos (by omega), rd_el l i hi, rd_el out q hql, before_is _ _ (hz _ (List.getElem_mem hi)) k (by omega)]
    simp only [Option.bind_some]
    by_cases hb : blt out[q] l[i]
    · rw [if_pos (decide_eq_true hb), show wrap64 ((q : Int) + 1) = ((q + 1 : Nat) : Int) by unfold wrap64; omega]
      refine ih (q + 1) k (by omega) ?_ (by omega)
      intro y hy
      rw [List.take_succ_eq_append_getElem hql, List.mem_append, List.mem_singleton] at hy
      rcases hy with hy | rfl
      · exact hlow y hy
      · exact hb
    · rw [if_neg (by rw [decide_eq_true_eq]; exact hb)]
      obtain ⟨r, hr, hj⟩ := h0 (out.take q ++ [l[i]] ++ out.drop q) k (ins_sorted out l[i] q hs hlow (head_below out l[i] q hs hql hx hb)) (hmem _) (by rw [ins_len]; omega) (by omega)
      refine ⟨r, ?_, hj⟩
      simp only [Int.toNat_natCast, List.nil_append]
      rw [if_pos (by omega), if_pos (by simp; omega), if_pos (by simp; omega), if_pos (by simp; omega), hw]
      exact hr
theorem join_l0 (l : List ByteArray) (hl : l.length ≤ 80) (hz : ∀ x ∈ l, x.size ≤ 2000) : ∀ d i, i + d = l.length → ∃ K, ∀ out k, out.Pairwise blt → (∀ x, x ∈ out ↔ x ∈ l.take i) → out.length ≤ i → K ≤ k → ∃ r, althingref04_Join.l0 k out l (i : Int) = some r ∧ JoinedTo l r
  | 0, i, h => ⟨1, fun out k hs hm hn hk => by
      obtain ⟨k, rfl⟩ : ∃ k', k = k' + 1 := ⟨k - 1, by omega⟩
      refine ⟨out, ?_, hs, fun x => by rw [hm, List.take_of_length_le (by omega)]⟩
      unfold althingref04_Join.l0
      rw [if_neg (by omega)]⟩
  | d + 1, i, h => by
    obtain ⟨K, hK⟩ := join_l0 l hl hz d (i + 1) (by omega)
    have hi : i < l.length := by omega
    refine ⟨K + 2001 + i + 3, fun out k hs hm hn hk => ?_⟩
    obtain ⟨k, rfl⟩ : ∃ k', k = k' + 1 := ⟨k - 1, by omega⟩
    unfold althingref04_Join.l0
    rw [if_pos (by omega), if_pos (by omega), rd_el l i hi, in_is out _ (by omega) k (by omega)]
    simp only [Option.bind_some]
    by_cases hx : l[i] ∈ out
    · rw [if_pos ((inB_iff _ _).2 hx), show wrap64 ((i : Int) + 1) = ((i + 1 : Nat) : Int) by unfold wrap64; omega]
      refine hK out k hs (fun x => ?_) (by omega) (by omega)
      rw [List.take_succ_eq_append_getElem hi, List.mem_append, List.mem_singleton, hm]
      constructor
      · exact .inl
      · rintro (h | rfl)
        · exact h
        · exact (hm _).1 hx
    · rw [if_neg (fun e => hx ((inB_iff _ _).1 e))]
      exact join_l1 l hl hz i hi K (fun out k a b c d => hK out k a b c d) out hs hm hn hx out.length 0 k (by omega) (by simp) (by omega)
theorem refJoin_is (a b : List ByteArray) (ha : few a) (hb : few b) : ∃ K, ∀ k, K ≤ k → ∃ r, althingref04_Join.f k a b = some r ∧ Joined a b r := by
  obtain ⟨K, hK⟩ := join_l0 (a ++ b) (by rw [List.length_append]; have := ha.1; have := hb.1; omega) (fun x hx => by rcases List.mem_append.1 hx with h | h; have := ha.2 x h; omega; have := hb.2 x h; omega) (a ++ b).length 0 (by omega)
  refine ⟨K, fun k hk => ?_⟩
  obtain ⟨r, hr, hj⟩ := hK [] k (by simp) (by simp) (by simp) hk
  refine ⟨r, ?_, hj.1, fun x => (hj.2 x).trans List.mem_append⟩
  unfold althingref04_Join.f
  simp only [Option.bind_some, List.nil_append, List.length_nil]
  have := ha.1
  have := hb.1
  rw [if_pos (by omega), if_pos (by omega)]
  exact hr
end Go.Proofs.Ytmkiodkkhfdlpaa.Strs
end
section
namespace Go.Proofs.Ytmkiodkkhfdlpaa.V
open Go Go.Vm Go.Proofs.Ytmkiodkkhfdlpaa.Strs
set_option linter.unusedVariables false
set_option linter.unusedSimpArgs false
theorem rjoin_ev (a b : List ByteArray) (ha : few a) (hb : few b) : Ev (fun k => althingref04_Join k a b) (joinB a b) := by
  obtain ⟨K, hK⟩ := refJoin_is a b ha hb
  refine ⟨K, fun k hk => ?_⟩
  obtain ⟨r, hr, hj⟩ := hK k hk
  show althingref04_Join k a b = _
  unfold althingref04_Join
  rw [decide_eq_true (show a.length ≤ 1000000 by have := ha.1; omega), decide_eq_true (show b.length ≤ 1000000 by have := hb.1; omega)]
  show Go.Proofs.Ytmkiodkkhfdlpaa.X.althingref04_Join.f k a b = _
  rw [hr, hj.unique (joinB_joined a b)]
theorem few_nil : few [] := ⟨by simp, by simp⟩
theorem joinB_flat (l m : List ByteArray) : joinB (l ++ m) [] = joinB l m :=
  Joined.unique (a := l) (b := m) ⟨(joinB_joined (l ++ m) []).1, fun x => by rw [(joinB_joined (l ++ m) []).2 x, List.mem_append]; simp⟩ (joinB_joined l m)
theorem rkeys_c7 (c : Cm) (h : small c) (s0 : List ByteArray) (hs : s0.length ≤ 20 ∧ ∀ x ∈ s0, x.size ≤ 100) : Ev (fun k => althingref05_Keys.c7 k s0 0 c) (joinB (s0 ++ wk c.2.2.2.2.2.1) []) := by
  have hw := h.2.1
  have := Ev.fold0 c.2.2.2.2.2.1 (fun k s j => althingref05_Keys.c7 k s j c) (fun s x => s ++ [x.1]) (fun s => joinB s []) (fun i s => s.length ≤ 20 + i ∧ ∀ x ∈ s, x.size ≤ 100) s0 ⟨by have := hs.1; omega, hs.2⟩
    (fun s hs => Ev.step (f := fun k => (althingref04_Join k s []).bind fun r0 => some r0) (fun k => by rw [althingref05_Keys.c7_eq, lt_ff (Nat.lt_irrefl _)]; rfl) (Ev.bind (rjoin_ev s [] ⟨by have := hs.1; omega, hs.2⟩ few_nil) (Ev.some _)))
    (fun i s hi hs => ⟨⟨by rw [List.length_append, List.length_singleton]; have := hs.1; omega, fun x hx => by
        rcases List.mem_append.1 hx with hx | hx
        · exact hs.2 x hx
        · rw [List.mem_singleton.1 hx]; exact (h.2.2.2 _ (List.getElem_mem hi)).1⟩,
      fun r hr => Ev.step (fun k => by rw [althingref05_Keys.c7_eq, lt_tt hi, inI_tt hi, getD_at hi, wrap_at (by omega), lt32 (by have := hs.1; omega)]; rfl) hr⟩)
  rw [foldl_app] at this
  exact this
theorem rkeys_ev (c : Cm) (h : small c) : Ev (fun k => althingref05_Keys k c) (keysV c) := by
  have hr := h.1
  refine Ev.congr (fun k => althingref05_Keys_eq k c) ?_
  have := Ev.fold0 c.2.2.2.2.1 (fun k s j => althingref05_Keys.c3 k s j c) (fun s x => s ++ [x.1]) (fun s => joinB (s ++ wk c.2.2.2.2.2.1) []) (fun i s => s.length ≤ i ∧ ∀ x ∈ s, x.size ≤ 100) [] ⟨by simp, by simp⟩
    (fun s hs => Ev.step (f := fun k => althingref05_Keys.c7 k s 0 c) (fun k => by rw [althingref05_Keys.c3_eq, lt_ff (Nat.lt_irrefl _)]; rfl) (rkeys_c7 c h s ⟨by have := hs.1; omega, hs.2⟩))
    (fun i s hi hs => ⟨⟨by rw [List.length_append, List.length_singleton]; have := hs.1; omega, fun x hx => by
        rcases List.mem_append.1 hx with hx | hx
        · exact hs.2 x hx
        · rw [List.mem_singleton.1 hx]; exact h.2.2.1 _ (List.getElem_mem hi)⟩,
      fun r hr => Ev.step (fun k => by rw [althingref05_Keys.c3_eq, lt_tt hi, inI_tt hi, getD_at hi, wrap_at (by omega), lt32 (by have := hs.1; omega)]; rfl) hr⟩)
  rw [foldl_app, List.nil_append, joinB_flat] at this
  exact this
theorem rin_ev (m : List ByteArray) (x : ByteArray) (hm : m.length ≤ 1000000) : Ev (fun k => althingref04_In k m x) (m.any fun y => decide (x = y)) := by
  refine Ev.congr (fun k => althingref04_In_eq k m x) (Ev.any0 m (fun k j => althingref04_In.c2 k m x j) _ (Ev.step (f := fun _ => some false) (fun k => by rw [althingref04_In.c2_eq, lt_ff (Nat.lt_irrefl _)]; rfl) (Ev.some _)) fun i hi => ⟨fun hp => ?_, fun hp r hr => ?_⟩)
  · exact Ev.step (f := fun _ => some true) (fun k => by rw [althingref04_In.c2_eq, lt_tt hi, inI_tt hi, getD_at hi, decide_eq_true (of_decide_eq_true hp).symm]; rfl) (Ev.some _)
  · exact Ev.step (fun k => by rw [althingref04_In.c2_eq, lt_tt hi, inI_tt hi, getD_at hi, decide_eq_false (fun e => of_decide_eq_false hp (Eq.symm e)), wrap_at (by omega)]; rfl) hr
theorem rmeet_ev (l m : List ByteArray) (hl : l.length ≤ 1000000) (hm : m.length ≤ 1000000) : Ev (fun k => althingref05_Interfere.c8 k l m 0) (meetV l m) := by
  refine Ev.any0 l (fun k j => althingref05_Interfere.c8 k l m j) _ (Ev.step (f := fun _ => some false) (fun k => by rw [althingref05_Interfere.c8_eq, lt_ff (Nat.lt_irrefl _)]; rfl) (Ev.some _)) fun i hi => ?_
  have hin := rin_ev m l[i] hm
  have e : ∀ k, althingref05_Interfere.c8 (k + 1) l m (i : Int) = (althingref04_In k m l[i]).bind fun r0 => bif r0 then some true else althingref05_Interfere.c8 k l m ((i + 1 : Nat) : Int) := fun k => by
    rw [althingref05_Interfere.c8_eq, lt_tt hi, inI_tt hi, getD_at hi, wrap_at (by omega)]; rfl
  refine ⟨fun hp => ?_, fun hp r hr => ?_⟩
  · rw [hp] at hin
    exact Ev.step e (Ev.bind hin (Ev.some _))
  · rw [hp] at hin
    exact Ev.step e (Ev.bind hin hr)
theorem rinter_ev (a b : Cm) (ha : small a) (hb : small b) : Ev (fun k => althingref05_Interfere k a b) (interV a b) := by
  refine Ev.congr (fun k => althingref05_Interfere_eq k a b) ?_
  unfold interV
  cases h1 : a.1 == 0 with
  | true => exact Ev.some _
  | false =>
    refine Ev.bif_ff rfl ?_
    cases h2 : b.1 == 0 with
    | true => exact Ev.some _
    | false =>
      refine Ev.bif_ff rfl (Ev.step (fun k => althingref05_Interfere.c3_eq k a b) ?_)
      cases h3 : Ty.beq Ty_api_Instance a.2.1 b.2.1 with
      | true => exact Ev.some _
      | false =>
        refine Ev.bif_ff rfl (Ev.bind (rkeys_ev a ha) (Ev.bind (rkeys_ev b hb) (rmeet_ev _ _ ?_ ?_)))
        · have := keysV_len ha; omega
        · have := keysV_len hb; omega
theorem rlast_ev (l : List Rc) (hl : l.length ≤ 1000000) (i : Nat) (hi : i < l.length) : Ev (fun k => althingref11_Last k l (i : Int)) (!(l.drop (i + 1)).any (sameI l[i])) := by
  refine Ev.congr (fun k => althingref11_Last_eq k l (i : Int)) ?_
  rw [wrap_at (by omega)]
  refine Ev.nany l (fun k j => althingref11_Last.c2 k l (i : Int) j) _ (Ev.step (f := fun _ => some true) (fun k => by rw [althingref11_Last.c2_eq, lt_ff (Nat.lt_irrefl _)]; rfl) (Ev.some _)) (fun j hj => ⟨fun hp => ?_, fun hp r hr => ?_⟩) (l.length - (i + 1)) (i + 1) (by omega)
  · unfold sameI at hp
    exact Ev.step (f := fun _ => some false) (fun k => by rw [althingref11_Last.c2_eq, lt_tt hj, inI_tt hj, inI_tt hi, getD_at hj, getD_at hi, hp]; rfl) (Ev.some _)
  · unfold sameI at hp
    exact Ev.step (fun k => by rw [althingref11_Last.c2_eq, lt_tt hj, inI_tt hj, inI_tt hi, getD_at hj, getD_at hi, hp, wrap_at (by omega)]; rfl) hr
theorem le0_tt {n : Int} (h : decide (n > 0) = false) : decide (n ≤ 0) = true := decide_eq_true (by have := of_decide_eq_false h; omega)
theorem le0_ff {n : Int} (h : decide (n > 0) = true) : decide (n ≤ 0) = false := decide_eq_false (by have := of_decide_eq_true h; omega)
theorem ragainst_c3 (l : List Rc) (h : fewR l) (i : In) (c : Cm) (hc : small c) : ∀ d j (acc : List Rc), j + d = l.length → acc.length ≤ j → Ev (fun k => althingref11_Against.c3 k l acc (j : Int) i c) (acc ++ (knownV (l.drop j)).filter fun x => !outV i c x)
  | 0, j, acc, hj, ha => by
    obtain rfl : j = l.length := by omega
    rw [List.drop_length, knownV, List.filter_nil, List.append_nil]
    exact Ev.step (fun k => by rw [althingref11_Against.c3_eq, lt_ff (Nat.lt_irrefl _)]; rfl) (Ev.some acc)
  | d + 1, j, acc, hj, ha => by
    have hjl : j < l.length := by omega
    have hl := h.1
    have hs := h.2 _ (List.getElem_mem hjl)
    rw [drop_at hjl, knownV]
    have next : ∀ acc' : List Rc, acc'.length ≤ j + 1 → Ev (fun k => althingref11_Against.c4 k l acc' (j : Int) i c) (acc' ++ (knownV (l.drop (j + 1))).filter fun x => !outV i c x) := fun acc' ha' =>
      Ev.step (fun k => by rw [althingref11_Against.c4_eq, wrap_at (by omega)]) (ragainst_c3 l h i c hc d (j + 1) acc' (by omega) ha')
    have next' := next acc (by omega)
    refine Ev.step (fun k => by rw [althingref11_Against.c3_eq, lt_tt hjl, inI_tt hjl, getD_at hjl]; exact cond_true _ _) (Ev.bind (rlast_ev l (by omega) j hjl) ?_)
    cases hc0 : (l.drop (j + 1)).any (sameI l[j]) with
    | true => rw [if_pos rfl]; exact Ev.bif_ff rfl next'
    | false =>
      rw [if_neg (by simp)]
      refine Ev.bif_tt rfl (Ev.bif_tt rfl ?_)
      rw [List.filter_cons]
      cases h1 : Ty.beq Ty_api_Instance l[j].1 i with
      | true =>
        rw [if_neg (by unfold outV; rw [h1]; simp)]
        exact Ev.bif_ff rfl next'
      | false =>
        refine Ev.bif_tt rfl (Ev.bif_tt rfl ?_)
        cases h2 : decide (l[j].2.1 > 0) with
        | false =>
          rw [if_neg (by unfold outV; rw [h1, le0_tt h2]; simp)]
          exact Ev.bif_ff rfl next'
        | true =>
          have h2' : decide (l[j].2.1 ≤ 0) = false := le0_ff h2
          refine Ev.bif_tt rfl (Ev.bif_tt rfl (Ev.bind (rinter_ev _ _ hs hc) ?_))
          cases h3 : interV l[j].2.2.2.2.1 c with
          | false =>
            rw [if_neg (by unfold outV; rw [h1, h2', h3]; simp)]
            exact Ev.bif_ff rfl next'
          | true =>
            rw [if_pos (by unfold outV; rw [h1, h2', h3]; rfl)]
            have := next (acc ++ [l[j]]) (by rw [List.length_append, List.length_singleton]; omega)
            rw [List.append_assoc, List.singleton_append] at this
            exact Ev.bif_tt rfl (Ev.step (fun k => by rw [althingref11_Against.c6_eq, inI_tt hjl, getD_at hjl, lt32 (by omega)]; rfl) this)
theorem ragainst_ev (l : List Rc) (h : fewR l) (i : In) (c : Cm) (hc : small c) : Ev (fun k => althingref11_Against k l i c) (againstV l i c) := by
  have := ragainst_c3 l h i c hc l.length 0 [] (by omega) (by simp)
  refine Ev.congr (fun k => althingref11_Against_eq k l i c) ?_
  rw [List.drop_zero, List.nil_append] at this
  exact this
theorem set_same (d : List Int) (n : Nat) : d.set n (d.getD n 0) = d := by
  by_cases h : n < d.length
  · have : d.getD n 0 = d[n] := by simp [List.getD_eq_getElem?_getD, h]
    rw [this, List.set_getElem_self]
  · exact List.set_eq_of_length_le (by omega)
theorem rwith_c2 (p q : Int) (z : Dp) : ∀ (dd j : Nat) (d : Dp), j + dd = 7 → Ev (fun k => althingref03_With.c2 k (j : Int) d (p, q) z) (bif decide ((j : Int) ≤ p) && decide (p < 7) then withV d (p, q) else d)
  | 0, j, d, hj => by
    obtain rfl : j = 7 := by omega
    refine Ev.step (f := fun _ => some d) (fun k => by rw [althingref03_With.c2_eq, decide_eq_false (by omega)]; rfl) ?_
    rw [show (decide (((7 : Nat) : Int) ≤ p) && decide (p < 7)) = false by rw [Bool.and_eq_false_iff, decide_eq_false_iff_not, decide_eq_false_iff_not]; omega]
    exact Ev.some _
  | dd + 1, j, d, hj => by
    have hj7 : decide ((j : Int) < 7) = true := decide_eq_true (by omega)
    have next : ∀ d' : Dp, Ev (fun k => althingref03_With.c3 k (j : Int) d' (p, q) z) (bif decide (((j + 1 : Nat) : Int) ≤ p) && decide (p < 7) then withV d' (p, q) else d') := fun d' =>
      Ev.step (fun k => by rw [althingref03_With.c3_eq, wrap_at (by omega)]) (rwith_c2 p q z dd (j + 1) d' (by omega))
    by_cases he : p = (j : Int)
    · subst he
      have hb : ((j : Int) == (j : Int)) = true := by simp
      have h1 : (decide (((j + 1 : Nat) : Int) ≤ (j : Int)) && decide ((j : Int) < 7)) = false := by
        rw [Bool.and_eq_false_iff, decide_eq_false_iff_not]; omega
      have h2 : (decide ((j : Int) ≤ (j : Int)) && decide ((j : Int) < 7)) = true := by
        rw [Bool.and_eq_true, decide_eq_true_iff, decide_eq_true_iff]; omega
      rw [h2]
      show Ev _ (withV d ((j : Int), q))
      have hw : withV d ((j : Int), q) = List.set (α := Int) d (Int.toNat (j : Int)) (max (List.getD (α := Int) d (Int.toNat (j : Int)) 0) q) := by
        unfold withV
        rw [show inI (((j : Int), q) : In).1 7 = true from inI_tt (show j < 7 by omega)]; rfl
      rw [hw]
      have hc2 : ∀ k, althingref03_With.c2 (k + 1) (j : Int) d ((j : Int), q) z = bif decide (q > List.getD (α := Int) d (Int.toNat (j : Int)) 0) then althingref03_With.c3 k (j : Int) (List.set (α := Int) d (Int.toNat (j : Int)) q) ((j : Int), q) z else althingref03_With.c3 k (j : Int) d ((j : Int), q) z := fun k => by
        rw [althingref03_With.c2_eq, hj7, show ((((j : Int), q) : In).1 == (j : Int)) = true from hb, inI_tt (show j < 7 by omega)]; rfl
      have hss := set_same d (Int.toNat (j : Int))
      generalize List.getD (α := Int) d (Int.toNat (j : Int)) 0 = g at hc2 hss ⊢
      cases hg : decide (q > g) with
      | true =>
        have hn := next (List.set (α := Int) d (Int.toNat (j : Int)) q)
        rw [h1] at hn
        rw [Int.max_eq_right (by have := of_decide_eq_true hg; omega)]
        exact Ev.step (fun k => by rw [hc2, hg]; rfl) hn
      | false =>
        have hn := next d
        rw [h1] at hn
        rw [Int.max_eq_left (by have := of_decide_eq_false hg; omega)]
        rw [hss]
        exact Ev.step (fun k => by rw [hc2, hg]; rfl) hn
    · have hb : (p == (j : Int)) = false := by rw [beq_eq_false_iff_ne]; exact he
      have hn := next d
      have : (decide (((j + 1 : Nat) : Int) ≤ p) && decide (p < 7)) = (decide ((j : Int) ≤ p) && decide (p < 7)) := by
        congr 1
        exact decide_eq_decide.2 (by omega)
      rw [this] at hn
      exact Ev.step (fun k => by rw [althingref03_With.c2_eq, hj7, show (((p, q) : In).1 == (j : Int)) = false from hb]; rfl) hn
theorem rwith_ev (d : Dp) (i : In) : Ev (fun k => althingref03_With k d i) (withV d i) := by
  obtain ⟨p, q⟩ := i
  have := rwith_c2 p q (Ty.zero Ty_api_Deps) 7 0 d (by omega)
  refine Ev.congr (fun k => althingref03_With_eq k d (p, q)) ?_
  cases hb : (decide (((0 : Nat) : Int) ≤ p) && decide (p < 7)) with
  | true => rw [hb] at this; exact this
  | false =>
    rw [hb] at this
    have hw : withV d (p, q) = d := by unfold withV; rw [show inI ((p, q) : In).1 7 = false from hb]; rfl
    rw [hw]
    exact this
theorem rnext (n : Int) : IntKind.wrap .i64 (min n 1099511627775 + 1) = bif decide (n < 1099511627776) then IntKind.wrap .i64 (n + 1) else 1099511627776 := by
  by_cases h : n < 1099511627776
  · rw [decide_eq_true h, Int.min_eq_left (by omega)]; rfl
  · rw [decide_eq_false h, Int.min_eq_right (by omega)]; rfl
theorem rattrs_ev (l : List Rc) (h : fewR l) (i : In) (c : Cm) (hc : small c) (seq : Int) (d : Dp) : Ev (fun k => althingref11_Attrs k l i c seq d) (attrsV l i c seq d) := by
  refine Ev.congr (fun k => althingref11_Attrs_eq k l i c seq d) (Ev.bind (ragainst_ev l h i c hc) ?_)
  have hl := (againstV_sub l i c).length_le
  have h1 := h.1
  unfold attrsV
  generalize againstV l i c = al at hl ⊢
  have := Ev.fold0 al (fun k (s : Int × Dp) j => althingref11_Attrs.c3 k s.1 al j s.2 (Ty.zero Ty_api_Deps)) attrStep id (fun _ _ => True) (seq, d) trivial
    (fun s _ => Ev.step (f := fun _ => some s) (fun k => by rw [althingref11_Attrs.c3_eq, lt_ff (Nat.lt_irrefl _)]; rfl) (Ev.some s))
    (fun j s hj _ => ⟨trivial, fun r hr => by
      have h11 : ∀ n : Int, n = max s.1 (IntKind.wrap .i64 (min al[j].2.2.2.2.2.1 1099511627775 + 1)) → Ev (fun k => althingref11_Attrs.c11 k n al (j : Int) s.2 (Ty.zero Ty_api_Deps)) r := fun n hn => by
        subst hn
        exact Ev.step (fun k => by rw [althingref11_Attrs.c11_eq, inI_tt hj, getD_at hj, wrap_at (by omega)]; exact cond_true _ _) (Ev.bind (rwith_ev _ _) hr)
      have h9 : Ev (fun k => althingref11_Attrs.c9 k s.1 al (j : Int) (IntKind.wrap .i64 (min al[j].2.2.2.2.2.1 1099511627775 + 1)) s.2 (Ty.zero Ty_api_Deps)) r := by
        refine Ev.step (fun k => althingref11_Attrs.c9_eq ..) (Ev.bif_ (fun e => h11 _ ?_) (fun e => h11 _ ?_))
        · exact (Int.max_eq_right (by have := of_decide_eq_true e; omega)).symm
        · exact (Int.max_eq_left (by have := of_decide_eq_false e; omega)).symm
      rw [rnext] at h9
      cases hb : decide (al[j].2.2.2.2.2.1 < 1099511627776) with
      | true =>
        rw [hb] at h9
        exact Ev.step (fun k => by rw [althingref11_Attrs.c3_eq, lt_tt hj, inI_tt hj, getD_at hj, hb]; rfl) h9
      | false =>
        rw [hb] at h9
        exact Ev.step (fun k => by rw [althingref11_Attrs.c3_eq, lt_tt hj, inI_tt hj, getD_at hj, hb]; rfl) h9⟩)
  exact this
end Go.Proofs.Ytmkiodkkhfdlpaa.V
end
section
namespace Go.Proofs.Ytmkiodkkhfdlpaa.V
open Go Go.Vm Go.Proofs.Ytmkiodkkhfdlpaa.Strs
set_option linter.unusedVariables false
set_option linter.unusedSimpArgs false
abbrev Ms := Ty_api_Message.den
def inR (n lo hi : Int) : Bool := decide (n ≥ lo) && decide (n ≤ hi)
abbrev big40 : Int := 1099511627776
def rbV (b : In) : Bool := inR b.1 0 big40 && inR b.2 0 6
def instV (b : In) : Bool := inR b.1 0 6 && inR b.2 1 1048576
def stampV (b : In) : Bool := inR b.1 0 big40 && inR b.2 0 3
def txnV (b : In) : Bool := inR b.1 0 3 && inR b.2 1 big40
theorem wwithin_at (k) (n lo hi : Int) : wire_within k n lo hi = some (inR n lo hi) := by rw [wire_within_eq, cs]; rfl
theorem swithin_at (k) (n lo hi : Int) : stamp_within_int k n lo hi = some (inR n lo hi) := by rw [stamp_within_int_eq, cs]; rfl
theorem srb_at (k) (b : In) : stamp_RightBallot k b = some (rbV b) := by simp only [stamp_RightBallot_eq, swithin_at, Option.bind_some, cs]; rfl
theorem sinst_at (k) (b : In) : stamp_RightInst k b = some (instV b) := by simp only [stamp_RightInst_eq, swithin_at, Option.bind_some, cs]; rfl
theorem sstamp_at (k) (b : In) : stamp_RightStamp k b = some (stampV b) := by simp only [stamp_RightStamp_eq, swithin_at, Option.bind_some, cs]; rfl
theorem stxn_at (k) (b : In) : stamp_RightTxn k b = some (txnV b) := by simp only [stamp_RightTxn_eq, swithin_at, Option.bind_some, cs]; rfl
theorem rrb_at (k) (b : In) : althingref02_RightBallot k b = some (rbV b) := by rw [althingref02_RightBallot_eq, cs, cs, cs]; simp only [rbV, inR, Bool.and_assoc]
theorem rinst_at (k) (b : In) : althingref02_RightInst k b = some (instV b) := by rw [althingref02_RightInst_eq, cs, cs, cs]; simp only [instV, inR, Bool.and_assoc]
theorem rstamp_at (k) (b : In) : althingref02_RightStamp k b = some (stampV b) := by rw [althingref02_RightStamp_eq, cs, cs, cs]; simp only [stampV, inR, Bool.and_assoc]
theorem rtxn_at (k) (b : In) : althingref02_RightTxn k b = some (txnV b) := by rw [althingref02_RightTxn_eq, cs, cs, cs]; simp only [txnV, inR, Bool.and_assoc]
def lowP (a b c d : Int) : Bool := decide (a < c) || (a == c && decide (b < d))
def lowV (x y : In) : Bool := lowP x.1 x.2 y.1 y.2
def ordV (a b c d : Int) : Int := if lowP a b c d = true then -1 else if lowP c d a b = true then 1 else 0
theorem ord_neg (a b c d : Int) : decide (ordV a b c d < 0) = lowP a b c d := by
  unfold ordV
  split
  · rename_i h; rw [h]; rfl
  · rename_i h
    rw [Bool.not_eq_true] at h
    rw [h]
    split <;> rfl
theorem low_asym {a b c d : Int} (h : lowP a b c d = true) : lowP c d a b = false := by
  unfold lowP at *
  simp only [Bool.or_eq_true, decide_eq_true_eq, Bool.and_eq_true, beq_iff_eq] at h
  simp only [Bool.or_eq_false_iff, decide_eq_false_iff_not, Bool.and_eq_false_iff, beq_eq_false_iff_ne]
  omega
theorem ord_pos (a b c d : Int) : decide (ordV a b c d > 0) = lowP c d a b := by
  unfold ordV
  split
  · rename_i h; rw [low_asym h]; rfl
  · split
    · rename_i h; rw [h]; rfl
    · rename_i h
      rw [Bool.not_eq_true] at h
      rw [h]; rfl
theorem order_ev (a b c d : Int) : Ev (fun k => stamp_order k a b c d) (ordV a b c d) := by
  refine Ev.congr (fun k => stamp_order_eq k a b c d) ?_
  unfold ordV lowP
  by_cases h1 : a < c
  · simp only [decide_eq_true h1, Bool.true_or, ↓reduceIte]; exact Ev.some _
  · by_cases h2 : a = c
    · subst h2
      by_cases h3 : b < d
      · simp only [decide_eq_false h1, decide_eq_true h3, BEq.rfl, Bool.true_and, Bool.false_or, ↓reduceIte]; exact Ev.some _
      · simp only [decide_eq_false h1, decide_eq_false h3, BEq.rfl, Bool.true_and, Bool.false_or]
        refine Ev.bif_ff rfl (Ev.bif_tt rfl (Ev.bif_ff rfl (Ev.step (fun k => stamp_order.c3_eq k a b a d) (Ev.bif_tt (by simp) ?_))))
        by_cases h4 : b = d
        · subst h4
          simp only [BEq.rfl, decide_eq_false (show ¬ b < b by omega)]; exact Ev.some _
        · rw [show (b == d) = false from beq_eq_false_iff_ne.2 h4, decide_eq_true (show d < b by omega)]; exact Ev.some _
    · rw [decide_eq_false h1, show (a == c) = false from beq_eq_false_iff_ne.2 h2, show (c == a) = false from beq_eq_false_iff_ne.2 (Ne.symm h2), decide_eq_true (show c < a by omega)]
      refine Ev.bif_ff rfl (Ev.bif_ff rfl (Ev.step (fun k => stamp_order.c3_eq k a b c d) ?_))
      rw [show (a == c) = false from beq_eq_false_iff_ne.2 h2]
      exact Ev.some _
theorem rorder_at (k) (a b c d : Int) : althingref02_Order k a b c d = some (ordV a b c d) := by
  rw [althingref02_Order_eq]
  unfold ordV lowP
  rcases Int.lt_trichotomy a c with h1 | h1 | h1
  · simp only [decide_eq_true h1, Bool.true_or, ↓reduceIte]; rfl
  · subst h1
    rw [decide_eq_false (show ¬ a < a by omega)]
    simp only [BEq.rfl, Bool.true_and, Bool.false_or]
    rcases Int.lt_trichotomy b d with h2 | h2 | h2
    · simp only [decide_eq_true h2, ↓reduceIte]; rfl
    · subst h2
      rw [decide_eq_false (show ¬ b < b by omega)]; rfl
    · rw [decide_eq_false (show ¬ b < d by omega), decide_eq_true (show b > d by omega)]; rfl
  · rw [decide_eq_false (show ¬ a < c by omega), decide_eq_true (show a > c by omega), show (a == c) = false from beq_eq_false_iff_ne.2 (by omega)]; rfl
theorem cmpb_ev (x y : In) : Ev (fun k => stamp_CompareBallots k x y) (ordV x.1 x.2 y.1 y.2) := Ev.congr (fun k => stamp_CompareBallots_eq k x y) (Ev.ret (order_ev _ _ _ _))
theorem cmps_ev (x y : In) : Ev (fun k => stamp_CompareStamps k x y) (ordV x.1 x.2 y.1 y.2) := Ev.congr (fun k => stamp_CompareStamps_eq k x y) (Ev.ret (order_ev _ _ _ _))
theorem rlow_at (k) (x y : In) : althingref02_Lower k x y = some (lowV x y) := by rw [althingref02_Lower_eq, rorder_at, Option.bind_some, ord_neg]; rfl
theorem rbefore_at (k) (x y : In) : althingref02_Before k x y = some (lowV x y) := by rw [althingref02_Before_eq, rorder_at, Option.bind_some, ord_neg]; rfl
def okKey (s : ByteArray) : Bool := decide ((s.size : Int) ≥ 1) && decide ((s.size : Int) ≤ 8)
theorem kright_at (k) (s : ByteArray) : keys_Right k s = some (okKey s) := by rw [keys_Right_eq, cs]; rfl
theorem rkright_at (k) (s : ByteArray) : althingref04_Right k s = some (okKey s) := by
  rw [althingref04_Right_eq, cs]
  unfold okKey
  rw [show decide ((s.size : Int) > 0) = decide ((s.size : Int) ≥ 1) from decide_eq_decide.2 (by omega), show decide ((s.size : Int) < 9) = decide ((s.size : Int) ≤ 8) from decide_eq_decide.2 (by omega)]
theorem strAt_el (s : ByteArray) (i : Nat) (h : i < s.data.toList.length) : strAt s (i : Int) = ((s.data.toList[i]).toNat : Int) := by
  unfold strAt
  rw [Int.toNat_natCast, List.getD_eq_getElem?_getD, List.getElem?_eq_getElem h]; rfl
theorem rbefore_c2 (a b : ByteArray) (hb : b.size ≤ 2000) : ∀ d i, i + d = b.size → i ≤ a.size → Ev (fun k => althingref04_Before.c2 k a b (i : Int)) (Op.bytesLess (a.data.toList.drop i) (b.data.toList.drop i))
  | 0, i, h1, h2 => by
    have hd : b.data.toList.drop i = [] := List.drop_eq_nil_of_le (by rw [← sz_len]; omega)
    rw [hd, show Op.bytesLess (a.data.toList.drop i) [] = false by unfold Op.bytesLess; cases a.data.toList.drop i <;> rfl]
    exact Ev.step (f := fun _ => some false) (fun k => by rw [althingref04_Before.c2_eq, lt_ff (by omega)]; rfl) (Ev.some _)
  | d + 1, i, h1, h2 => by
    have hbl : i < b.data.toList.length := by rw [← sz_len]; omega
    have hbs : i < b.size := by omega
    rw [Strs.drop_at _ i hbl]
    by_cases hia : i = a.size
    · have hd : a.data.toList.drop i = [] := List.drop_eq_nil_of_le (by rw [← sz_len]; omega)
      rw [hd]
      exact Ev.step (f := fun _ => some true) (fun k => by rw [althingref04_Before.c2_eq, lt_tt hbs, show ((i : Int) == (a.size : Int)) = true by rw [hia]; simp]; rfl) (Ev.some _)
    · have hal : i < a.data.toList.length := by rw [← sz_len]; omega
      have has : i < a.size := by omega
      rw [Strs.drop_at _ i hal]
      have e : ∀ k, althingref04_Before.c2 (k + 1) a b (i : Int) = bif (strAt a i != strAt b i) then some (decide (strAt a i < strAt b i)) else althingref04_Before.c2 k a b ((i + 1 : Nat) : Int) := fun k => by
        rw [althingref04_Before.c2_eq, lt_tt hbs, show ((i : Int) == (a.size : Int)) = false from beq_eq_false_iff_ne.2 (by omega), inI_tt hbs, inI_tt has, wrap_at (by omega)]; rfl
      rw [strAt_el a i hal, strAt_el b i hbl] at e
      refine Ev.step e ?_
      have ih := rbefore_c2 a b hb d (i + 1) (by omega) (by omega)
      show Ev _ (decide (a.data.toList[i] < b.data.toList[i]) || (a.data.toList[i] == b.data.toList[i] && Op.bytesLess (a.data.toList.drop (i + 1)) (b.data.toList.drop (i + 1))))
      by_cases he : a.data.toList[i] = b.data.toList[i]
      · rw [he]
        rw [show decide (b.data.toList[i] < b.data.toList[i]) = false from decide_eq_false (fun h => by have := UInt8.lt_iff_toNat_lt.1 h; omega), Bool.false_or, BEq.rfl, Bool.true_and]
        exact Ev.bif_ff (by simp) ih
      · have hne : (a.data.toList[i]).toNat ≠ (b.data.toList[i]).toNat := fun e => he (UInt8.toNat_inj.1 e)
        rw [show (a.data.toList[i] == b.data.toList[i]) = false from beq_eq_false_iff_ne.2 he, Bool.false_and, Bool.or_false]
        refine Ev.bif_tt (by rw [bne_iff_ne]; omega) ((Ev.some _).to ?_)
        rw [decide_eq_decide, UInt8.lt_iff_toNat_lt]
        omega
theorem rbefore4_ev (a b : ByteArray) (hb : b.size ≤ 2000) : Ev (fun k => althingref04_Before k a b) (strLt a b) := by
  have := rbefore_c2 a b hb b.size 0 (by omega) (by omega)
  refine Ev.congr (fun k => althingref04_Before_eq k a b) ?_
  unfold strLt
  rw [toList_eq, toList_eq]
  simpa using this
def keyAt (l : List ByteArray) (i : Nat) : Bool := okKey (l.getD i ⟨#[]⟩) && (decide (i = 0) || strLt (l.getD (i - 1) ⟨#[]⟩) (l.getD i ⟨#[]⟩))
def keysOk (l : List ByteArray) : Bool := (List.range l.length).all (keyAt l) && decide ((l.length : Int) ≤ 8)
theorem wrap_back {i : Nat} (h0 : 0 < i) (h : i ≤ 1000000) : IntKind.wrap .i64 ((i : Int) - 1) = ((i - 1 : Nat) : Int) := by rw [wrap_id (by omega) (by omega)]; omega
theorem krights_ev (l : List ByteArray) (hl : l.length ≤ 1000) : Ev (fun k => keys_Rights k l) (keysOk l) := by
  refine Ev.congr (fun k => keys_Rights_eq k l) (Ev.allN l.length (fun k j => keys_Rights.c2 k l l (l.length : Int) j) (keyAt l) _ ?_ ?_)
  · exact Ev.step (f := fun _ => some (decide ((l.length : Int) ≤ 8))) (fun k => by rw [keys_Rights.c2_eq, lt_ff (Nat.lt_irrefl _)]; rfl) (Ev.some _)
  · intro i hi r hr
    by_cases h0 : i = 0
    · subst h0
      refine Ev.step (f := fun k => bif !okKey (l.getD 0 ⟨#[]⟩) then some false else keys_Rights.c2 k l l (l.length : Int) ((0 + 1 : Nat) : Int)) (fun k => ?_) ((Ev.nand_ fun _ => hr).to ?_)
      · rw [keys_Rights.c2_eq, lt_tt hi, inI_tt hi, kright_at, wrap_at (by omega)]; rfl
      · unfold keyAt; simp
    · refine Ev.step (f := fun k => bif !okKey (l.getD i ⟨#[]⟩) then some false else bif !strLt (l.getD (i - 1) ⟨#[]⟩) (l.getD i ⟨#[]⟩) then some false else keys_Rights.c2 k l l (l.length : Int) ((i + 1 : Nat) : Int)) (fun k => ?_) ((Ev.nand_ fun _ => Ev.nand_ fun _ => hr).to ?_)
      · rw [keys_Rights.c2_eq, lt_tt hi, inI_tt hi, kright_at, wrap_at (by omega), wrap_back (by omega) (by omega), inI_tt (show i - 1 < l.length by omega), decide_eq_true (show (i : Int) > 0 by omega)]; rfl
      · unfold keyAt; rw [decide_eq_false h0, Bool.false_or, Bool.and_assoc]
theorem rkrights_ev (l : List ByteArray) (hl : l.length ≤ 1000) (hs : ∀ x ∈ l, x.size ≤ 2000) : Ev (fun k => althingref04_Rights k l) (keysOk l) := by
  refine Ev.congr (fun k => althingref04_Rights_eq k l) (Ev.allN l.length (fun k j => althingref04_Rights.c2 k l j) (keyAt l) _ ?_ ?_)
  · exact Ev.step (f := fun _ => some (decide ((l.length : Int) ≤ 8))) (fun k => by rw [althingref04_Rights.c2_eq, lt_ff (Nat.lt_irrefl _)]; rfl) (Ev.some _)
  · intro i hi r hr
    by_cases h0 : i = 0
    · subst h0
      refine Ev.step (f := fun k => bif !okKey (l.getD 0 ⟨#[]⟩) then some false else althingref04_Rights.c2 k l ((0 + 1 : Nat) : Int)) (fun k => ?_) ((Ev.nand_ fun _ => hr).to ?_)
      · rw [althingref04_Rights.c2_eq, lt_tt hi, inI_tt hi, rkright_at, wrap_at (by omega)]; rfl
      · unfold keyAt; simp
    · have hm : (l.getD i ⟨#[]⟩).size ≤ 2000 := by
        rw [show l.getD i ⟨#[]⟩ = l[i] by simp [List.getD_eq_getElem?_getD, hi]]
        exact hs _ (List.getElem_mem hi)
      refine Ev.step (f := fun k => bif !okKey (l.getD i ⟨#[]⟩) then some false else (althingref04_Before k (l.getD (i - 1) ⟨#[]⟩) (l.getD i ⟨#[]⟩)).bind fun r1 => bif !r1 then some false else althingref04_Rights.c2 k l ((i + 1 : Nat) : Int)) (fun k => ?_) ((Ev.nand_ fun _ => Ev.bind (rbefore4_ev _ _ hm) (Ev.nand_ fun _ => hr)).to ?_)
      · rw [althingref04_Rights.c2_eq, lt_tt hi, inI_tt hi, rkright_at, wrap_at (by omega), wrap_back (by omega) (by omega), inI_tt (show i - 1 < l.length by omega), decide_eq_true (show (i : Int) > 0 by omega)]; rfl
      · unfold keyAt; rw [decide_eq_false h0, Bool.false_or, Bool.and_assoc]
end Go.Proofs.Ytmkiodkkhfdlpaa.V
end
section
namespace Go.Proofs.Ytmkiodkkhfdlpaa.V
open Go Go.Vm Go.Proofs.Ytmkiodkkhfdlpaa.Strs
set_option linter.unusedVariables false
set_option linter.unusedSimpArgs false
theorem ev_notboth {g : Nat → Option Bool} {a b v : Bool} (h : Ev g v) : Ev (fun k => bif a then (bif b then Option.some false else g k) else g k) (!(a && b) && v) := by
  cases a
  · exact h
  · cases b
    · exact h
    · exact Ev.some _
theorem ev_either {g : Nat → Option Bool} {a b v : Bool} (h : Ev g v) : Ev (fun k => bif a then (bif b then Option.some false else g k) else g k) (!(a && b) && v) := ev_notboth h
abbrev zRd : Rd := Ty.zero Ty_api_Read
abbrev zWr : Wr := Ty.zero Ty_api_Write
def allR (l m : List Rd) : Bool := (List.range l.length).all fun i => Ty.beq Ty_api_Read (l.getD i zRd) (m.getD i zRd)
def allW (l m : List Wr) : Bool := (List.range l.length).all fun i => Ty.beq Ty_api_Write (l.getD i zWr) (m.getD i zWr)
def lenE {α : Type} (l m : List α) : Bool := (l.length : Int) == (m.length : Int)
theorem lenE_eq {α : Type} {l m : List α} (h : lenE l m = true) : l.length = m.length := by
  unfold lenE at h
  rw [beq_iff_eq] at h
  omega
theorem ge16 (n : Int) : decide (n ≥ 16) = decide (n > 15) := decide_eq_decide.2 (by omega)
theorem le0lt (n : Int) : decide (n ≤ 0) = decide (n < 1) := decide_eq_decide.2 (by omega)
theorem is0 (n : Int) (h : decide (n ≥ 0) = true) : (n == 0) = decide (n < 1) := by
  have := of_decide_eq_true h
  rw [Bool.eq_iff_iff, beq_iff_eq, decide_eq_true_eq]
  omega
def sameV (a b : Cm) : Bool := (a.1 == b.1) && (Ty.beq Ty_api_Instance a.2.1 b.2.1 && (Ty.beq Ty_api_Instance a.2.2.1 b.2.2.1 && ((a.2.2.2.1 == b.2.2.2.1) && (Ty.beq Ty.bool a.2.2.2.2.2.2 b.2.2.2.2.2.2 && (lenE a.2.2.2.2.1 b.2.2.2.2.1 && (lenE a.2.2.2.2.2.1 b.2.2.2.2.2.1 && (allR a.2.2.2.2.1 b.2.2.2.2.1 && allW a.2.2.2.2.2.1 b.2.2.2.2.2.1)))))))
theorem inst_refl (i : In) : Ty.beq Ty_api_Instance i i = true := by show (i.1 == i.1 && i.2 == i.2) = true; simp
theorem inst_eq {i j : In} (h : Ty.beq Ty_api_Instance i j = true) : i = j := by
  have h2 : (i.1 == j.1 && i.2 == j.2) = true := h
  rw [Bool.and_eq_true] at h2
  exact Prod.ext (by have := h2.1; rwa [beq_iff_eq] at this) (by have := h2.2; rwa [beq_iff_eq] at this)
theorem inst_ne {i j : In} (h : Ty.beq Ty_api_Instance i j = false) : i ≠ j := fun e => by rw [e, inst_refl] at h; cases h
theorem inst_symm (i j : In) : Ty.beq Ty_api_Instance i j = Ty.beq Ty_api_Instance j i := by
  cases h : Ty.beq Ty_api_Instance i j with
  | true => rw [inst_eq h, inst_refl]
  | false =>
    cases h2 : Ty.beq Ty_api_Instance j i with
    | false => rfl
    | true => rw [inst_eq h2, inst_refl] at h; cases h
theorem bool_refl (b : Bool) : Ty.beq Ty.bool b b = true := by cases b <;> rfl
theorem allR_refl (l : List Rd) : allR l l = true := by
  unfold allR
  rw [List.all_eq_true]
  intro i _
  show (decide ((l.getD i zRd).1 = (l.getD i zRd).1) && Ty.beq Ty_api_Instance (l.getD i zRd).2 (l.getD i zRd).2) = true
  rw [inst_refl]; simp
theorem allW_refl (l : List Wr) : allW l l = true := by
  unfold allW
  rw [List.all_eq_true]
  intro i _
  show (decide ((l.getD i zWr).1 = (l.getD i zWr).1) && decide ((l.getD i zWr).2 = (l.getD i zWr).2)) = true
  simp
theorem lenE_refl {α : Type} (l : List α) : lenE l l = true := by simp [lenE]
theorem sameV_refl (a : Cm) : sameV a a = true := by
  unfold sameV
  rw [inst_refl, inst_refl, bool_refl, lenE_refl, lenE_refl, allR_refl, allW_refl]
  simp
theorem eqR_ev (l m : List Rd) (hl : l.length ≤ 1000) : Ev (fun k => slices_Equal_api_Read_api_Read k l m) (lenE l m && allR l m) := by
  refine Ev.congr (fun k => slices_Equal_api_Read_api_Read_eq k l m) (Ev.bne_ fun he => ?_)
  have he : l.length = m.length := lenE_eq (l := l) (m := m) he
  refine (Ev.allN l.length (fun k j => slices_Equal_api_Read_api_Read.c4 k l m (l.length : Int) j) (fun i => Ty.beq Ty_api_Read (l.getD i zRd) (m.getD i zRd)) true ?_ ?_).to (Bool.and_true _)
  · exact Ev.step (f := fun _ => some true) (fun k => by rw [slices_Equal_api_Read_api_Read.c4_eq, lt_ff (Nat.lt_irrefl _)]; rfl) (Ev.some _)
  · intro i hi r hr
    exact Ev.step (f := fun k => bif !Ty.beq Ty_api_Read (l.getD i zRd) (m.getD i zRd) then some false else slices_Equal_api_Read_api_Read.c4 k l m (l.length : Int) ((i + 1 : Nat) : Int)) (fun k => by
      rw [slices_Equal_api_Read_api_Read.c4_eq, lt_tt hi, inI_tt hi, inI_tt (show i < m.length by omega), wrap_at (by omega)]; rfl) (Ev.nand_ fun _ => hr)
theorem eqW_ev (l m : List Wr) (hl : l.length ≤ 1000) : Ev (fun k => slices_Equal_api_Write_api_Write k l m) (lenE l m && allW l m) := by
  refine Ev.congr (fun k => slices_Equal_api_Write_api_Write_eq k l m) (Ev.bne_ fun he => ?_)
  have he : l.length = m.length := lenE_eq (l := l) (m := m) he
  refine (Ev.allN l.length (fun k j => slices_Equal_api_Write_api_Write.c4 k l m (l.length : Int) j) (fun i => Ty.beq Ty_api_Write (l.getD i zWr) (m.getD i zWr)) true ?_ ?_).to (Bool.and_true _)
  · exact Ev.step (f := fun _ => some true) (fun k => by rw [slices_Equal_api_Write_api_Write.c4_eq, lt_ff (Nat.lt_irrefl _)]; rfl) (Ev.some _)
  · intro i hi r hr
    exact Ev.step (f := fun k => bif !Ty.beq Ty_api_Write (l.getD i zWr) (m.getD i zWr) then some false else slices_Equal_api_Write_api_Write.c4 k l m (l.length : Int) ((i + 1 : Nat) : Int)) (fun k => by
      rw [slices_Equal_api_Write_api_Write.c4_eq, lt_tt hi, inI_tt hi, inI_tt (show i < m.length by omega), wrap_at (by omega)]; rfl) (Ev.nand_ fun _ => hr)
theorem and4 (a b c d : Bool) : ((a && b) && (c && d)) = (a && (c && (b && d))) := by cases a <;> cases b <;> cases c <;> cases d <;> rfl
theorem csame_ev (a b : Cm) (ha : small a) : Ev (fun k => command_Same k a b) (sameV a b) := by
  refine Ev.congr (fun k => command_Same_eq k a b) ?_
  unfold sameV
  refine Ev.and_ fun _ => Ev.and_ fun _ => Ev.and_ fun _ => Ev.and_ fun _ => Ev.and_ fun _ => ?_
  rw [← and4]
  exact Ev.bind (eqR_ev _ _ (by have := ha.1; omega)) (Ev.and_ fun _ => Ev.ret (eqW_ev _ _ (by have := ha.2.1; omega)))
theorem rsame_c9 (a b : Cm) (ha : small a) (hw : a.2.2.2.2.2.1.length = b.2.2.2.2.2.1.length) : Ev (fun k => althingref05_Same.c9 k 0 a b) (allW a.2.2.2.2.2.1 b.2.2.2.2.2.1) := by
  have hl := ha.2.1
  refine (Ev.allN a.2.2.2.2.2.1.length (fun k j => althingref05_Same.c9 k j a b) (fun i => Ty.beq Ty_api_Write (a.2.2.2.2.2.1.getD i zWr) (b.2.2.2.2.2.1.getD i zWr)) true ?_ ?_).to (Bool.and_true _)
  · exact Ev.step (f := fun _ => some true) (fun k => by rw [althingref05_Same.c9_eq, lt_ff (Nat.lt_irrefl _)]; rfl) (Ev.some _)
  · intro i hi r hr
    exact Ev.step (f := fun k => bif !Ty.beq Ty_api_Write (a.2.2.2.2.2.1.getD i zWr) (b.2.2.2.2.2.1.getD i zWr) then some false else althingref05_Same.c9 k ((i + 1 : Nat) : Int) a b) (fun k => by
      rw [althingref05_Same.c9_eq, lt_tt hi, inI_tt hi, inI_tt (hw ▸ hi), wrap_at (by omega)]; rfl) (Ev.nand_ fun _ => hr)
theorem rsame_c4 (a b : Cm) (ha : small a) (hr0 : a.2.2.2.2.1.length = b.2.2.2.2.1.length) (hw : a.2.2.2.2.2.1.length = b.2.2.2.2.2.1.length) : Ev (fun k => althingref05_Same.c4 k 0 a b) (allR a.2.2.2.2.1 b.2.2.2.2.1 && allW a.2.2.2.2.2.1 b.2.2.2.2.2.1) := by
  have hl := ha.1
  refine Ev.allN a.2.2.2.2.1.length (fun k j => althingref05_Same.c4 k j a b) (fun i => Ty.beq Ty_api_Read (a.2.2.2.2.1.getD i zRd) (b.2.2.2.2.1.getD i zRd)) _ ?_ ?_
  · exact Ev.step (f := fun k => althingref05_Same.c9 k 0 a b) (fun k => by rw [althingref05_Same.c4_eq, lt_ff (Nat.lt_irrefl _)]; rfl) (rsame_c9 a b ha hw)
  · intro i hi r hr
    exact Ev.step (f := fun k => bif !Ty.beq Ty_api_Read (a.2.2.2.2.1.getD i zRd) (b.2.2.2.2.1.getD i zRd) then some false else althingref05_Same.c4 k ((i + 1 : Nat) : Int) a b) (fun k => by
      rw [althingref05_Same.c4_eq, lt_tt hi, inI_tt hi, inI_tt (hr0 ▸ hi), wrap_at (by omega)]; rfl) (Ev.nand_ fun _ => hr)
theorem rsame_ev (a b : Cm) (ha : small a) : Ev (fun k => althingref05_Same k a b) (sameV a b) := by
  refine Ev.congr (fun k => althingref05_Same_eq k a b) ?_
  unfold sameV
  exact Ev.bne_ fun _ => Ev.nand_ fun _ => Ev.nand_ fun _ => Ev.bne_ fun _ => Ev.nand_ fun _ => Ev.bne_ fun h1 => Ev.bne_ fun h2 => rsame_c4 a b ha (lenE_eq h1) (lenE_eq h2)
abbrev zCm : Cm := Ty.zero Ty_api_Command
def okRd (c : Cm) (r : Rd) : Bool := stampV r.2 && lowV r.2 c.2.2.1
def okWr (w : Wr) : Bool := !decide ((w.2.size : Int) > 8)
def midC (c : Cm) : Bool := txnV c.2.1 && (stampV c.2.2.1 && (!decide (c.2.2.1.1 < 1) && ((c.2.2.1.2 == c.2.1.1) && (!decide (c.2.2.2.1 < 1) && (!decide (c.2.2.2.1 > 15) && !((c.2.2.2.2.1.length : Int) == 0 && (c.2.2.2.2.2.1.length : Int) == 0))))))
def endC (c : Cm) : Bool := c.2.2.2.2.1.all (okRd c) && (c.2.2.2.2.2.1.all okWr && (keysOk (rk c.2.2.2.2.1) && keysOk (wk c.2.2.2.2.2.1)))
def rightC (c : Cm) : Bool := bif c.1 == 0 then sameV c zCm else (c.1 == 1 || c.1 == 2) && (midC c && (!(c.2.2.2.2.2.2 && c.1 == 1) && endC c))
theorem cright_c17 (c : Cm) (h : small c) : Ev (fun k => command_Right.c17 k c.2.2.2.2.2.1 (c.2.2.2.2.2.1.length : Int) 0 c) (c.2.2.2.2.2.1.all okWr && (keysOk (rk c.2.2.2.2.1) && keysOk (wk c.2.2.2.2.2.1))) := by
  have h1 := h.1
  have h2 := h.2.1
  refine Ev.allL c.2.2.2.2.2.1 (fun k j => command_Right.c17 k c.2.2.2.2.2.1 (c.2.2.2.2.2.1.length : Int) j c) okWr _ ?_ ?_
  · refine Ev.step (f := fun k => (command_read k c).bind fun r0 => (keys_Rights k r0).bind fun r1 => bif r1 then (command_written k c).bind fun r2 => (keys_Rights k r2).bind fun r3 => some r3 else some false) (fun k => by rw [command_Right.c17_eq, lt_ff (Nat.lt_irrefl _)]; rfl) ?_
    exact Ev.bind (read_ev c (by omega)) (Ev.bind (krights_ev _ (by unfold rk; rw [List.length_map]; omega)) (Ev.and_ fun _ => Ev.bind (written_ev c (by omega)) (Ev.ret (krights_ev _ (by unfold wk; rw [List.length_map]; omega)))))
  · intro i hi r hr
    exact Ev.step (f := fun k => bif decide ((c.2.2.2.2.2.1[i].2.size : Int) > 8) then some false else command_Right.c17 k c.2.2.2.2.2.1 (c.2.2.2.2.2.1.length : Int) ((i + 1 : Nat) : Int) c) (fun k => by
      rw [command_Right.c17_eq, lt_tt hi, inI_tt hi, getD_at hi, wrap_at (by omega)]; rfl) (Ev.norr fun _ => hr)
theorem cright_1 (x : Rd) (c : Cm) : Ev (fun k => command_Right_1 k x c) (okRd c x) := by
  refine Ev.congr (fun k => command_Right_1_eq k x c) ?_
  simp only [sstamp_at, Option.bind_some]
  refine Ev.and_ fun _ => (Ev.map_ (fun r1 : Int => decide (r1 < 0)) (cmps_ev x.2 c.2.2.1)).to ?_
  rw [ord_neg]; rfl
theorem cright_c9 (c : Cm) (h : small c) : Ev (fun k => command_Right.c9 k c) (endC c) := by
  have h1 := h.1
  refine Ev.step (fun k => command_Right.c9_eq k c) (Ev.allL c.2.2.2.2.1 (fun k j => command_Right.c11 k c.2.2.2.2.1 (c.2.2.2.2.1.length : Int) j c) (okRd c) _ ?_ ?_)
  · exact Ev.step (f := fun k => command_Right.c17 k c.2.2.2.2.2.1 (c.2.2.2.2.2.1.length : Int) 0 c) (fun k => by rw [command_Right.c11_eq, lt_ff (Nat.lt_irrefl _)]; rfl) (cright_c17 c h)
  · intro i hi r hr
    exact Ev.step (f := fun k => (command_Right_1 k c.2.2.2.2.1[i] c).bind fun r0 => bif !r0 then some false else command_Right.c11 k c.2.2.2.2.1 (c.2.2.2.2.1.length : Int) ((i + 1 : Nat) : Int) c) (fun k => by
      rw [command_Right.c11_eq, lt_tt hi, inI_tt hi, getD_at hi, wrap_at (by omega)]; rfl) (Ev.bind (cright_1 _ c) (Ev.nand_ fun _ => hr))
theorem both0 (a b : Nat) (ha : a ≤ 1000) (hb : b ≤ 1000) : (IntKind.wrap .i64 ((a : Int) + (b : Int)) == 0) = ((a : Int) == 0 && (b : Int) == 0) := by
  rw [wrap_id (by omega) (by omega), Bool.eq_iff_iff, Bool.and_eq_true, beq_iff_eq, beq_iff_eq, beq_iff_eq]
  omega
theorem cright_c7 (c : Cm) (h : small c) : Ev (fun k => command_Right.c7 k c) (midC c && (!(c.2.2.2.2.2.2 && c.1 == 1) && endC c)) := by
  refine Ev.step (fun k => command_Right.c7_eq k c) ?_
  simp only [stxn_at, sstamp_at, Option.bind_some]
  rw [both0 _ _ (by have := h.1; omega) (by have := h.2.1; omega)]
  unfold midC
  simp only [Bool.and_assoc]
  exact Ev.nand_ fun _ => Ev.nand_ fun _ => Ev.norr fun _ => Ev.bne_ fun _ => Ev.norr fun _ => Ev.norr fun _ => Ev.norr fun _ => (ev_notboth (cright_c9 c h)).to (by simp only [Bool.and_assoc])
theorem cright_ev (c : Cm) (h : small c) : Ev (fun k => command_Right k c) (rightC c) := by
  refine Ev.congr (fun k => command_Right_eq k c) ?_
  unfold rightC
  cases h0 : c.1 == 0 with
  | true => exact Ev.ret (csame_ev c zCm h)
  | false =>
    cases h1 : c.1 == 1 with
    | true => have := cright_c7 c h; rw [h1] at this; exact this
    | false =>
      cases h2 : c.1 == 2 with
      | true => have := cright_c7 c h; rw [h1] at this; exact this
      | false => exact Ev.some _
theorem same_zero (c : Cm) (h0 : (c.1 == 0) = true) : sameV c zCm = (Ty.beq Ty_api_Instance c.2.1 (Ty.zero Ty_api_Instance) && (Ty.beq Ty_api_Instance c.2.2.1 (Ty.zero Ty_api_Instance) && ((c.2.2.2.1 == 0) && (((c.2.2.2.2.1.length : Int) == 0) && (((c.2.2.2.2.2.1.length : Int) == 0) && !c.2.2.2.2.2.2))))) := by
  unfold sameV
  rw [show (c.1 == zCm.1) = true from h0, Bool.true_and]
  have hb : Ty.beq Ty.bool c.2.2.2.2.2.2 zCm.2.2.2.2.2.2 = !c.2.2.2.2.2.2 := by show (c.2.2.2.2.2.2 == false) = _; cases c.2.2.2.2.2.2 <;> rfl
  rw [hb]
  show (_ && (_ && (_ && (_ && (((c.2.2.2.2.1.length : Int) == 0) && (((c.2.2.2.2.2.1.length : Int) == 0) && _)))))) = _
  cases hr : (c.2.2.2.2.1.length : Int) == 0 with
  | false => simp
  | true =>
    cases hw : (c.2.2.2.2.2.1.length : Int) == 0 with
    | false => simp
    | true =>
      have e1 : c.2.2.2.2.1 = [] := List.eq_nil_of_length_eq_zero (by rw [beq_iff_eq] at hr; omega)
      have e2 : c.2.2.2.2.2.1 = [] := List.eq_nil_of_length_eq_zero (by rw [beq_iff_eq] at hw; omega)
      rw [e1, e2]
      show (_ && (_ && (_ && (_ && (true && (true && (true && true))))))) = _
      simp only [Bool.and_true, Bool.true_and]
      rfl
theorem rright_c18 (c : Cm) (h : small c) : Ev (fun k => althingref05_Right.c18 k (rk c.2.2.2.2.1) [] 0 c) (c.2.2.2.2.2.1.all okWr && (keysOk (rk c.2.2.2.2.1) && keysOk (wk c.2.2.2.2.2.1))) := by
  have h1 := h.1
  have h2 := h.2.1
  refine Ev.allL c.2.2.2.2.2.1 (fun k j => althingref05_Right.c18 k (rk c.2.2.2.2.1) (wk (c.2.2.2.2.2.1.take j.toNat)) j c) okWr _ ?_ ?_
  · refine Ev.step (f := fun k => (althingref04_Rights k (rk c.2.2.2.2.1)).bind fun r1 => bif r1 then (althingref04_Rights k (wk c.2.2.2.2.2.1)).bind fun r3 => some r3 else some false) (fun k => by rw [althingref05_Right.c18_eq, lt_ff (Nat.lt_irrefl _), Int.toNat_natCast, List.take_length]; rfl) ?_
    refine Ev.bind (rkrights_ev _ (by unfold rk; rw [List.length_map]; omega) fun x hx => ?_) (Ev.and_ fun _ => Ev.ret (rkrights_ev _ (by unfold wk; rw [List.length_map]; omega) fun x hx => ?_))
    · obtain ⟨y, hy, rfl⟩ := List.mem_map.1 hx; have := h.2.2.1 y hy; omega
    · obtain ⟨y, hy, rfl⟩ := List.mem_map.1 hx; have := (h.2.2.2 y hy).1; omega
  · intro i hi r hr
    have hl : (wk (c.2.2.2.2.2.1.take i)).length + 1 < 4294967296 := by unfold wk; rw [List.length_map, List.length_take]; omega
    have ht : wk (c.2.2.2.2.2.1.take (i + 1)) = wk (c.2.2.2.2.2.1.take i) ++ [c.2.2.2.2.2.1[i].1] := by unfold wk; rw [List.take_succ_eq_append_getElem hi, List.map_append]; rfl
    exact Ev.step (f := fun k => bif decide ((c.2.2.2.2.2.1[i].2.size : Int) > 8) then some false else althingref05_Right.c18 k (rk c.2.2.2.2.1) (wk (c.2.2.2.2.2.1.take (i + 1))) ((i + 1 : Nat) : Int) c) (fun k => by
      rw [althingref05_Right.c18_eq, lt_tt hi, inI_tt hi, getD_at hi, Int.toNat_natCast, lt32 hl, wrap_at (by omega), ht]; rfl) (Ev.norr fun _ => by simpa using hr)
theorem rright_c11 (c : Cm) (h : small c) : Ev (fun k => althingref05_Right.c11 k [] 0 c) (endC c) := by
  have h1 := h.1
  refine Ev.allL c.2.2.2.2.1 (fun k j => althingref05_Right.c11 k (rk (c.2.2.2.2.1.take j.toNat)) j c) (okRd c) _ ?_ ?_
  · exact Ev.step (f := fun k => althingref05_Right.c18 k (rk c.2.2.2.2.1) [] 0 c) (fun k => by rw [althingref05_Right.c11_eq, lt_ff (Nat.lt_irrefl _), Int.toNat_natCast, List.take_length]; rfl) (rright_c18 c h)
  · intro i hi r hr
    have hl : (rk (c.2.2.2.2.1.take i)).length + 1 < 4294967296 := by unfold rk; rw [List.length_map, List.length_take]; omega
    have ht : rk (c.2.2.2.2.1.take (i + 1)) = rk (c.2.2.2.2.1.take i) ++ [c.2.2.2.2.1[i].1] := by unfold rk; rw [List.take_succ_eq_append_getElem hi, List.map_append]; rfl
    have hr' : Ev (fun k => althingref05_Right.c15 k (rk (c.2.2.2.2.1.take i)) (i : Int) c) r := Ev.step (f := fun k => althingref05_Right.c11 k (rk (c.2.2.2.2.1.take (i + 1))) ((i + 1 : Nat) : Int) c) (fun k => by
      rw [althingref05_Right.c15_eq, inI_tt hi, getD_at hi, lt32 hl, wrap_at (by omega), ht]; rfl) (by simpa using hr)
    refine (Ev.step (f := fun k => bif !stampV c.2.2.2.2.1[i].2 then some false else bif !lowV c.2.2.2.2.1[i].2 c.2.2.1 then some false else althingref05_Right.c15 k (rk (c.2.2.2.2.1.take i)) (i : Int) c) (fun k => by
      rw [althingref05_Right.c11_eq, lt_tt hi, inI_tt hi, getD_at hi, Int.toNat_natCast, rstamp_at, rbefore_at]; rfl) (Ev.nand_ fun _ => Ev.nand_ fun _ => hr')).to ?_
    unfold okRd; rw [Bool.and_assoc]
theorem rright_c7 (c : Cm) (h : small c) : Ev (fun k => althingref05_Right.c7 k c) (!decide (c.2.2.2.1 < 1) && (!decide (c.2.2.2.1 > 15) && (!((c.2.2.2.2.1.length : Int) == 0 && (c.2.2.2.2.2.1.length : Int) == 0) && endC c))) := by
  refine Ev.step (fun k => althingref05_Right.c7_eq k c) ?_
  rw [le0lt, ge16]
  exact Ev.norr fun _ => Ev.norr fun _ => ev_notboth (rright_c11 c h)
theorem rright_c5 (c : Cm) (h : small c) (h3 : True) : Ev (fun k => althingref05_Right.c5 k c) (midC c && endC c) := by
  refine Ev.step (fun k => althingref05_Right.c5_eq k c) ?_
  simp only [rtxn_at, rstamp_at, Option.bind_some]
  unfold midC
  simp only [Bool.and_assoc]
  refine Ev.nand_ fun _ => Ev.nand_ fun hs => ?_
  have e : (c.2.2.1.1 == 0) = decide (c.2.2.1.1 < 1) := is0 _ (by
    unfold stampV inR at hs
    rw [Bool.and_eq_true, Bool.and_eq_true] at hs
    exact hs.1.1)
  rw [e]
  exact Ev.norr fun _ => Ev.bne_ fun _ => rright_c7 c h
theorem and_swap (a b c : Bool) : (a && (b && c)) = (b && (a && c)) := by cases a <;> cases b <;> cases c <;> rfl
theorem rright_ev (c : Cm) (h : small c) : Ev (fun k => althingref05_Right k c) (rightC c) := by
  refine Ev.congr (fun k => althingref05_Right_eq k c) ?_
  unfold rightC
  cases h0 : c.1 == 0 with
  | true =>
    rw [same_zero c h0]
    exact Ev.and_ fun _ => Ev.and_ fun _ => Ev.and_ fun _ => Ev.and_ fun _ => Ev.and_ fun _ => Ev.some _
  | false =>
    have h5 := rright_c5 c h trivial
    cases h1 : c.1 == 1 with
    | true =>
      have e : (c.1 != 1) = false := by unfold bne; rw [h1]; rfl
      rw [e]
      refine Ev.bif_ff rfl (Ev.bif_ff rfl (Ev.bif_tt rfl ((Ev.norr fun _ => h5).to ?_)))
      rw [Bool.true_or, Bool.and_true, Bool.true_and, and_swap]; rfl
    | false =>
      have e : (c.1 != 1) = true := by unfold bne; rw [h1]; rfl
      rw [e]
      refine Ev.bif_ff rfl (Ev.bif_tt rfl ?_)
      rw [Bool.false_or, Bool.and_false]
      exact (Ev.bne_ fun _ => Ev.bif_ff rfl h5).to rfl
end Go.Proofs.Ytmkiodkkhfdlpaa.V
end
