/- What the claim LBE leans on: texts joined by bundle.py, a program of ours; the words cut down to what is used. -/
import Derived.Test.YtjgcmmpfaemkiaaGreatBLBE6
import Derived.Laws.BitsLemmas
section
set_option maxHeartbeats 4000000
set_option maxRecDepth 100000
namespace Go.Proofs.YtjgcmmpfaemkiaaGreat.V
open Go Go.Vm
theorem althinglaw05_Few_eq (k) (a0) : althinglaw05_Few k a0 = (althinglaw05_Few.c2 k a0 (a0.length : Int) 0) := (althinglaw05_Few_raw k a0).trans (by kernel_rfl)
theorem althinglaw05_Few.c2_eq (k) (x7) (x8) (x9) : althinglaw05_Few.c2 (k + 1) x7 x8 x9 = (bif (decide (x9 < x8)) then (bif (inI x9 x7.length) then (althinglaw05_Few.c5 k 0 x7 x8 x9 (x7.getD (Int.toNat x9) (Ty.zero Ty_api_Command))) else none) else (some true)) := by kernel_rfl
theorem althinglaw05_Few.c5_eq (k) (x5) (x7) (x8) (x9) (b4) : althinglaw05_Few.c5 (k + 1) x5 x7 x8 x9 b4 = (bif (decide (x5 < (b4.2.2.2.2.1.length : Int))) then (bif (decide (x5 ≤ 20)) then (althinglaw05_Few.c7 k x5 x7 x8 x9 b4) else (althinglaw05_Few.c10 k 0 x7 x8 x9 b4)) else (althinglaw05_Few.c10 k 0 x7 x8 x9 b4)) := by kernel_rfl
theorem althinglaw05_Few.c7_eq (k) (x5) (x7) (x8) (x9) (b4) : althinglaw05_Few.c7 (k + 1) x5 x7 x8 x9 b4 = (bif (inI x5 b4.2.2.2.2.1.length) then (bif (decide (((b4.2.2.2.2.1.getD (Int.toNat x5) (Ty.zero Ty_api_Read)).1.size : Int) > 100)) then (some false) else (althinglaw05_Few.c5 k (IntKind.wrap IntKind.i64 (x5 + 1)) x7 x8 x9 b4)) else none) := by kernel_rfl
theorem althinglaw05_Few.c10_eq (k) (x6) (x7) (x8) (x9) (b4) : althinglaw05_Few.c10 (k + 1) x6 x7 x8 x9 b4 = (bif (decide (x6 < (b4.2.2.2.2.2.1.length : Int))) then (bif (decide (x6 ≤ 20)) then (althinglaw05_Few.c12 k x6 x7 x8 x9 b4) else (althinglaw05_Few.c14 k x7 x8 x9 b4)) else (althinglaw05_Few.c14 k x7 x8 x9 b4)) := by kernel_rfl
theorem althinglaw05_Few.c12_eq (k) (x6) (x7) (x8) (x9) (b4) : althinglaw05_Few.c12 (k + 1) x6 x7 x8 x9 b4 = (bif (inI x6 b4.2.2.2.2.2.1.length) then (bif (decide (((b4.2.2.2.2.2.1.getD (Int.toNat x6) (Ty.zero Ty_api_Write)).1.size : Int) > 100)) then (some false) else (bif (inI x6 b4.2.2.2.2.2.1.length) then (bif (decide (((b4.2.2.2.2.2.1.getD (Int.toNat x6) (Ty.zero Ty_api_Write)).2.size : Int) > 100)) then (some false) else (althinglaw05_Few.c10 k (IntKind.wrap IntKind.i64 (x6 + 1)) x7 x8 x9 b4)) else none)) else none) := by kernel_rfl
theorem althinglaw05_Few.c14_eq (k) (x7) (x8) (x9) (b4) : althinglaw05_Few.c14 (k + 1) x7 x8 x9 b4 = (bif (decide ((b4.2.2.2.2.1.length : Int) > 20)) then (some false) else (bif (decide ((b4.2.2.2.2.2.1.length : Int) > 20)) then (some false) else (althinglaw05_Few.c2 k x7 x8 (IntKind.wrap IntKind.i64 (x9 + 1))))) := by kernel_rfl
theorem althinglaw11_Few_eq (k) (a0) : althinglaw11_Few k a0 = (althinglaw11_Few.c2 k a0 0) := (althinglaw11_Few_raw k a0).trans (by kernel_rfl)
theorem althinglaw11_Few.c2_eq (k) (x0) (x3) : althinglaw11_Few.c2 (k + 1) x0 x3 = (bif (decide (x3 < (x0.length : Int))) then (bif (decide (x3 ≤ 20)) then (althinglaw11_Few.c4 k x0 x3) else (some (decide ((x0.length : Int) ≤ 20)))) else (some (decide ((x0.length : Int) ≤ 20)))) := by kernel_rfl
theorem althinglaw11_Few.c4_eq (k) (x0) (x3) : althinglaw11_Few.c4 (k + 1) x0 x3 = (bif (inI x3 x0.length) then ((althinglaw05_Few k [(x0.getD (Int.toNat x3) (Ty.zero Ty_api_Record)).2.2.2.2.1]).bind fun r0 => (bif (!r0) then (some false) else (althinglaw11_Few.c2 k x0 (IntKind.wrap IntKind.i64 (x3 + 1))))) else none) := by kernel_rfl
theorem althinglaw14_few_eq (k) (a0) (a1) (a2) : althinglaw14_few k a0 a1 a2 = (althinglaw14_few.c2 k a1 0 a0 a2) := (althinglaw14_few_raw k a0 a1 a2).trans (by kernel_rfl)
theorem althinglaw14_few.c2_eq (k) (x1) (x7) (b3) (b5) : althinglaw14_few.c2 (k + 1) x1 x7 b3 b5 = (bif (decide (x7 < (b3.2.2.2.2.2.2.2.2.2.length : Int))) then (bif (decide (x7 ≤ 9)) then (althinglaw14_few.c4 k x1 x7 b3 b5) else (althinglaw14_few.c6 k x1 b3 b5)) else (althinglaw14_few.c6 k x1 b3 b5)) := by kernel_rfl
theorem althinglaw14_few.c4_eq (k) (x1) (x7) (b3) (b5) : althinglaw14_few.c4 (k + 1) x1 x7 b3 b5 = (bif (inI x7 b3.2.2.2.2.2.2.2.2.2.length) then ((althinglaw05_Few k [(b3.2.2.2.2.2.2.2.2.2.getD (Int.toNat x7) (Ty.zero Ty_repair_Vote)).2.2.2.2.2.1]).bind fun r0 => (bif (!r0) then (some false) else (althinglaw14_few.c2 k x1 (IntKind.wrap IntKind.i64 (x7 + 1)) b3 b5))) else none) := by kernel_rfl
theorem althinglaw14_few.c6_eq (k) (x1) (b3) (b5) : althinglaw14_few.c6 (k + 1) x1 b3 b5 = (bif (decide ((b3.2.2.2.2.2.2.2.2.2.length : Int) ≤ 9)) then ((althinglaw05_Few k [b3.2.2.2.2.2.1.2.2.2.2.1, b5.2.2.2.2.2.2.2.2.1]).bind fun r0 => (bif r0 then ((althinglaw11_Few k x1).bind fun r1 => (some r1)) else (some false))) else (some false)) := by kernel_rfl
theorem althinglaw14_some_eq (k) (a0) : althinglaw14_some k a0 = (some (1, ((0, a0), ((1, 0), (1, ([], ([((⟨#[97]⟩ : ByteArray), (⟨#[]⟩ : ByteArray))], false))))))) := (althinglaw14_some_raw k a0).trans (by kernel_rfl)
theorem quorum_sizes_eq (k) (a0) : quorum_sizes k a0 = (bif (decide (a0 < 1)) then (some [0, 0, 0]) else (bif (decide (a0 > 3)) then (some [0, 0, 0]) else (quorum_sizes.c3 k a0 (Ty.zero (Ty.arr 3 Ty.i64))))) := (quorum_sizes_raw k a0).trans (by kernel_rfl)
theorem quorum_sizes.c3_eq (k) (x0) (b2) : quorum_sizes.c3 (k + 1) x0 b2 = (some [(IntKind.wrap IntKind.i64 ((IntKind.wrap IntKind.i64 (2 * x0)) + 1)), (IntKind.wrap IntKind.i64 (x0 + 1)), (IntKind.wrap IntKind.i64 (2 * x0))]) := by kernel_rfl
theorem quorum_Size_eq (k) (a0) : quorum_Size k a0 = ((quorum_sizes k a0).bind fun r0 => (some (r0.getD (Int.toNat 0) 0))) := (quorum_Size_raw k a0).trans (by kernel_rfl)
theorem lead_is_eq (k) (a0) (a1) : lead_is k a0 a1 = (bif (decide (a1 ≥ 0)) then ((quorum_Size k a0).bind fun r0 => (some (decide (a1 < r0)))) else (some false)) := (lead_is_raw k a0 a1).trans (by kernel_rfl)
theorem slices_Equal_api_Read_api_Read_eq (k) (a0) (a1) : slices_Equal_api_Read_api_Read k a0 a1 = (bif ((a0.length : Int) != (a1.length : Int)) then (some false) else (slices_Equal_api_Read_api_Read.c4 k a0 a1 (a0.length : Int) 0)) := (slices_Equal_api_Read_api_Read_raw k a0 a1).trans (by kernel_rfl)
theorem slices_Equal_api_Read_api_Read.c4_eq (k) (x0) (x1) (x12) (x13) : slices_Equal_api_Read_api_Read.c4 (k + 1) x0 x1 x12 x13 = (bif (decide (x13 < x12)) then (bif (inI x13 x0.length) then (bif (inI x13 x1.length) then (bif (!(Ty.beq Ty_api_Read (x0.getD (Int.toNat x13) (Ty.zero Ty_api_Read)) (x1.getD (Int.toNat x13) (Ty.zero Ty_api_Read)))) then (some false) else (slices_Equal_api_Read_api_Read.c4 k x0 x1 x12 (IntKind.wrap IntKind.i64 (x13 + 1)))) else none) else none) else (some true)) := by kernel_rfl
theorem slices_Equal_api_Write_api_Write_eq (k) (a0) (a1) : slices_Equal_api_Write_api_Write k a0 a1 = (bif ((a0.length : Int) != (a1.length : Int)) then (some false) else (slices_Equal_api_Write_api_Write.c4 k a0 a1 (a0.length : Int) 0)) := (slices_Equal_api_Write_api_Write_raw k a0 a1).trans (by kernel_rfl)
theorem slices_Equal_api_Write_api_Write.c4_eq (k) (x0) (x1) (x12) (x13) : slices_Equal_api_Write_api_Write.c4 (k + 1) x0 x1 x12 x13 = (bif (decide (x13 < x12)) then (bif (inI x13 x0.length) then (bif (inI x13 x1.length) then (bif (!(Ty.beq Ty_api_Write (x0.getD (Int.toNat x13) (Ty.zero Ty_api_Write)) (x1.getD (Int.toNat x13) (Ty.zero Ty_api_Write)))) then (some false) else (slices_Equal_api_Write_api_Write.c4 k x0 x1 x12 (IntKind.wrap IntKind.i64 (x13 + 1)))) else none) else none) else (some true)) := by kernel_rfl
theorem command_Same_eq (k) (a0) (a1) : command_Same k a0 a1 = (bif (a0.1 == a1.1) then (bif (Ty.beq Ty_api_Instance a0.2.1 a1.2.1) then (bif (Ty.beq Ty_api_Instance a0.2.2.1 a1.2.2.1) then (bif (a0.2.2.2.1 == a1.2.2.2.1) then (bif (Ty.beq Ty.bool a0.2.2.2.2.2.2 a1.2.2.2.2.2.2) then ((slices_Equal_api_Read_api_Read k a0.2.2.2.2.1 a1.2.2.2.2.1).bind fun r0 => (bif r0 then ((slices_Equal_api_Write_api_Write k a0.2.2.2.2.2.1 a1.2.2.2.2.2.1).bind fun r1 => (some r1)) else (some false))) else (some false)) else (some false)) else (some false)) else (some false)) else (some false)) := (command_Same_raw k a0 a1).trans (by kernel_rfl)
theorem stamp_within_int_eq (k) (a0) (a1) (a2) : stamp_within_int k a0 a1 a2 = (bif (decide (a0 ≥ a1)) then (some (decide (a0 ≤ a2))) else (some false)) := (stamp_within_int_raw k a0 a1 a2).trans (by kernel_rfl)
theorem stamp_RightTxn_eq (k) (a0) : stamp_RightTxn k a0 = ((stamp_within_int k a0.1 0 3).bind fun r0 => (bif r0 then ((stamp_within_int k a0.2 1 1099511627776).bind fun r1 => (some r1)) else (some false))) := (stamp_RightTxn_raw k a0).trans (by kernel_rfl)
theorem stamp_RightStamp_eq (k) (a0) : stamp_RightStamp k a0 = ((stamp_within_int k a0.1 0 1099511627776).bind fun r0 => (bif r0 then ((stamp_within_int k a0.2 0 3).bind fun r1 => (some r1)) else (some false))) := (stamp_RightStamp_raw k a0).trans (by kernel_rfl)
theorem stamp_order_eq (k) (a0) (a1) (a2) (a3) : stamp_order k a0 a1 a2 a3 = (bif (decide (a0 < a2)) then (some (-1)) else (bif (a0 == a2) then (bif (decide (a1 < a3)) then (some (-1)) else (stamp_order.c3 k a0 a1 a2 a3)) else (stamp_order.c3 k a0 a1 a2 a3))) := (stamp_order_raw k a0 a1 a2 a3).trans (by kernel_rfl)
theorem stamp_order.c3_eq (k) (x0) (x1) (x2) (x3) : stamp_order.c3 (k + 1) x0 x1 x2 x3 = (bif (x0 == x2) then (bif (x1 == x3) then (some 0) else (some 1)) else (some 1)) := by kernel_rfl
theorem stamp_CompareStamps_eq (k) (a0) (a1) : stamp_CompareStamps k a0 a1 = ((stamp_order k a0.1 a0.2 a1.1 a1.2).bind fun r0 => (some r0)) := (stamp_CompareStamps_raw k a0 a1).trans (by kernel_rfl)
theorem command_Right_1_eq (k) (a0) (a1) : command_Right_1 k a0 a1 = ((stamp_RightStamp k a0.2).bind fun r0 => (bif r0 then ((stamp_CompareStamps k a0.2 a1.2.2.1).bind fun r1 => (some (decide (r1 < 0)))) else (some false))) := (command_Right_1_raw k a0 a1).trans (by kernel_rfl)
theorem keys_Right_eq (k) (a0) : keys_Right k a0 = (bif (decide ((a0.size : Int) ≥ 1)) then (some (decide ((a0.size : Int) ≤ 8))) else (some false)) := (keys_Right_raw k a0).trans (by kernel_rfl)
theorem keys_Rights_eq (k) (a0) : keys_Rights k a0 = (keys_Rights.c2 k a0 a0 (a0.length : Int) 0) := (keys_Rights_raw k a0).trans (by kernel_rfl)
theorem keys_Rights.c2_eq (k) (x0) (x5) (x6) (x7) : keys_Rights.c2 (k + 1) x0 x5 x6 x7 = (bif (decide (x7 < x6)) then (bif (inI x7 x5.length) then ((keys_Right k (x5.getD (Int.toNat x7) (⟨#[]⟩ : ByteArray))).bind fun r0 => (bif (!r0) then (some false) else (bif (decide (x7 > 0)) then (bif (inI (IntKind.wrap IntKind.i64 (x7 - 1)) x0.length) then (bif (!(strLt (x0.getD (Int.toNat (IntKind.wrap IntKind.i64 (x7 - 1))) (⟨#[]⟩ : ByteArray)) (x5.getD (Int.toNat x7) (⟨#[]⟩ : ByteArray)))) then (some false) else (keys_Rights.c2 k x0 x5 x6 (IntKind.wrap IntKind.i64 (x7 + 1)))) else none) else (keys_Rights.c2 k x0 x5 x6 (IntKind.wrap IntKind.i64 (x7 + 1)))))) else none) else (some (decide ((x0.length : Int) ≤ 8)))) := by kernel_rfl
theorem command_Right_eq (k) (a0) : command_Right k a0 = (bif (a0.1 == 0) then ((command_Same k a0 (Ty.zero (Ty.pair Ty.i64 (Ty.pair Ty_api_Instance (Ty.pair Ty_api_Instance (Ty.pair Ty.i64 (Ty.pair (Ty.sl 96 Ty_api_Read) (Ty.pair (Ty.sl 98 Ty_api_Write) Ty.bool)))))))).bind fun r0 => (some r0)) else (bif (a0.1 == 1) then (bif (a0.1 == 1) then (command_Right.c7 k a0) else (some false)) else (bif (a0.1 == 2) then (command_Right.c7 k a0) else (some false)))) := (command_Right_raw k a0).trans (by kernel_rfl)
theorem command_Right.c7_eq (k) (b1) : command_Right.c7 (k + 1) b1 = ((stamp_RightTxn k b1.2.1).bind fun r0 => (bif (!r0) then (some false) else ((stamp_RightStamp k b1.2.2.1).bind fun r1 => (bif (!r1) then (some false) else (bif (decide (b1.2.2.1.1 < 1)) then (some false) else (bif (b1.2.2.1.2 != b1.2.1.1) then (some false) else (bif (decide (b1.2.2.2.1 < 1)) then (some false) else (bif (decide (b1.2.2.2.1 > 15)) then (some false) else (bif ((IntKind.wrap IntKind.i64 ((b1.2.2.2.2.1.length : Int) + (b1.2.2.2.2.2.1.length : Int))) == 0) then (some false) else (bif b1.2.2.2.2.2.2 then (bif (b1.1 == 1) then (some false) else (command_Right.c9 k b1)) else (command_Right.c9 k b1))))))))))) := by kernel_rfl
theorem command_Right.c9_eq (k) (b1) : command_Right.c9 (k + 1) b1 = (command_Right.c11 k b1.2.2.2.2.1 (b1.2.2.2.2.1.length : Int) 0 b1) := by kernel_rfl
theorem command_Right.c11_eq (k) (x74) (x75) (x76) (b1) : command_Right.c11 (k + 1) x74 x75 x76 b1 = (bif (decide (x76 < x75)) then (bif (inI x76 x74.length) then ((command_Right_1 k (x74.getD (Int.toNat x76) (Ty.zero Ty_api_Read)) b1).bind fun r0 => (bif (!r0) then (some false) else (command_Right.c11 k x74 x75 (IntKind.wrap IntKind.i64 (x76 + 1)) b1))) else none) else (command_Right.c17 k b1.2.2.2.2.2.1 (b1.2.2.2.2.2.1.length : Int) 0 b1)) := by kernel_rfl
theorem command_Right.c17_eq (k) (x86) (x87) (x88) (b1) : command_Right.c17 (k + 1) x86 x87 x88 b1 = (bif (decide (x88 < x87)) then (bif (inI x88 x86.length) then (bif (decide (((x86.getD (Int.toNat x88) (Ty.zero Ty_api_Write)).2.size : Int) > 8)) then (some false) else (command_Right.c17 k x86 x87 (IntKind.wrap IntKind.i64 (x88 + 1)) b1)) else none) else ((command_read k b1).bind fun r0 => ((keys_Rights k r0).bind fun r1 => (bif r1 then ((command_written k b1).bind fun r2 => ((keys_Rights k r2).bind fun r3 => (some r3))) else (some false))))) := by kernel_rfl
theorem index_Slot_eq (k) (a0) (a1) : index_Slot k a0 a1 = (index_Slot.c3 k a1 0 a0 (a0.length : Int) 0) := (index_Slot_raw k a0 a1).trans (by kernel_rfl)
theorem index_Slot.c3_eq (k) (x1) (x5) (x8) (x9) (x10) : index_Slot.c3 (k + 1) x1 x5 x8 x9 x10 = (bif (decide (x10 < x9)) then (bif (inI x10 x8.length) then (bif ((x8.getD (Int.toNat x10) (Ty.zero Ty_api_Record)).1.1 == x1) then (index_Slot.c3 k x1 (max x5 (min (x8.getD (Int.toNat x10) (Ty.zero Ty_api_Record)).1.2 1048576)) x8 x9 (IntKind.wrap IntKind.i64 (x10 + 1))) else (index_Slot.c3 k x1 x5 x8 x9 (IntKind.wrap IntKind.i64 (x10 + 1)))) else none) else (some (IntKind.wrap IntKind.i64 (x5 + 1)))) := by kernel_rfl
theorem deps_is_eq (k) (a0) : deps_is k a0 = (bif (decide (a0.1 ≥ 0)) then (some (decide (a0.1 < 7))) else (some false)) := (deps_is_raw k a0).trans (by kernel_rfl)
theorem deps_With_eq (k) (a0) (a1) : deps_With k a0 a1 = ((deps_is k a1).bind fun r0 => (bif r0 then (bif (inI a1.1 7) then (bif (inI a1.1 7) then (some (a0.set (Int.toNat a1.1) (max (a0.getD (Int.toNat a1.1) 0) a1.2))) else none) else none) else (some a0))) := (deps_With_raw k a0 a1).trans (by kernel_rfl)
theorem index_Attrs_eq (k) (a0) (a1) (a2) (a3) (a4) : index_Attrs k a0 a1 a2 a3 a4 = ((index_Against k a0 a1 a2).bind fun r0 => (index_Attrs.c2 k a3 r0 (r0.length : Int) 0 a4 (Ty.zero Ty_api_Deps))) := (index_Attrs_raw k a0 a1 a2 a3 a4).trans (by kernel_rfl)
theorem index_Attrs.c2_eq (k) (x3) (x17) (x18) (x19) (b9) (b11) : index_Attrs.c2 (k + 1) x3 x17 x18 x19 b9 b11 = (bif (decide (x19 < x18)) then (bif (inI x19 x17.length) then ((deps_With k b9 (x17.getD (Int.toNat x19) (Ty.zero Ty_api_Record)).1).bind fun r0 => (index_Attrs.c2 k (max x3 (IntKind.wrap IntKind.i64 ((min (x17.getD (Int.toNat x19) (Ty.zero Ty_api_Record)).2.2.2.2.2.1 1099511627775) + 1))) x17 x18 (IntKind.wrap IntKind.i64 (x19 + 1)) r0 b11)) else none) else (some (x3, b9))) := by kernel_rfl
theorem accept_own_eq (k) (a0) : accept_own k a0 = ((command_Clone k a0.2.2.2.2.1).bind fun r0 => (some (a0.1, (a0.2.1, (a0.2.2.1, (a0.2.2.2.1, (r0, a0.2.2.2.2.2))))))) := (accept_own_raw k a0).trans (by kernel_rfl)
theorem accept_Begin_eq (k) (a0) (a1) (a2) : accept_Begin k a0 a1 a2 = (bif (decide (a1 < 0)) then (some ((Ty.zero (Ty.pair Ty_api_Instance (Ty.pair Ty.i64 (Ty.pair Ty_api_Instance (Ty.pair Ty_api_Instance (Ty.pair Ty_api_Command (Ty.pair Ty.i64 (Ty.pair Ty_api_Deps Ty.bool)))))))), 1)) else (bif (decide (a1 ≥ 7)) then (some ((Ty.zero (Ty.pair Ty_api_Instance (Ty.pair Ty.i64 (Ty.pair Ty_api_Instance (Ty.pair Ty_api_Instance (Ty.pair Ty_api_Command (Ty.pair Ty.i64 (Ty.pair Ty_api_Deps Ty.bool)))))))), 1)) else ((command_Right k a2).bind fun r0 => (bif (!r0) then (some ((Ty.zero (Ty.pair Ty_api_Instance (Ty.pair Ty.i64 (Ty.pair Ty_api_Instance (Ty.pair Ty_api_Instance (Ty.pair Ty_api_Command (Ty.pair Ty.i64 (Ty.pair Ty_api_Deps Ty.bool)))))))), 1)) else (accept_Begin.c3 k a0 a1 a2 (Ty.zero Ty_api_Record)))))) := (accept_Begin_raw k a0 a1 a2).trans (by kernel_rfl)
theorem accept_Begin.c3_eq (k) (x0) (x1) (b5) (b6) : accept_Begin.c3 (k + 1) x0 x1 b5 b6 = ((index_Slot k x0 x1).bind fun r0 => (bif (decide (r0 > 1048576)) then (some ((Ty.zero (Ty.pair Ty_api_Instance (Ty.pair Ty.i64 (Ty.pair Ty_api_Instance (Ty.pair Ty_api_Instance (Ty.pair Ty_api_Command (Ty.pair Ty.i64 (Ty.pair Ty_api_Deps Ty.bool)))))))), 2)) else ((index_Attrs k x0 (x1, r0) b5 1 [0, 0, 0, 0, 0, 0, 0]).bind fun r1 => ((accept_own k ((x1, r0), (1, ((Ty.zero Ty_api_Instance), ((Ty.zero Ty_api_Instance), (b5, (r1.1, (r1.2, true)))))))).bind fun r2 => (some (r2, 0)))))) := by kernel_rfl
theorem lead_own_eq (k) (a0) : lead_own k a0 = ((command_Clone k a0.2.2.2.2.1).bind fun r0 => (some (a0.1, (a0.2.1, (a0.2.2.1, (a0.2.2.2.1, (r0, a0.2.2.2.2.2))))))) := (lead_own_raw k a0).trans (by kernel_rfl)
theorem lead_told_eq (k) (a0) (a1) (a2) : lead_told k a0 a1 a2 = ((lead_own k a0).bind fun r0 => ((lead_own k a2).bind fun r1 => (some (r0, (true, (a1, r1)))))) := (lead_told_raw k a0 a1 a2).trans (by kernel_rfl)
theorem lead_Start_eq (k) (a0) (a1) (a2) (a3) : lead_Start k a0 a1 a2 a3 = ((lead_is k a0 a1).bind fun r0 => (bif (!r0) then (some ((Ty.zero (Ty.pair Ty.i64 (Ty.pair Ty.i64 (Ty.pair Ty.i64 (Ty.pair Ty.i64 (Ty.pair Ty_api_Instance (Ty.pair Ty_api_Record (Ty.pair Ty.bool (Ty.pair Ty.i64 (Ty.pair Ty_api_Deps (Ty.sl 80 Ty_repair_Vote))))))))))), ((Ty.zero (Ty.pair Ty_api_Record (Ty.pair Ty.bool (Ty.pair Ty.i64 Ty_api_Record)))), 1))) else ((accept_Begin k a2 a1 a3).bind fun r1 => (bif (r1.2 != 0) then (some ((Ty.zero (Ty.pair Ty.i64 (Ty.pair Ty.i64 (Ty.pair Ty.i64 (Ty.pair Ty.i64 (Ty.pair Ty_api_Instance (Ty.pair Ty_api_Record (Ty.pair Ty.bool (Ty.pair Ty.i64 (Ty.pair Ty_api_Deps (Ty.sl 80 Ty_repair_Vote))))))))))), ((Ty.zero (Ty.pair Ty_api_Record (Ty.pair Ty.bool (Ty.pair Ty.i64 Ty_api_Record)))), r1.2))) else ((quorum_With k 0 a1).bind fun r2 => ((lead_own k r1.1).bind fun r3 => ((lead_told k r1.1 1 r1.1).bind fun r4 => (some ((a0, (a1, (1, (r2, ((Ty.zero Ty_api_Instance), (r3, (true, (r1.1.2.2.2.2.2.1, (r1.1.2.2.2.2.2.2.1, []))))))))), (r4, 0)))))))))) := (lead_Start_raw k a0 a1 a2 a3).trans (by kernel_rfl)
theorem wire_within_eq (k) (a0) (a1) (a2) : wire_within k a0 a1 a2 = (bif (decide (a0 ≥ a1)) then (some (decide (a0 ≤ a2))) else (some false)) := (wire_within_raw k a0 a1 a2).trans (by kernel_rfl)
theorem stamp_RightBallot_eq (k) (a0) : stamp_RightBallot k a0 = ((stamp_within_int k a0.1 0 1099511627776).bind fun r0 => (bif r0 then ((stamp_within_int k a0.2 0 6).bind fun r1 => (some r1)) else (some false))) := (stamp_RightBallot_raw k a0).trans (by kernel_rfl)
theorem stamp_RightInst_eq (k) (a0) : stamp_RightInst k a0 = ((stamp_within_int k a0.1 0 6).bind fun r0 => (bif r0 then ((stamp_within_int k a0.2 1 1048576).bind fun r1 => (some r1)) else (some false))) := (stamp_RightInst_raw k a0).trans (by kernel_rfl)
theorem stamp_CompareBallots_eq (k) (a0) (a1) : stamp_CompareBallots k a0 a1 = ((stamp_order k a0.1 a0.2 a1.1 a1.2).bind fun r0 => (some r0)) := (stamp_CompareBallots_raw k a0 a1).trans (by kernel_rfl)
theorem wire_SameRecord_eq (k) (a0) (a1) : wire_SameRecord k a0 a1 = (bif (Ty.beq Ty_api_Instance a0.1 a1.1) then (bif (a0.2.1 == a1.2.1) then (bif (Ty.beq Ty_api_Instance a0.2.2.1 a1.2.2.1) then (bif (Ty.beq Ty_api_Instance a0.2.2.2.1 a1.2.2.2.1) then (bif (a0.2.2.2.2.2.1 == a1.2.2.2.2.2.1) then (bif (Ty.beq Ty_api_Deps a0.2.2.2.2.2.2.1 a1.2.2.2.2.2.2.1) then (bif (Ty.beq Ty.bool a0.2.2.2.2.2.2.2 a1.2.2.2.2.2.2.2) then ((command_Same k a0.2.2.2.2.1 a1.2.2.2.2.1).bind fun r0 => (some r0)) else (some false)) else (some false)) else (some false)) else (some false)) else (some false)) else (some false)) else (some false)) := (wire_SameRecord_raw k a0 a1).trans (by kernel_rfl)
theorem deps_Right_eq (k) (a0) : deps_Right k a0 = (deps_Right.c2 k a0 0) := (deps_Right_raw k a0).trans (by kernel_rfl)
theorem deps_Right.c2_eq (k) (x5) (x6) : deps_Right.c2 (k + 1) x5 x6 = (bif (decide (x6 < 7)) then (bif (inI x6 7) then (bif (decide ((x5.getD (Int.toNat x6) 0) < 0)) then (some false) else (bif (decide ((x5.getD (Int.toNat x6) 0) > 1048576)) then (some false) else (deps_Right.c2 k x5 (IntKind.wrap IntKind.i64 (x6 + 1))))) else none) else (some true)) := by kernel_rfl
theorem wire_RightRecord_eq (k) (a0) : wire_RightRecord k a0 = ((stamp_RightInst k a0.1).bind fun r0 => (bif (!r0) then (some false) else ((stamp_RightBallot k a0.2.2.1).bind fun r1 => (bif (!r1) then (some false) else ((stamp_RightBallot k a0.2.2.2.1).bind fun r2 => (bif (!r2) then (some false) else ((stamp_CompareBallots k a0.2.2.2.1 a0.2.2.1).bind fun r3 => (bif (decide (r3 > 0)) then (some false) else ((wire_within k a0.2.1 0 3).bind fun r4 => (bif (!r4) then (some false) else (bif a0.2.2.2.2.2.2.2 then (bif (a0.2.1 != 1) then (some false) else (wire_RightRecord.c3 k a0)) else (wire_RightRecord.c3 k a0)))))))))))) := (wire_RightRecord_raw k a0).trans (by kernel_rfl)
theorem wire_RightRecord.c3_eq (k) (b1) : wire_RightRecord.c3 (k + 1) b1 = (bif (b1.2.1 == 0) then ((wire_SameRecord k b1 (b1.1, (0, (b1.2.2.1, (Ty.zero (Ty.pair Ty_api_Instance (Ty.pair Ty_api_Command (Ty.pair Ty.i64 (Ty.pair Ty_api_Deps Ty.bool))))))))).bind fun r0 => (some r0)) else ((command_Right k b1.2.2.2.2.1).bind fun r0 => (bif r0 then ((wire_within k b1.2.2.2.2.2.1 1 1099511627776).bind fun r1 => (bif r1 then ((deps_Right k b1.2.2.2.2.2.2.1).bind fun r2 => (some r2)) else (some false))) else (some false)))) := by kernel_rfl
theorem wire_RightMessage_eq (k) (a0) : wire_RightMessage k a0 = ((wire_within k a0.1 1 8).bind fun r0 => (bif r0 then ((wire_within k a0.2.1 0 6).bind fun r1 => (bif r1 then ((wire_within k a0.2.2.1 0 6).bind fun r2 => (bif r2 then ((stamp_RightBallot k a0.2.2.2.1).bind fun r3 => (bif r3 then ((wire_RightRecord k a0.2.2.2.2).bind fun r4 => (some r4)) else (some false))) else (some false))) else (some false))) else (some false))) := (wire_RightMessage_raw k a0).trans (by kernel_rfl)
theorem lead_Lead_ok_eq (k) (a0) (a1) : lead_Lead_ok k a0 a1 = (bif (a0.2.2.1 != 4) then ((wire_RightMessage k a1).bind fun r0 => (bif r0 then (bif (a1.2.2.1 == a0.2.1) then (bif (a1.2.1 != a0.2.1) then ((lead_is k a0.1 a1.2.1).bind fun r1 => (bif r1 then (some (Ty.beq Ty_api_Instance a1.2.2.2.2.1 a0.2.2.2.2.2.1.1)) else (some false))) else (some false)) else (some false)) else (some false))) else (some false)) := (lead_Lead_ok_raw k a0 a1).trans (by kernel_rfl)
theorem accept_Know_eq (k) (a0) (a1) : accept_Know k a0 a1 = (accept_Know.c2 k a0 (IntKind.wrap IntKind.i64 ((a0.length : Int) - 1)) a1 (Ty.zero Ty_api_Record)) := (accept_Know_raw k a0 a1).trans (by kernel_rfl)
theorem accept_Know.c2_eq (k) (x0) (x5) (b3) (b4) : accept_Know.c2 (k + 1) x0 x5 b3 b4 = (bif (decide (x5 ≥ 0)) then (bif (inI x5 x0.length) then (bif (Ty.beq Ty_api_Instance (x0.getD (Int.toNat x5) (Ty.zero Ty_api_Record)).1 b3) then (bif (inI x5 x0.length) then ((accept_own k (x0.getD (Int.toNat x5) (Ty.zero Ty_api_Record))).bind fun r0 => (some r0)) else none) else (accept_Know.c2 k x0 (IntKind.wrap IntKind.i64 (x5 - 1)) b3 b4)) else none) else (some (b3, (Ty.zero (Ty.pair Ty.i64 (Ty.pair Ty_api_Instance (Ty.pair Ty_api_Instance (Ty.pair Ty_api_Command (Ty.pair Ty.i64 (Ty.pair Ty_api_Deps Ty.bool)))))))))) := by kernel_rfl
theorem lead_Lead_lost_eq (k) (a0) (a1) : lead_Lead_lost k a0 a1 = (bif (a1.2.1 == 3) then (some true) else ((stamp_CompareBallots k a1.2.2.1 a0.2.2.2.2.1).bind fun r0 => (some (decide (r0 > 0))))) := (lead_Lead_lost_raw k a0 a1).trans (by kernel_rfl)
theorem quorum_Has_eq (k) (a0) (a1) : quorum_Has k a0 a1 = ((quorum_is k a1).bind fun r0 => (bif r0 then (bif (decide (0 ≤ a1)) then (some ((bitsI BinOp.and IntKind.i64 (shrI IntKind.i64 a0 a1) 1) == 1)) else none) else (some false))) := (quorum_Has_raw k a0 a1).trans (by kernel_rfl)
theorem deps_Join_eq (k) (a0) (a1) : deps_Join k a0 a1 = (deps_Join.c2 k a1 0 a0 (Ty.zero Ty_api_Deps)) := (deps_Join_raw k a0 a1).trans (by kernel_rfl)
theorem deps_Join.c2_eq (k) (x7) (x8) (b2) (b4) : deps_Join.c2 (k + 1) x7 x8 b2 b4 = (bif (decide (x8 < 7)) then (bif (inI x8 7) then (bif (inI x8 7) then (bif (inI x8 7) then (deps_Join.c2 k x7 (IntKind.wrap IntKind.i64 (x8 + 1)) (b2.set (Int.toNat x8) (max (b2.getD (Int.toNat x8) 0) (x7.getD (Int.toNat x8) 0))) b4) else none) else none) else none) else (some b2)) := by kernel_rfl
theorem quorum_Members_eq (k) (a0) : quorum_Members k a0 = (quorum_Members.c3 k a0 [] 0) := (quorum_Members_raw k a0).trans (by kernel_rfl)
theorem quorum_Members.c3_eq (k) (x0) (x3) (x5) : quorum_Members.c3 (k + 1) x0 x3 x5 = (bif (decide (x5 < 7)) then ((quorum_Has k x0 x5).bind fun r0 => (bif r0 then (bif (decide ((x3.length + 1) < 4294967296)) then (quorum_Members.c3 k x0 (x3 ++ [x5]) (IntKind.wrap IntKind.i64 (x5 + 1))) else none) else (quorum_Members.c3 k x0 x3 (IntKind.wrap IntKind.i64 (x5 + 1))))) else (some x3)) := by kernel_rfl
theorem quorum_Count_eq (k) (a0) : quorum_Count k a0 = ((quorum_Members k a0).bind fun r0 => (some (r0.length : Int))) := (quorum_Count_raw k a0).trans (by kernel_rfl)
theorem quorum_Fast_eq (k) (a0) : quorum_Fast k a0 = ((quorum_sizes k a0).bind fun r0 => (some (r0.getD (Int.toNat 2) 0))) := (quorum_Fast_raw k a0).trans (by kernel_rfl)
theorem lead_Lead_commit_eq (k) (a0) (a1) (a2) : lead_Lead_commit k a0 a1 a2 = ((stamp_CompareBallots k a0.2.2.2.2.1 a1.2.2.1).bind fun r0 => (bif (decide (r0 > 0)) then (lead_Lead_commit.c4 k a0 (a2.1, (3, (a0.2.2.2.2.1, (a0.2.2.2.2.1, (a2.2.2.2.2.1, (a2.2.2.2.2.2.1, (a2.2.2.2.2.2.2.1, false))))))) (Ty.zero Ty_lead_Lead) (Ty.zero Ty_lead_Step)) else (lead_Lead_commit.c4 k a0 (a2.1, (3, (a1.2.2.1, (a0.2.2.2.2.1, (a2.2.2.2.2.1, (a2.2.2.2.2.2.1, (a2.2.2.2.2.2.2.1, false))))))) (Ty.zero Ty_lead_Lead) (Ty.zero Ty_lead_Step)))) := (lead_Lead_commit_raw k a0 a1 a2).trans (by kernel_rfl)
theorem lead_Lead_commit.c4_eq (k) (b3) (b5) (b6) (b7) : lead_Lead_commit.c4 (k + 1) b3 b5 b6 b7 = ((lead_told k b5 5 b5).bind fun r0 => (some ((b3.1, (b3.2.1, (4, b3.2.2.2))), r0))) := by kernel_rfl
theorem quorum_Slow_eq (k) (a0) : quorum_Slow k a0 = ((quorum_sizes k a0).bind fun r0 => (some (r0.getD (Int.toNat 1) 0))) := (quorum_Slow_raw k a0).trans (by kernel_rfl)
theorem quorum_All_eq (k) (a0) : quorum_All k a0 = ((quorum_Size k a0).bind fun r0 => (bif (decide (0 ≤ r0)) then (some (IntKind.wrap IntKind.i64 ((shlI IntKind.i64 1 r0) - 1))) else none)) := (quorum_All_raw k a0).trans (by kernel_rfl)
theorem quorum_Major_eq (k) (a0) (a1) : quorum_Major k a0 a1 = ((quorum_Slow k a0).bind fun r0 => (bif (decide (r0 > 0)) then ((quorum_All k a0).bind fun r1 => ((quorum_Count k (bitsI BinOp.and IntKind.i64 a1 r1)).bind fun r2 => ((quorum_Slow k a0).bind fun r3 => (some (decide (r2 ≥ r3)))))) else (some false))) := (quorum_Major_raw k a0 a1).trans (by kernel_rfl)
theorem lead_Lead_all_eq (k) (a0) : lead_Lead_all k a0 = (some (a0.2.2.2.2.2.1.1, (a0.2.2.2.2.2.1.2.1, (a0.2.2.2.2.2.1.2.2.1, (a0.2.2.2.2.2.1.2.2.2.1, (a0.2.2.2.2.2.1.2.2.2.2.1, (a0.2.2.2.2.2.2.2.1, (a0.2.2.2.2.2.2.2.2.1, a0.2.2.2.2.2.1.2.2.2.2.2.2.2)))))))) := (lead_Lead_all_raw k a0).trans (by kernel_rfl)
theorem lead_Lead_put_eq (k) (a0) (a1) : lead_Lead_put k a0 a1 = ((quorum_With k 0 a0.2.1).bind fun r0 => ((lead_own k (a1.1, (2, (a0.2.2.2.2.1, (a0.2.2.2.2.1, (a1.2.2.2.2.1, (a1.2.2.2.2.2.1, (a1.2.2.2.2.2.2.1, false)))))))).bind fun r1 => ((lead_told k (a1.1, (2, (a0.2.2.2.2.1, (a0.2.2.2.2.1, (a1.2.2.2.2.1, (a1.2.2.2.2.2.1, (a1.2.2.2.2.2.2.1, false))))))) 3 (a1.1, (2, (a0.2.2.2.2.1, (a0.2.2.2.2.1, (a1.2.2.2.2.1, (a1.2.2.2.2.2.1, (a1.2.2.2.2.2.2.1, false)))))))).bind fun r2 => (some ((a0.1, (a0.2.1, (2, (r0, (a0.2.2.2.2.1, (r1, a0.2.2.2.2.2.2)))))), r2))))) := (lead_Lead_put_raw k a0 a1).trans (by kernel_rfl)
theorem lead_Lead_asked_eq (k) (a0) (a1) (a2) : lead_Lead_asked k a0 a1 a2 = (bif a0.2.2.2.2.2.2.1 then (bif (Ty.beq Ty_api_Instance a0.2.2.2.2.1 (Ty.zero (Ty.pair Ty.i64 Ty.i64))) then (bif (a2.2.2.2.2.2.1 == a0.2.2.2.2.2.1.2.2.2.2.2.1) then (lead_Lead_asked.c2 k (a0.1, (a0.2.1, (a0.2.2.1, (a0.2.2.2.1, (a0.2.2.2.2.1, (a0.2.2.2.2.2.1, ((Ty.beq Ty_api_Deps a2.2.2.2.2.2.2.1 a0.2.2.2.2.2.1.2.2.2.2.2.2.1), a0.2.2.2.2.2.2.2))))))) a1 a2 (Ty.zero Ty_lead_Lead) (Ty.zero Ty_lead_Step)) else (lead_Lead_asked.c2 k (a0.1, (a0.2.1, (a0.2.2.1, (a0.2.2.2.1, (a0.2.2.2.2.1, (a0.2.2.2.2.2.1, (false, a0.2.2.2.2.2.2.2))))))) a1 a2 (Ty.zero Ty_lead_Lead) (Ty.zero Ty_lead_Step))) else (lead_Lead_asked.c2 k (a0.1, (a0.2.1, (a0.2.2.1, (a0.2.2.2.1, (a0.2.2.2.2.1, (a0.2.2.2.2.2.1, (false, a0.2.2.2.2.2.2.2))))))) a1 a2 (Ty.zero Ty_lead_Lead) (Ty.zero Ty_lead_Step))) else (lead_Lead_asked.c2 k (a0.1, (a0.2.1, (a0.2.2.1, (a0.2.2.2.1, (a0.2.2.2.2.1, (a0.2.2.2.2.2.1, (false, a0.2.2.2.2.2.2.2))))))) a1 a2 (Ty.zero Ty_lead_Lead) (Ty.zero Ty_lead_Step))) := (lead_Lead_asked_raw k a0 a1 a2).trans (by kernel_rfl)
theorem lead_Lead_asked.c2_eq (k) (b3) (b4) (b5) (b6) (b7) : lead_Lead_asked.c2 (k + 1) b3 b4 b5 b6 b7 = ((deps_Join k b3.2.2.2.2.2.2.2.2.1 b5.2.2.2.2.2.2.1).bind fun r0 => (bif b3.2.2.2.2.2.2.1 then ((quorum_Count k b3.2.2.2.1).bind fun r1 => ((quorum_Fast k b3.1).bind fun r2 => (bif (decide (r1 ≥ r2)) then (lead_Lead_asked.c4 k (b3.1, (b3.2.1, (b3.2.2.1, (b3.2.2.2.1, (b3.2.2.2.2.1, (b3.2.2.2.2.2.1, (b3.2.2.2.2.2.2.1, ((max b3.2.2.2.2.2.2.2.1 b5.2.2.2.2.2.1), (r0, b3.2.2.2.2.2.2.2.2.2))))))))) b4 b6 b7) else (lead_Lead_asked.c5 k (b3.1, (b3.2.1, (b3.2.2.1, (b3.2.2.2.1, (b3.2.2.2.2.1, (b3.2.2.2.2.2.1, (b3.2.2.2.2.2.2.1, ((max b3.2.2.2.2.2.2.2.1 b5.2.2.2.2.2.1), (r0, b3.2.2.2.2.2.2.2.2.2))))))))) b6 b7)))) else (lead_Lead_asked.c5 k (b3.1, (b3.2.1, (b3.2.2.1, (b3.2.2.2.1, (b3.2.2.2.2.1, (b3.2.2.2.2.2.1, (b3.2.2.2.2.2.2.1, ((max b3.2.2.2.2.2.2.2.1 b5.2.2.2.2.2.1), (r0, b3.2.2.2.2.2.2.2.2.2))))))))) b6 b7))) := by kernel_rfl
theorem lead_Lead_asked.c4_eq (k) (b3) (b4) (b6) (b7) : lead_Lead_asked.c4 (k + 1) b3 b4 b6 b7 = ((lead_Lead_commit k b3 b4 b3.2.2.2.2.2.1).bind fun r0 => (some (r0.1, r0.2))) := by kernel_rfl
theorem lead_Lead_asked.c5_eq (k) (b3) (b6) (b7) : lead_Lead_asked.c5 (k + 1) b3 b6 b7 = (bif (!b3.2.2.2.2.2.2.1) then ((quorum_Major k b3.1 b3.2.2.2.1).bind fun r0 => (bif r0 then (lead_Lead_asked.c6 k b3 b6 b7) else (some (b3, (Ty.zero (Ty.pair Ty_api_Record (Ty.pair Ty.bool (Ty.pair Ty.i64 Ty_api_Record)))))))) else (some (b3, (Ty.zero (Ty.pair Ty_api_Record (Ty.pair Ty.bool (Ty.pair Ty.i64 Ty_api_Record))))))) := by kernel_rfl
theorem lead_Lead_asked.c6_eq (k) (b3) (b6) (b7) : lead_Lead_asked.c6 (k + 1) b3 b6 b7 = ((lead_Lead_all k b3).bind fun r0 => ((lead_Lead_put k b3 r0).bind fun r1 => (some (r1.1, r1.2)))) := by kernel_rfl
theorem repair_counted_eq (k) (a0) : repair_counted k a0 = (repair_counted.c4 k [] [] a0 (a0.length : Int) 0) := (repair_counted_raw k a0).trans (by kernel_rfl)
theorem repair_counted.c4_eq (k) (x4) (x5) (x9) (x10) (x11) : repair_counted.c4 (k + 1) x4 x5 x9 x10 x11 = (bif (decide (x11 < x10)) then (bif (inI x11 x9.length) then (bif ((Option.getD (mapGet (Ty.int IntKind.i64) (Ty.int IntKind.i64) (x9.getD (Int.toNat x11) (Ty.zero Ty_repair_Vote)).1 (mapPut (Ty.int IntKind.i64) (Ty.int IntKind.i64) (x9.getD (Int.toNat x11) (Ty.zero Ty_repair_Vote)).1 (IntKind.wrap IntKind.i64 ((Option.getD (mapGet (Ty.int IntKind.i64) (Ty.int IntKind.i64) (x9.getD (Int.toNat x11) (Ty.zero Ty_repair_Vote)).1 x5) 0) + 1)) x5)) 0) == 1) then (bif (decide ((x4.length + 1) < 4294967296)) then (repair_counted.c4 k (x4 ++ [(x9.getD (Int.toNat x11) (Ty.zero Ty_repair_Vote))]) (mapPut (Ty.int IntKind.i64) (Ty.int IntKind.i64) (x9.getD (Int.toNat x11) (Ty.zero Ty_repair_Vote)).1 (IntKind.wrap IntKind.i64 ((Option.getD (mapGet (Ty.int IntKind.i64) (Ty.int IntKind.i64) (x9.getD (Int.toNat x11) (Ty.zero Ty_repair_Vote)).1 x5) 0) + 1)) x5) x9 x10 (IntKind.wrap IntKind.i64 (x11 + 1))) else none) else (repair_counted.c4 k x4 (mapPut (Ty.int IntKind.i64) (Ty.int IntKind.i64) (x9.getD (Int.toNat x11) (Ty.zero Ty_repair_Vote)).1 (IntKind.wrap IntKind.i64 ((Option.getD (mapGet (Ty.int IntKind.i64) (Ty.int IntKind.i64) (x9.getD (Int.toNat x11) (Ty.zero Ty_repair_Vote)).1 x5) 0) + 1)) x5) x9 x10 (IntKind.wrap IntKind.i64 (x11 + 1)))) else none) else (some (x4, x5))) := by kernel_rfl
theorem repair_may_eq (k) (a0) (a1) (a2) : repair_may k a0 a1 a2 = ((quorum_Size k a0).bind fun r0 => ((stamp_RightInst k a1).bind fun r1 => (bif (!r1) then (some 1) else (bif (decide (a1.1 ≥ r0)) then (some 1) else (repair_may.c5 k a0 a2 r0 a2 (a2.length : Int) 0 a1))))) := (repair_may_raw k a0 a1 a2).trans (by kernel_rfl)
theorem repair_may.c5_eq (k) (x0) (x2) (x7) (x21) (x22) (x23) (b4) : repair_may.c5 (k + 1) x0 x2 x7 x21 x22 x23 b4 = (bif (decide (x23 < x22)) then (bif (inI x23 x21.length) then (bif (decide ((x21.getD (Int.toNat x23) (Ty.zero Ty_repair_Vote)).1 < 0)) then (some 1) else (bif (decide ((x21.getD (Int.toNat x23) (Ty.zero Ty_repair_Vote)).1 ≥ x7)) then (some 1) else (bif (!(Ty.beq Ty_api_Instance (x21.getD (Int.toNat x23) (Ty.zero Ty_repair_Vote)).2.1 b4)) then (some 1) else ((wire_RightRecord k (x21.getD (Int.toNat x23) (Ty.zero Ty_repair_Vote)).2).bind fun r0 => (bif (!r0) then (some 1) else (repair_may.c5 k x0 x2 x7 x21 x22 (IntKind.wrap IntKind.i64 (x23 + 1)) b4)))))) else none) else ((quorum_Slow k x0).bind fun r0 => (bif (decide ((x2.length : Int) < r0)) then (some 13) else (some 0)))) := by kernel_rfl
theorem repair_as_eq (k) (a0) (a1) : repair_as k a0 a1 = ((command_Clone k a0.2.2.2.2.1).bind fun r0 => (some (a0.1, (a1, ((Ty.zero (Ty.pair Ty.i64 Ty.i64)), ((Ty.zero (Ty.pair Ty.i64 Ty.i64)), (r0, (a0.2.2.2.2.2.1, (a0.2.2.2.2.2.2.1, (a1 == 1)))))))))) := (repair_as_raw k a0 a1).trans (by kernel_rfl)
theorem repair_pick_eq (k) (a0) (a1) : repair_pick k a0 a1 = (repair_pick.c3 k a0 a1 (-1) a0 (a0.length : Int) 0 (Ty.zero Ty_api_Record)) := (repair_pick_raw k a0 a1).trans (by kernel_rfl)
theorem repair_pick.c3_eq (k) (x0) (f1) (x6) (x9) (x10) (x11) (b4) : repair_pick.c3 (k + 1) x0 f1 x6 x9 x10 x11 b4 = (bif (decide (x11 < x10)) then (bif (inI x11 x9.length) then ((f1 (x9.getD (Int.toNat x11) (Ty.zero Ty_repair_Vote))).bind fun r0 => (bif r0 then (bif (decide (x6 < 0)) then (repair_pick.c3 k x0 f1 x11 x9 x10 (IntKind.wrap IntKind.i64 (x11 + 1)) b4) else (bif (inI x6 x0.length) then ((stamp_CompareBallots k (x9.getD (Int.toNat x11) (Ty.zero Ty_repair_Vote)).2.2.2.2.1 (x0.getD (Int.toNat x6) (Ty.zero Ty_repair_Vote)).2.2.2.2.1).bind fun r1 => (bif (decide (r1 > 0)) then (repair_pick.c3 k x0 f1 x11 x9 x10 (IntKind.wrap IntKind.i64 (x11 + 1)) b4) else (repair_pick.c3 k x0 f1 x6 x9 x10 (IntKind.wrap IntKind.i64 (x11 + 1)) b4))) else none)) else (repair_pick.c3 k x0 f1 x6 x9 x10 (IntKind.wrap IntKind.i64 (x11 + 1)) b4))) else none) else (bif (decide (x6 < 0)) then (some ((Ty.zero (Ty.pair Ty_api_Instance (Ty.pair Ty.i64 (Ty.pair Ty_api_Instance (Ty.pair Ty_api_Instance (Ty.pair Ty_api_Command (Ty.pair Ty.i64 (Ty.pair Ty_api_Deps Ty.bool)))))))), false)) else (bif (inI x6 x0.length) then (some ((x0.getD (Int.toNat x6) (Ty.zero Ty_repair_Vote)).2, true)) else none))) := by kernel_rfl
theorem repair_fast_eq (k) (a0) : repair_fast k a0 = (bif (a0.2.2.1 == 1) then (bif (Ty.beq Ty_api_Instance a0.2.2.2.2.1 (Ty.zero (Ty.pair Ty.i64 Ty.i64))) then (some a0.2.2.2.2.2.2.2.2) else (some false)) else (some false)) := (repair_fast_raw k a0).trans (by kernel_rfl)
theorem repair_Fast_eq (k) (a0) (a1) (a2) : repair_Fast k a0 a1 a2 = ((repair_counted k a2).bind fun r0 => ((repair_may k a0 a1 r0.1).bind fun r1 => (bif (r1 != 0) then (some false) else (bif (decide ((Option.getD (mapGet (Ty.int IntKind.i64) (Ty.int IntKind.i64) a1.1 r0.2) 0) > 0)) then (some false) else (repair_Fast.c6 k a0 0 r0.1 (r0.1.length : Int) 0))))) := (repair_Fast_raw k a0 a1 a2).trans (by kernel_rfl)
theorem repair_Fast.c6_eq (k) (x0) (x8) (x28) (x29) (x30) : repair_Fast.c6 (k + 1) x0 x8 x28 x29 x30 = (bif (decide (x30 < x29)) then (bif (inI x30 x28.length) then ((repair_fast k (x28.getD (Int.toNat x30) (Ty.zero Ty_repair_Vote))).bind fun r0 => (bif r0 then (repair_Fast.c6 k x0 (IntKind.wrap IntKind.i64 (x8 + 1)) x28 x29 (IntKind.wrap IntKind.i64 (x30 + 1))) else (repair_Fast.c6 k x0 x8 x28 x29 (IntKind.wrap IntKind.i64 (x30 + 1))))) else none) else (some (decide (x8 ≥ x0)))) := by kernel_rfl
theorem repair_Decide_eq (k) (a0) (a1) (a2) : repair_Decide k a0 a1 a2 = ((repair_counted k a2).bind fun r0 => ((repair_may k a0 a1 r0.1).bind fun r1 => (bif (r1 != 0) then (some ((Ty.zero (Ty.pair Ty_api_Instance (Ty.pair Ty.i64 (Ty.pair Ty_api_Instance (Ty.pair Ty_api_Instance (Ty.pair Ty_api_Command (Ty.pair Ty.i64 (Ty.pair Ty_api_Deps Ty.bool)))))))), r1)) else (repair_Decide.c7 k a0 r0.1 r0.1 (r0.1.length : Int) 0 a1 (Ty.zero Ty_api_Record))))) := (repair_Decide_raw k a0 a1 a2).trans (by kernel_rfl)
theorem repair_Decide.c7_eq (k) (x0) (x2) (x32) (x33) (x34) (b4) (b6) : repair_Decide.c7 (k + 1) x0 x2 x32 x33 x34 b4 b6 = (bif (decide (x34 < x33)) then (bif (inI x34 x32.length) then (bif ((x32.getD (Int.toNat x34) (Ty.zero Ty_repair_Vote)).2.2.1 == 3) then ((repair_as k (x32.getD (Int.toNat x34) (Ty.zero Ty_repair_Vote)).2 3).bind fun r0 => (some (r0, 0))) else (repair_Decide.c7 k x0 x2 x32 x33 (IntKind.wrap IntKind.i64 (x34 + 1)) b4 b6)) else none) else ((repair_Decide_1 k 2).bind fun r0 => ((repair_pick k x2 r0).bind fun r1 => (bif r1.2 then ((repair_as k r1.1 2).bind fun r2 => (some (r2, 0))) else ((repair_Fast k x0 b4 x2).bind fun r2 => (bif r2 then ((repair_pick k x2 (fun x => (repair_fast k x))).bind fun r3 => ((repair_as k r3.1 2).bind fun r4 => (some (r4, 0)))) else ((repair_Decide_1 k 1).bind fun r3 => ((repair_pick k x2 r3).bind fun r4 => (bif r4.2 then ((repair_as k r4.1 1).bind fun r5 => (some (r5, 0))) else ((accept_Know k [] b4).bind fun r5 => ((repair_as k (r5.1, (r5.2.1, (r5.2.2.1, (r5.2.2.2.1, (r5.2.2.2.2.1, (1, r5.2.2.2.2.2.2)))))) 2).bind fun r6 => (some (r6, 0))))))))))))) := by kernel_rfl
theorem lead_Lead_ask_eq (k) (a0) (a1) (a2) : lead_Lead_ask k a0 a1 a2 = ((index_Attrs k a1 a2.1 a2.2.2.2.2.1 a2.2.2.2.2.2.1 a2.2.2.2.2.2.2.1).bind fun r0 => (bif (r0.1 == a2.2.2.2.2.2.1) then (lead_Lead_ask.c5 k a0 (a2.1, (a2.2.1, (a0.2.2.2.2.1, (a0.2.2.2.2.1, (a2.2.2.2.2.1, (a2.2.2.2.2.2.1, (a2.2.2.2.2.2.2.1, false))))))) (Ty.zero Ty_lead_Lead) (Ty.zero Ty_lead_Step) (a2.1, (a2.2.1, (a0.2.2.2.2.1, (a0.2.2.2.2.1, (a2.2.2.2.2.1, (r0.1, (r0.2, (Ty.beq Ty_api_Deps r0.2 a2.2.2.2.2.2.2.1))))))))) else (lead_Lead_ask.c5 k a0 (a2.1, (a2.2.1, (a0.2.2.2.2.1, (a0.2.2.2.2.1, (a2.2.2.2.2.1, (a2.2.2.2.2.2.1, (a2.2.2.2.2.2.2.1, false))))))) (Ty.zero Ty_lead_Lead) (Ty.zero Ty_lead_Step) (a2.1, (a2.2.1, (a0.2.2.2.2.1, (a0.2.2.2.2.1, (a2.2.2.2.2.1, (r0.1, (r0.2, false)))))))))) := (lead_Lead_ask_raw k a0 a1 a2).trans (by kernel_rfl)
theorem lead_Lead_ask.c5_eq (k) (b3) (b5) (b6) (b7) (b8) : lead_Lead_ask.c5 (k + 1) b3 b5 b6 b7 b8 = ((quorum_With k 0 b3.2.1).bind fun r0 => ((lead_own k b5).bind fun r1 => ((lead_told k b8 1 b5).bind fun r2 => (some ((b3.1, (b3.2.1, (1, (r0, (b3.2.2.2.2.1, (r1, (false, (b8.2.2.2.2.2.1, (b8.2.2.2.2.2.2.1, b3.2.2.2.2.2.2.2.2.2))))))))), r2))))) := by kernel_rfl
theorem lead_Lead_looked_eq (k) (a0) (a1) (a2) (a3) : lead_Lead_looked k a0 a1 a2 a3 = (bif (decide ((0 + a0.2.2.2.2.2.2.2.2.2.length) < 4294967296)) then ((lead_own k a3.2.2.2.2).bind fun r0 => (bif (decide ((a0.2.2.2.2.2.2.2.2.2.length + 1) < 4294967296)) then ((repair_Decide k a0.1 a0.2.2.2.2.2.1.1 (a0.2.2.2.2.2.2.2.2.2 ++ [(a3.2.1, r0)])).bind fun r1 => (bif (r1.2 != 0) then (some ((a0.1, (a0.2.1, (a0.2.2.1, (a0.2.2.2.1, (a0.2.2.2.2.1, (a0.2.2.2.2.2.1, (a0.2.2.2.2.2.2.1, (a0.2.2.2.2.2.2.2.1, (a0.2.2.2.2.2.2.2.2.1, (a0.2.2.2.2.2.2.2.2.2 ++ [(a3.2.1, r0)])))))))))), (Ty.zero (Ty.pair Ty_api_Record (Ty.pair Ty.bool (Ty.pair Ty.i64 Ty_api_Record)))))) else (bif (r1.1.2.1 == 3) then ((lead_own k r1.1).bind fun r2 => ((lead_Lead_commit k (a0.1, (a0.2.1, (a0.2.2.1, (a0.2.2.2.1, (a0.2.2.2.2.1, (r2, (a0.2.2.2.2.2.2.1, (a0.2.2.2.2.2.2.2.1, (a0.2.2.2.2.2.2.2.2.1, (a0.2.2.2.2.2.2.2.2.2 ++ [(a3.2.1, r0)])))))))))) a2 r1.1).bind fun r3 => (some (r3.1, r3.2)))) else (bif (r1.1.2.1 == 2) then ((lead_Lead_put k (a0.1, (a0.2.1, (a0.2.2.1, (a0.2.2.2.1, (a0.2.2.2.2.1, (a0.2.2.2.2.2.1, (a0.2.2.2.2.2.2.1, (a0.2.2.2.2.2.2.2.1, (a0.2.2.2.2.2.2.2.2.1, (a0.2.2.2.2.2.2.2.2.2 ++ [(a3.2.1, r0)])))))))))) r1.1).bind fun r2 => (some (r2.1, r2.2))) else ((lead_Lead_ask k (a0.1, (a0.2.1, (a0.2.2.1, (a0.2.2.2.1, (a0.2.2.2.2.1, (a0.2.2.2.2.2.1, (a0.2.2.2.2.2.2.1, (a0.2.2.2.2.2.2.2.1, (a0.2.2.2.2.2.2.2.2.1, (a0.2.2.2.2.2.2.2.2.2 ++ [(a3.2.1, r0)])))))))))) a1 r1.1).bind fun r2 => (some (r2.1, r2.2))))))) else none)) else none) := (lead_Lead_looked_raw k a0 a1 a2 a3).trans (by kernel_rfl)
theorem lead_Lead_Hear_eq (k) (a0) (a1) (a2) : lead_Lead_Hear k a0 a1 a2 = ((lead_Lead_ok k a0 a2).bind fun r0 => (bif (!r0) then (some (a0, (Ty.zero (Ty.pair Ty_api_Record (Ty.pair Ty.bool (Ty.pair Ty.i64 Ty_api_Record)))))) else ((accept_Know k a1 a0.2.2.2.2.2.1.1).bind fun r1 => ((lead_Lead_lost k a0 r1).bind fun r2 => (bif r2 then (lead_Lead_Hear.c5 k a0 (Ty.zero Ty_lead_Lead) (Ty.zero Ty_lead_Step)) else (bif (a2.1 == 5) then (lead_Lead_Hear.c5 k a0 (Ty.zero Ty_lead_Lead) (Ty.zero Ty_lead_Step)) else (bif (a2.1 == 8) then ((stamp_CompareBallots k a2.2.2.2.1 a0.2.2.2.2.1).bind fun r3 => (bif (decide (r3 > 0)) then (lead_Lead_Hear.c5 k a0 (Ty.zero Ty_lead_Lead) (Ty.zero Ty_lead_Step)) else (lead_Lead_Hear.c7 k a1 a0 a2 (Ty.zero Ty_lead_Lead) (Ty.zero Ty_lead_Step) r1))) else (lead_Lead_Hear.c7 k a1 a0 a2 (Ty.zero Ty_lead_Lead) (Ty.zero Ty_lead_Step) r1)))))))) := (lead_Lead_Hear_raw k a0 a1 a2).trans (by kernel_rfl)
theorem lead_Lead_Hear.c5_eq (k) (b3) (b6) (b7) : lead_Lead_Hear.c5 (k + 1) b3 b6 b7 = (some ((b3.1, (b3.2.1, (4, b3.2.2.2))), (Ty.zero (Ty.pair Ty_api_Record (Ty.pair Ty.bool (Ty.pair Ty.i64 Ty_api_Record)))))) := by kernel_rfl
theorem lead_Lead_Hear.c7_eq (k) (x1) (b3) (b5) (b6) (b7) (b8) : lead_Lead_Hear.c7 (k + 1) x1 b3 b5 b6 b7 b8 = (bif (!(Ty.beq Ty_api_Instance b5.2.2.2.1 b3.2.2.2.2.1)) then (some (b3, (Ty.zero (Ty.pair Ty_api_Record (Ty.pair Ty.bool (Ty.pair Ty.i64 Ty_api_Record)))))) else ((quorum_Has k b3.2.2.2.1 b5.2.1).bind fun r0 => (bif r0 then (some (b3, (Ty.zero (Ty.pair Ty_api_Record (Ty.pair Ty.bool (Ty.pair Ty.i64 Ty_api_Record)))))) else (lead_Lead_Hear.c9 k x1 b3 b5 b6 b7 b8)))) := by kernel_rfl
theorem lead_Lead_Hear.c9_eq (k) (x1) (b3) (b5) (b6) (b7) (b8) : lead_Lead_Hear.c9 (k + 1) x1 b3 b5 b6 b7 b8 = (bif (b5.1 == 2) then (bif (b3.2.2.1 == 1) then (lead_Lead_Hear.c11 k b3 b5 b6 b7 b8) else (lead_Lead_Hear.c13 k x1 b3 b5 b6 b7 b8)) else (lead_Lead_Hear.c13 k x1 b3 b5 b6 b7 b8)) := by kernel_rfl
theorem lead_Lead_Hear.c11_eq (k) (b3) (b5) (b6) (b7) (b8) : lead_Lead_Hear.c11 (k + 1) b3 b5 b6 b7 b8 = ((lead_Lead_Hear_1 k b3 b5).bind fun r0 => ((lead_Lead_asked k r0.1 b8 b5.2.2.2.2).bind fun r1 => (some (r1.1, r1.2)))) := by kernel_rfl
theorem lead_Lead_Hear.c13_eq (k) (x1) (b3) (b5) (b6) (b7) (b8) : lead_Lead_Hear.c13 (k + 1) x1 b3 b5 b6 b7 b8 = (bif (b5.1 == 4) then (bif (b3.2.2.1 == 2) then (lead_Lead_Hear.c14 k b3 b5 b6 b7 b8) else (lead_Lead_Hear.c17 k x1 b3 b5 b6 b7 b8)) else (lead_Lead_Hear.c17 k x1 b3 b5 b6 b7 b8)) := by kernel_rfl
theorem lead_Lead_Hear.c14_eq (k) (b3) (b5) (b6) (b7) (b8) : lead_Lead_Hear.c14 (k + 1) b3 b5 b6 b7 b8 = ((lead_Lead_Hear_1 k b3 b5).bind fun r0 => ((quorum_Major k r0.1.1 r0.1.2.2.2.1).bind fun r1 => (bif r1 then ((lead_Lead_commit k r0.1 b8 r0.1.2.2.2.2.2.1).bind fun r2 => (some (r2.1, r2.2))) else (lead_Lead_Hear.c20 k r0.1 b6 b7)))) := by kernel_rfl
theorem lead_Lead_Hear.c17_eq (k) (x1) (b3) (b5) (b6) (b7) (b8) : lead_Lead_Hear.c17 (k + 1) x1 b3 b5 b6 b7 b8 = (bif (b5.1 == 7) then (bif (b3.2.2.1 == 3) then (lead_Lead_Hear.c18 k x1 b3 b5 b6 b7 b8) else (lead_Lead_Hear.c20 k b3 b6 b7)) else (lead_Lead_Hear.c20 k b3 b6 b7)) := by kernel_rfl
theorem lead_Lead_Hear.c18_eq (k) (x1) (b3) (b5) (b6) (b7) (b8) : lead_Lead_Hear.c18 (k + 1) x1 b3 b5 b6 b7 b8 = ((lead_Lead_Hear_1 k b3 b5).bind fun r0 => ((lead_Lead_looked k r0.1 x1 b8 b5).bind fun r1 => (some (r1.1, r1.2)))) := by kernel_rfl
theorem lead_Lead_Hear.c20_eq (k) (b3) (b6) (b7) : lead_Lead_Hear.c20 (k + 1) b3 b6 b7 = (some (b3, (Ty.zero (Ty.pair Ty_api_Record (Ty.pair Ty.bool (Ty.pair Ty.i64 Ty_api_Record)))))) := by kernel_rfl
theorem althinglaw14_awake_eq (k) : althinglaw14_awake k  = ((althinglaw14_some k 1).bind fun r0 => ((lead_Start k 1 0 [] r0).bind fun r1 => ((lead_Lead_Hear k r1.1 [r1.2.1.1] (2, (1, (0, ((Ty.zero Ty_api_Instance), r1.2.1.2.2.2))))).bind fun r2 => (bif (r1.2.2 == 0) then (bif (r1.2.1.2.2.1 == 1) then (bif (r2.1.2.2.1 == 4) then (bif (r2.2.2.2.1 == 5) then (bif r2.2.2.1 then (some (r2.2.1.2.1 == 3)) else (some false)) else (some false)) else (some false)) else (some false)) else (some false))))) := (althinglaw14_awake_raw k ).trans (by kernel_rfl)
theorem althinglaw14_given_eq (k) (a0) : althinglaw14_given k a0 = (althinglaw14_given.c3 k a0.2.2.2.2.2.2.2.2.2 (a0.2.2.2.2.2.2.2.2.2.length : Int) 0 (Ty.zero Ty_lead_Lead) [] (a0.1, (a0.2.1, (a0.2.2.1, (a0.2.2.2.1, (a0.2.2.2.2.1, (a0.2.2.2.2.2.1, (a0.2.2.2.2.2.2.1, (a0.2.2.2.2.2.2.2.1, (a0.2.2.2.2.2.2.2.2.1, [])))))))))) := (althinglaw14_given_raw k a0).trans (by kernel_rfl)
theorem althinglaw14_given.c3_eq (k) (x26) (x27) (x28) (b2) (l3_9) (b3) : althinglaw14_given.c3 (k + 1) x26 x27 x28 b2 l3_9 b3 = (bif (decide (x28 < x27)) then (bif (inI x28 x26.length) then (bif (decide ((l3_9.length + 1) < 4294967296)) then (althinglaw14_given.c3 k x26 x27 (IntKind.wrap IntKind.i64 (x28 + 1)) b2 (l3_9 ++ [((x26.getD (Int.toNat x28) (Ty.zero Ty_repair_Vote)).1, (x26.getD (Int.toNat x28) (Ty.zero Ty_repair_Vote)).2)]) b3) else none) else none) else (some (b3.1, (b3.2.1, (b3.2.2.1, (b3.2.2.2.1, (b3.2.2.2.2.1, (b3.2.2.2.2.2.1, (b3.2.2.2.2.2.2.1, (b3.2.2.2.2.2.2.2.1, (b3.2.2.2.2.2.2.2.2.1, l3_9))))))))))) := by kernel_rfl
theorem althingref05_Same_eq (k) (a0) (a1) : althingref05_Same k a0 a1 = (bif (a0.1 != a1.1) then (some false) else (bif (!(Ty.beq Ty_api_Instance a0.2.1 a1.2.1)) then (some false) else (bif (!(Ty.beq Ty_api_Instance a0.2.2.1 a1.2.2.1)) then (some false) else (bif (a0.2.2.2.1 != a1.2.2.2.1) then (some false) else (bif (!(Ty.beq Ty.bool a0.2.2.2.2.2.2 a1.2.2.2.2.2.2)) then (some false) else (bif ((a0.2.2.2.2.1.length : Int) != (a1.2.2.2.2.1.length : Int)) then (some false) else (bif ((a0.2.2.2.2.2.1.length : Int) != (a1.2.2.2.2.2.1.length : Int)) then (some false) else (althingref05_Same.c4 k 0 a0 a1)))))))) := (althingref05_Same_raw k a0 a1).trans (by kernel_rfl)
theorem althingref05_Same.c4_eq (k) (x5) (b2) (b3) : althingref05_Same.c4 (k + 1) x5 b2 b3 = (bif (decide (x5 < (b2.2.2.2.2.1.length : Int))) then (bif (inI x5 b2.2.2.2.2.1.length) then (bif (inI x5 b3.2.2.2.2.1.length) then (bif (!(Ty.beq Ty_api_Read (b2.2.2.2.2.1.getD (Int.toNat x5) (Ty.zero Ty_api_Read)) (b3.2.2.2.2.1.getD (Int.toNat x5) (Ty.zero Ty_api_Read)))) then (some false) else (althingref05_Same.c4 k (IntKind.wrap IntKind.i64 (x5 + 1)) b2 b3)) else none) else none) else (althingref05_Same.c9 k 0 b2 b3)) := by kernel_rfl
theorem althingref05_Same.c9_eq (k) (x6) (b2) (b3) : althingref05_Same.c9 (k + 1) x6 b2 b3 = (bif (decide (x6 < (b2.2.2.2.2.2.1.length : Int))) then (bif (inI x6 b2.2.2.2.2.2.1.length) then (bif (inI x6 b3.2.2.2.2.2.1.length) then (bif (!(Ty.beq Ty_api_Write (b2.2.2.2.2.2.1.getD (Int.toNat x6) (Ty.zero Ty_api_Write)) (b3.2.2.2.2.2.1.getD (Int.toNat x6) (Ty.zero Ty_api_Write)))) then (some false) else (althingref05_Same.c9 k (IntKind.wrap IntKind.i64 (x6 + 1)) b2 b3)) else none) else none) else (some true)) := by kernel_rfl
theorem althingref07_Same_eq (k) (a0) (a1) : althingref07_Same k a0 a1 = (bif (Ty.beq Ty_api_Instance a0.1 a1.1) then (bif (a0.2.1 == a1.2.1) then (bif (Ty.beq Ty_api_Instance a0.2.2.1 a1.2.2.1) then (bif (Ty.beq Ty_api_Instance a0.2.2.2.1 a1.2.2.2.1) then (bif (a0.2.2.2.2.2.1 == a1.2.2.2.2.2.1) then (bif (Ty.beq Ty_api_Deps a0.2.2.2.2.2.2.1 a1.2.2.2.2.2.2.1) then (bif (Ty.beq Ty.bool a0.2.2.2.2.2.2.2 a1.2.2.2.2.2.2.2) then ((althingref05_Same k a0.2.2.2.2.1 a1.2.2.2.2.1).bind fun r0 => (some r0)) else (some false)) else (some false)) else (some false)) else (some false)) else (some false)) else (some false)) else (some false)) := (althingref07_Same_raw k a0 a1).trans (by kernel_rfl)
theorem althingref01_Has_eq (k) (a0) (a1) : althingref01_Has k a0 a1 = (bif (decide (a1 < 0)) then (some false) else (bif (decide (a1 > 6)) then (some false) else (althingref01_Has.c5 k a1 (IntKind.wrap IntKind.u64 a0) 0))) := (althingref01_Has_raw k a0 a1).trans (by kernel_rfl)
theorem althingref01_Has.c5_eq (k) (x1) (x5) (x6) : althingref01_Has.c5 (k + 1) x1 x5 x6 = (bif (decide (x6 < x1)) then (althingref01_Has.c5 k x1 (IntKind.wrap IntKind.u64 (Int.tdiv x5 2)) (IntKind.wrap IntKind.i64 (x6 + 1))) else (some ((Int.tmod x5 2) == 1))) := by kernel_rfl
theorem althingref01_Members_eq (k) (a0) : althingref01_Members k a0 = (althingref01_Members.c3 k a0 [] 0) := (althingref01_Members_raw k a0).trans (by kernel_rfl)
theorem althingref01_Members.c3_eq (k) (x0) (x3) (x4) : althingref01_Members.c3 (k + 1) x0 x3 x4 = (bif (decide (x4 ≤ 6)) then ((althingref01_Has k x0 x4).bind fun r0 => (bif r0 then (bif (decide ((x3.length + 1) < 4294967296)) then (althingref01_Members.c3 k x0 (x3 ++ [x4]) (IntKind.wrap IntKind.i64 (x4 + 1))) else none) else (althingref01_Members.c3 k x0 x3 (IntKind.wrap IntKind.i64 (x4 + 1))))) else (some x3)) := by kernel_rfl
theorem althingref01_Count_eq (k) (a0) : althingref01_Count k a0 = ((althingref01_Members k a0).bind fun r0 => (some (r0.length : Int))) := (althingref01_Count_raw k a0).trans (by kernel_rfl)
theorem althingref01_Size_eq (k) (a0) : althingref01_Size k a0 = (bif (a0 == 1) then (some (IntKind.wrap IntKind.i64 ((IntKind.wrap IntKind.i64 (2 * a0)) + 1))) else (bif (a0 == 2) then (some (IntKind.wrap IntKind.i64 ((IntKind.wrap IntKind.i64 (2 * a0)) + 1))) else (bif (a0 == 3) then (some (IntKind.wrap IntKind.i64 ((IntKind.wrap IntKind.i64 (2 * a0)) + 1))) else (some 0)))) := (althingref01_Size_raw k a0).trans (by kernel_rfl)
theorem althingref01_Slow_eq (k) (a0) : althingref01_Slow k a0 = ((althingref01_Size k a0).bind fun r0 => (bif (r0 == 0) then (some 0) else (some (IntKind.wrap IntKind.i64 (a0 + 1))))) := (althingref01_Slow_raw k a0).trans (by kernel_rfl)
theorem althingref01_Major_eq (k) (a0) (a1) : althingref01_Major k a0 a1 = (althingref01_Major.c3 k a0 a1 0 0) := (althingref01_Major_raw k a0 a1).trans (by kernel_rfl)
theorem althingref01_Major.c3_eq (k) (x0) (x1) (x5) (x6) : althingref01_Major.c3 (k + 1) x0 x1 x5 x6 = ((althingref01_Size k x0).bind fun r0 => (bif (decide (x6 < r0)) then ((althingref01_Has k x1 x6).bind fun r1 => (bif r1 then (althingref01_Major.c3 k x0 x1 (IntKind.wrap IntKind.i64 (x5 + 1)) (IntKind.wrap IntKind.i64 (x6 + 1))) else (althingref01_Major.c3 k x0 x1 x5 (IntKind.wrap IntKind.i64 (x6 + 1))))) else ((althingref01_Size k x0).bind fun r1 => (bif (decide (r1 > 0)) then ((althingref01_Slow k x0).bind fun r2 => (some (decide (x5 ≥ r2)))) else (some false))))) := by kernel_rfl
theorem althinglaw14_LeadCommits_eq (k) (a0) (a1) (a2) : althinglaw14_LeadCommits k a0 a1 a2 = ((althinglaw14_few k a0 a1 a2).bind fun r0 => (bif (!r0) then ((althinglaw14_awake k).bind fun r1 => (some r1)) else ((althinglaw14_given k a0).bind fun r1 => ((lead_Lead_Hear k r1 a1 a2).bind fun r2 => (bif (r2.2.2.2.1 != 5) then ((althinglaw14_awake k).bind fun r3 => (some r3)) else (bif (r2.1.2.2.1 != 4) then (some false) else (bif (!r2.2.2.1) then (some false) else (bif (r2.2.1.2.1 != 3) then (some false) else ((althingref07_Same k r2.2.1 r2.2.2.2.2).bind fun r3 => (bif (!r3) then (some false) else (bif (!(Ty.beq Ty_api_Instance r2.2.1.2.2.2.1 a0.2.2.2.2.1)) then (some false) else (althinglaw14_LeadCommits.c8 k a0 a2 r2.1 r2.2)))))))))))) := (althinglaw14_LeadCommits_raw k a0 a1 a2).trans (by kernel_rfl)
theorem althinglaw14_LeadCommits.c8_eq (k) (b3) (b5) (b7) (b8) : althinglaw14_LeadCommits.c8 (k + 1) b3 b5 b7 b8 = (bif (b3.2.2.1 == 1) then (bif b3.2.2.2.2.2.2.1 then (bif (Ty.beq Ty_api_Instance b3.2.2.2.2.1 (Ty.zero (Ty.pair Ty.i64 Ty.i64))) then ((althingref01_Count k b7.2.2.2.1).bind fun r0 => (bif (decide (r0 ≥ (IntKind.wrap IntKind.i64 (2 * b3.1)))) then (bif (b5.2.2.2.2.2.2.2.2.2.1 == b3.2.2.2.2.2.1.2.2.2.2.2.1) then (bif (Ty.beq Ty_api_Deps b5.2.2.2.2.2.2.2.2.2.2.1 b3.2.2.2.2.2.1.2.2.2.2.2.2.1) then (bif (b8.1.2.2.2.2.2.1 == b3.2.2.2.2.2.1.2.2.2.2.2.1) then (bif (Ty.beq Ty_api_Deps b8.1.2.2.2.2.2.2.1 b3.2.2.2.2.2.1.2.2.2.2.2.2.1) then ((althinglaw14_awake k).bind fun r1 => (some r1)) else (some false)) else (some false)) else (some false)) else (some false)) else (some false))) else (some false)) else (some false)) else (bif (b3.2.2.1 == 2) then ((althingref01_Major k b3.1 b7.2.2.2.1).bind fun r0 => (bif r0 then (bif (b8.1.2.2.2.2.2.1 == b3.2.2.2.2.2.1.2.2.2.2.2.1) then (bif (Ty.beq Ty_api_Deps b8.1.2.2.2.2.2.2.1 b3.2.2.2.2.2.1.2.2.2.2.2.2.1) then ((althinglaw14_awake k).bind fun r1 => (some r1)) else (some false)) else (some false)) else (some false))) else (althinglaw14_LeadCommits.c15 k (b5.2.2.2.2.2.1 == 3) b3.2.2.2.2.2.2.2.2.2 (b3.2.2.2.2.2.2.2.2.2.length : Int) 0 b3))) := by kernel_rfl
theorem althinglaw14_LeadCommits.c15_eq (k) (x9) (x153) (x154) (x155) (b3) : althinglaw14_LeadCommits.c15 (k + 1) x9 x153 x154 x155 b3 = (bif (decide (x155 < x154)) then (bif (inI x155 x153.length) then (bif x9 then (althinglaw14_LeadCommits.c15 k true x153 x154 (IntKind.wrap IntKind.i64 (x155 + 1)) b3) else (althinglaw14_LeadCommits.c15 k ((x153.getD (Int.toNat x155) (Ty.zero Ty_repair_Vote)).2.2.1 == 3) x153 x154 (IntKind.wrap IntKind.i64 (x155 + 1)) b3)) else none) else (bif (b3.2.2.1 == 3) then (bif x9 then ((althinglaw14_awake k).bind fun r0 => (some r0)) else (some false)) else (some false))) := by kernel_rfl
theorem althinglaw14_view_eq (k) (a0) : althinglaw14_view k a0 = (althinglaw14_view.c3 k a0.2.2.2.2.2.2.2.2.2 (a0.2.2.2.2.2.2.2.2.2.length : Int) 0 (Ty.zero Ty_althingref14_Lead) [] (a0.1, (a0.2.1, (a0.2.2.1, (a0.2.2.2.1, (a0.2.2.2.2.1, (a0.2.2.2.2.2.1, (a0.2.2.2.2.2.2.1, (a0.2.2.2.2.2.2.2.1, (a0.2.2.2.2.2.2.2.2.1, [])))))))))) := (althinglaw14_view_raw k a0).trans (by kernel_rfl)
theorem althinglaw14_view.c3_eq (k) (x26) (x27) (x28) (b2) (l3_9) (b3) : althinglaw14_view.c3 (k + 1) x26 x27 x28 b2 l3_9 b3 = (bif (decide (x28 < x27)) then (bif (inI x28 x26.length) then (bif (decide ((l3_9.length + 1) < 4294967296)) then (althinglaw14_view.c3 k x26 x27 (IntKind.wrap IntKind.i64 (x28 + 1)) b2 (l3_9 ++ [((x26.getD (Int.toNat x28) (Ty.zero Ty_repair_Vote)).1, (x26.getD (Int.toNat x28) (Ty.zero Ty_repair_Vote)).2)]) b3) else none) else none) else (some (b3.1, (b3.2.1, (b3.2.2.1, (b3.2.2.2.1, (b3.2.2.2.2.1, (b3.2.2.2.2.2.1, (b3.2.2.2.2.2.2.1, (b3.2.2.2.2.2.2.2.1, (b3.2.2.2.2.2.2.2.2.1, l3_9))))))))))) := by kernel_rfl
theorem althingref14_Same_eq (k) (a0) (a1) : althingref14_Same k a0 a1 = (bif (a0.1 != a1.1) then (some false) else (bif (a0.2.1 != a1.2.1) then (some false) else (bif (a0.2.2.1 != a1.2.2.1) then (some false) else (bif (a0.2.2.2.1 != a1.2.2.2.1) then (some false) else (bif (!(Ty.beq Ty_api_Instance a0.2.2.2.2.1 a1.2.2.2.2.1)) then (some false) else (bif (!(Ty.beq Ty.bool a0.2.2.2.2.2.2.1 a1.2.2.2.2.2.2.1)) then (some false) else (bif (a0.2.2.2.2.2.2.2.1 != a1.2.2.2.2.2.2.2.1) then (some false) else (bif (!(Ty.beq Ty_api_Deps a0.2.2.2.2.2.2.2.2.1 a1.2.2.2.2.2.2.2.2.1)) then (some false) else (bif ((a0.2.2.2.2.2.2.2.2.2.length : Int) != (a1.2.2.2.2.2.2.2.2.2.length : Int)) then (some false) else (althingref14_Same.c4 k 0 a0 a1)))))))))) := (althingref14_Same_raw k a0 a1).trans (by kernel_rfl)
theorem althingref14_Same.c4_eq (k) (x5) (b2) (b3) : althingref14_Same.c4 (k + 1) x5 b2 b3 = (bif (decide (x5 < (b2.2.2.2.2.2.2.2.2.2.length : Int))) then (bif (inI x5 b2.2.2.2.2.2.2.2.2.2.length) then (bif (inI x5 b3.2.2.2.2.2.2.2.2.2.length) then (bif ((b2.2.2.2.2.2.2.2.2.2.getD (Int.toNat x5) (Ty.zero Ty_repair_Vote)).1 != (b3.2.2.2.2.2.2.2.2.2.getD (Int.toNat x5) (Ty.zero Ty_repair_Vote)).1) then (some false) else (bif (inI x5 b2.2.2.2.2.2.2.2.2.2.length) then (bif (inI x5 b3.2.2.2.2.2.2.2.2.2.length) then ((althingref07_Same k (b2.2.2.2.2.2.2.2.2.2.getD (Int.toNat x5) (Ty.zero Ty_repair_Vote)).2 (b3.2.2.2.2.2.2.2.2.2.getD (Int.toNat x5) (Ty.zero Ty_repair_Vote)).2).bind fun r0 => (bif (!r0) then (some false) else (althingref14_Same.c4 k (IntKind.wrap IntKind.i64 (x5 + 1)) b2 b3))) else none) else none)) else none) else none) else ((althingref07_Same k b2.2.2.2.2.2.1 b3.2.2.2.2.2.1).bind fun r0 => (some r0))) := by kernel_rfl
theorem althinglaw14_LeadOnce_eq (k) (a0) (a1) (a2) : althinglaw14_LeadOnce k a0 a1 a2 = ((althinglaw14_few k a0 a1 a2).bind fun r0 => (bif (!r0) then ((althinglaw14_awake k).bind fun r1 => (some r1)) else ((althinglaw14_given k a0).bind fun r1 => ((lead_Lead_Hear k r1 a1 a2).bind fun r2 => (bif r2.2.2.1 then ((althinglaw14_awake k).bind fun r3 => (some r3)) else (bif (r2.1.2.2.1 != a0.2.2.1) then ((althinglaw14_awake k).bind fun r3 => (some r3)) else (althinglaw14_LeadOnce.c6 k a1 a2 r2.1))))))) := (althinglaw14_LeadOnce_raw k a0 a1 a2).trans (by kernel_rfl)
theorem althinglaw14_LeadOnce.c6_eq (k) (x1) (b5) (b7) : althinglaw14_LeadOnce.c6 (k + 1) x1 b5 b7 = ((lead_Lead_Hear k b7 x1 b5).bind fun r0 => ((althinglaw14_view k b7).bind fun r1 => ((althinglaw14_view k r0.1).bind fun r2 => ((althingref14_Same k r1 r2).bind fun r3 => (bif r3 then (bif (!r0.2.2.1) then (bif (r0.2.2.2.1 == 0) then ((althinglaw14_awake k).bind fun r4 => (some r4)) else (some false)) else (some false)) else (some false)))))) := by kernel_rfl
theorem althingref02_Order_eq (k) (a0) (a1) (a2) (a3) : althingref02_Order k a0 a1 a2 a3 = (bif (decide (a0 < a2)) then (some (-1)) else (bif (decide (a0 > a2)) then (some 1) else (bif (decide (a1 < a3)) then (some (-1)) else (bif (decide (a1 > a3)) then (some 1) else (some 0))))) := (althingref02_Order_raw k a0 a1 a2 a3).trans (by kernel_rfl)
theorem althingref02_Lower_eq (k) (a0) (a1) : althingref02_Lower k a0 a1 = ((althingref02_Order k a0.1 a0.2 a1.1 a1.2).bind fun r0 => (some (decide (r0 < 0)))) := (althingref02_Lower_raw k a0 a1).trans (by kernel_rfl)
theorem althinglaw14_LeadKeeps_eq (k) (a0) (a1) (a2) : althinglaw14_LeadKeeps k a0 a1 a2 = ((althinglaw14_few k a0 a1 a2).bind fun r0 => (bif (!r0) then ((althinglaw14_awake k).bind fun r1 => (some r1)) else ((althinglaw14_given k a0).bind fun r1 => ((lead_Lead_Hear k r1 a1 a2).bind fun r2 => (bif (!r2.2.2.1) then (bif (r2.2.2.2.1 == 0) then ((althinglaw14_awake k).bind fun r3 => (some r3)) else (some false)) else (bif (Ty.beq Ty_api_Instance r2.2.1.1 a0.2.2.2.2.2.1.1) then (bif (Ty.beq Ty_api_Instance r2.2.2.2.2.1 a0.2.2.2.2.2.1.1) then ((althingref02_Lower k r2.2.1.2.2.1 a0.2.2.2.2.1).bind fun r3 => (bif (!r3) then (bif (Ty.beq Ty_api_Instance r2.2.1.2.2.2.1 a0.2.2.2.2.1) then (bif (decide (r2.2.2.2.1 > 0)) then ((althinglaw14_awake k).bind fun r4 => (some r4)) else (some false)) else (some false)) else (some false))) else (some false)) else (some false))))))) := (althinglaw14_LeadKeeps_raw k a0 a1 a2).trans (by kernel_rfl)
theorem lead_Lead_Push_eq (k) (a0) (a1) : lead_Lead_Push k a0 a1 = (bif (a0.2.2.1 == 4) then (lead_Lead_Push.c2 k a0 (Ty.zero Ty_lead_Lead) (Ty.zero Ty_lead_Step)) else ((accept_Know k a1 a0.2.2.2.2.2.1.1).bind fun r0 => ((lead_Lead_lost k a0 r0).bind fun r1 => (bif r1 then (lead_Lead_Push.c2 k a0 (Ty.zero Ty_lead_Lead) (Ty.zero Ty_lead_Step)) else (lead_Lead_Push.c4 k a0 (Ty.zero Ty_lead_Lead) (Ty.zero Ty_lead_Step)))))) := (lead_Lead_Push_raw k a0 a1).trans (by kernel_rfl)
theorem lead_Lead_Push.c2_eq (k) (b2) (b4) (b5) : lead_Lead_Push.c2 (k + 1) b2 b4 b5 = (some ((b2.1, (b2.2.1, (4, b2.2.2.2))), (Ty.zero (Ty.pair Ty_api_Record (Ty.pair Ty.bool (Ty.pair Ty.i64 Ty_api_Record)))))) := by kernel_rfl
theorem lead_Lead_Push.c4_eq (k) (b2) (b4) (b5) : lead_Lead_Push.c4 (k + 1) b2 b4 b5 = (bif (b2.2.2.1 == 1) then ((quorum_Major k b2.1 b2.2.2.2.1).bind fun r0 => (bif r0 then (lead_Lead_Push.c5 k b2 b4 b5) else (lead_Lead_Push.c6 k b2 b4 b5))) else (lead_Lead_Push.c6 k b2 b4 b5)) := by kernel_rfl
theorem lead_Lead_Push.c5_eq (k) (b2) (b4) (b5) : lead_Lead_Push.c5 (k + 1) b2 b4 b5 = ((lead_Lead_all k b2).bind fun r0 => ((lead_Lead_put k b2 r0).bind fun r1 => (some (r1.1, r1.2)))) := by kernel_rfl
theorem lead_Lead_Push.c6_eq (k) (b2) (b4) (b5) : lead_Lead_Push.c6 (k + 1) b2 b4 b5 = (bif (b2.2.2.1 == 1) then ((lead_own k b2.2.2.2.2.2.1).bind fun r0 => (some (b2, ((Ty.zero Ty_api_Record), (false, (1, r0)))))) else (bif (b2.2.2.1 == 2) then ((lead_own k b2.2.2.2.2.2.1).bind fun r0 => (some (b2, ((Ty.zero Ty_api_Record), (false, (3, r0)))))) else (bif ((b2.2.2.2.2.2.2.2.2.2.length : Int) == 0) then (some (b2, (Ty.zero (Ty.pair Ty_api_Record (Ty.pair Ty.bool (Ty.pair Ty.i64 Ty_api_Record)))))) else (bif (inI 0 b2.2.2.2.2.2.2.2.2.2.length) then ((lead_own k (b2.2.2.2.2.2.2.2.2.2.getD (Int.toNat 0) (Ty.zero Ty_repair_Vote)).2).bind fun r0 => (some (b2, ((Ty.zero Ty_api_Record), (false, (6, r0)))))) else none)))) := by kernel_rfl
theorem althingref14_Gone_eq (k) (a0) (a1) : althingref14_Gone k a0 a1 = (bif (a1.2.1 == 3) then (some true) else ((althingref02_Lower k a0.2.2.2.2.1 a1.2.2.1).bind fun r0 => (some r0))) := (althingref14_Gone_raw k a0 a1).trans (by kernel_rfl)
theorem althingref02_RightBallot_eq (k) (a0) : althingref02_RightBallot k a0 = (bif (decide (a0.1 ≥ 0)) then (bif (decide (a0.1 ≤ 1099511627776)) then (bif (decide (a0.2 ≥ 0)) then (some (decide (a0.2 ≤ 6))) else (some false)) else (some false)) else (some false)) := (althingref02_RightBallot_raw k a0).trans (by kernel_rfl)
theorem althingref02_RightInst_eq (k) (a0) : althingref02_RightInst k a0 = (bif (decide (a0.1 ≥ 0)) then (bif (decide (a0.1 ≤ 6)) then (bif (decide (a0.2 ≥ 1)) then (some (decide (a0.2 ≤ 1048576))) else (some false)) else (some false)) else (some false)) := (althingref02_RightInst_raw k a0).trans (by kernel_rfl)
theorem althingref02_RightTxn_eq (k) (a0) : althingref02_RightTxn k a0 = (bif (decide (a0.1 ≥ 0)) then (bif (decide (a0.1 ≤ 3)) then (bif (decide (a0.2 ≥ 1)) then (some (decide (a0.2 ≤ 1099511627776))) else (some false)) else (some false)) else (some false)) := (althingref02_RightTxn_raw k a0).trans (by kernel_rfl)
theorem althingref02_RightStamp_eq (k) (a0) : althingref02_RightStamp k a0 = (bif (decide (a0.1 ≥ 0)) then (bif (decide (a0.1 ≤ 1099511627776)) then (bif (decide (a0.2 ≥ 0)) then (some (decide (a0.2 ≤ 3))) else (some false)) else (some false)) else (some false)) := (althingref02_RightStamp_raw k a0).trans (by kernel_rfl)
theorem althingref02_Before_eq (k) (a0) (a1) : althingref02_Before k a0 a1 = ((althingref02_Order k a0.1 a0.2 a1.1 a1.2).bind fun r0 => (some (decide (r0 < 0)))) := (althingref02_Before_raw k a0 a1).trans (by kernel_rfl)
theorem althingref04_Right_eq (k) (a0) : althingref04_Right k a0 = (bif (decide ((a0.size : Int) > 0)) then (some (decide ((a0.size : Int) < 9))) else (some false)) := (althingref04_Right_raw k a0).trans (by kernel_rfl)
theorem althingref04_Before_eq (k) (a0) (a1) : althingref04_Before k a0 a1 = (althingref04_Before.c2 k a0 a1 0) := (althingref04_Before_raw k a0 a1).trans (by kernel_rfl)
theorem althingref04_Before.c2_eq (k) (x0) (x1) (x5) : althingref04_Before.c2 (k + 1) x0 x1 x5 = (bif (decide (x5 < (x1.size : Int))) then (bif (x5 == (x0.size : Int)) then (some true) else (bif (inI x5 x0.size) then (bif (inI x5 x1.size) then (bif ((strAt x0 x5) != (strAt x1 x5)) then (bif (inI x5 x0.size) then (bif (inI x5 x1.size) then (some (decide ((strAt x0 x5) < (strAt x1 x5)))) else none) else none) else (althingref04_Before.c2 k x0 x1 (IntKind.wrap IntKind.i64 (x5 + 1)))) else none) else none)) else (some false)) := by kernel_rfl
theorem althingref04_Rights_eq (k) (a0) : althingref04_Rights k a0 = (althingref04_Rights.c2 k a0 0) := (althingref04_Rights_raw k a0).trans (by kernel_rfl)
theorem althingref04_Rights.c2_eq (k) (x0) (x3) : althingref04_Rights.c2 (k + 1) x0 x3 = (bif (decide (x3 < (x0.length : Int))) then (bif (inI x3 x0.length) then ((althingref04_Right k (x0.getD (Int.toNat x3) (⟨#[]⟩ : ByteArray))).bind fun r0 => (bif (!r0) then (some false) else (bif (decide (x3 > 0)) then (bif (inI (IntKind.wrap IntKind.i64 (x3 - 1)) x0.length) then (bif (inI x3 x0.length) then ((althingref04_Before k (x0.getD (Int.toNat (IntKind.wrap IntKind.i64 (x3 - 1))) (⟨#[]⟩ : ByteArray)) (x0.getD (Int.toNat x3) (⟨#[]⟩ : ByteArray))).bind fun r1 => (bif (!r1) then (some false) else (althingref04_Rights.c2 k x0 (IntKind.wrap IntKind.i64 (x3 + 1))))) else none) else none) else (althingref04_Rights.c2 k x0 (IntKind.wrap IntKind.i64 (x3 + 1)))))) else none) else (some (decide ((x0.length : Int) ≤ 8)))) := by kernel_rfl
theorem althingref05_Right_eq (k) (a0) : althingref05_Right k a0 = (bif (a0.1 == 0) then (bif (Ty.beq Ty_api_Instance a0.2.1 (Ty.zero (Ty.pair Ty.i64 Ty.i64))) then (bif (Ty.beq Ty_api_Instance a0.2.2.1 (Ty.zero (Ty.pair Ty.i64 Ty.i64))) then (bif (a0.2.2.2.1 == 0) then (bif ((a0.2.2.2.2.1.length : Int) == 0) then (bif ((a0.2.2.2.2.2.1.length : Int) == 0) then (some (!a0.2.2.2.2.2.2)) else (some false)) else (some false)) else (some false)) else (some false)) else (some false)) else (bif (a0.1 != 1) then (bif (a0.1 != 2) then (some false) else (bif (a0.1 == 1) then (bif a0.2.2.2.2.2.2 then (some false) else (althingref05_Right.c5 k a0)) else (althingref05_Right.c5 k a0))) else (bif (a0.1 == 1) then (bif a0.2.2.2.2.2.2 then (some false) else (althingref05_Right.c5 k a0)) else (althingref05_Right.c5 k a0)))) := (althingref05_Right_raw k a0).trans (by kernel_rfl)
theorem althingref05_Right.c5_eq (k) (b1) : althingref05_Right.c5 (k + 1) b1 = ((althingref02_RightTxn k b1.2.1).bind fun r0 => (bif (!r0) then (some false) else ((althingref02_RightStamp k b1.2.2.1).bind fun r1 => (bif (!r1) then (some false) else (bif (b1.2.2.1.1 == 0) then (some false) else (bif (b1.2.2.1.2 != b1.2.1.1) then (some false) else (althingref05_Right.c7 k b1))))))) := by kernel_rfl
theorem althingref05_Right.c7_eq (k) (b1) : althingref05_Right.c7 (k + 1) b1 = (bif (decide (b1.2.2.2.1 ≤ 0)) then (some false) else (bif (decide (b1.2.2.2.1 ≥ 16)) then (some false) else (bif ((b1.2.2.2.2.1.length : Int) == 0) then (bif ((b1.2.2.2.2.2.1.length : Int) == 0) then (some false) else (althingref05_Right.c11 k [] 0 b1)) else (althingref05_Right.c11 k [] 0 b1)))) := by kernel_rfl
theorem althingref05_Right.c11_eq (k) (x3) (x4) (b1) : althingref05_Right.c11 (k + 1) x3 x4 b1 = (bif (decide (x4 < (b1.2.2.2.2.1.length : Int))) then (bif (inI x4 b1.2.2.2.2.1.length) then ((althingref02_RightStamp k (b1.2.2.2.2.1.getD (Int.toNat x4) (Ty.zero Ty_api_Read)).2).bind fun r0 => (bif (!r0) then (some false) else (bif (inI x4 b1.2.2.2.2.1.length) then ((althingref02_Before k (b1.2.2.2.2.1.getD (Int.toNat x4) (Ty.zero Ty_api_Read)).2 b1.2.2.1).bind fun r1 => (bif (!r1) then (some false) else (althingref05_Right.c15 k x3 x4 b1))) else none))) else none) else (althingref05_Right.c18 k x3 [] 0 b1)) := by kernel_rfl
theorem althingref05_Right.c15_eq (k) (x3) (x4) (b1) : althingref05_Right.c15 (k + 1) x3 x4 b1 = (bif (inI x4 b1.2.2.2.2.1.length) then (bif (decide ((x3.length + 1) < 4294967296)) then (althingref05_Right.c11 k (x3 ++ [(b1.2.2.2.2.1.getD (Int.toNat x4) (Ty.zero Ty_api_Read)).1]) (IntKind.wrap IntKind.i64 (x4 + 1)) b1) else none) else none) := by kernel_rfl
theorem althingref05_Right.c18_eq (k) (x3) (x5) (x6) (b1) : althingref05_Right.c18 (k + 1) x3 x5 x6 b1 = (bif (decide (x6 < (b1.2.2.2.2.2.1.length : Int))) then (bif (inI x6 b1.2.2.2.2.2.1.length) then (bif (decide (((b1.2.2.2.2.2.1.getD (Int.toNat x6) (Ty.zero Ty_api_Write)).2.size : Int) > 8)) then (some false) else (bif (inI x6 b1.2.2.2.2.2.1.length) then (bif (decide ((x5.length + 1) < 4294967296)) then (althingref05_Right.c18 k x3 (x5 ++ [(b1.2.2.2.2.2.1.getD (Int.toNat x6) (Ty.zero Ty_api_Write)).1]) (IntKind.wrap IntKind.i64 (x6 + 1)) b1) else none) else none)) else none) else ((althingref04_Rights k x3).bind fun r0 => (bif r0 then ((althingref04_Rights k x5).bind fun r1 => (some r1)) else (some false)))) := by kernel_rfl
theorem althingref03_Right_eq (k) (a0) : althingref03_Right k a0 = (althingref03_Right.c2 k 0 a0) := (althingref03_Right_raw k a0).trans (by kernel_rfl)
theorem althingref03_Right.c2_eq (k) (x3) (b1) : althingref03_Right.c2 (k + 1) x3 b1 = (bif (decide (x3 < 7)) then (bif (inI x3 7) then (bif (decide ((b1.getD (Int.toNat x3) 0) < 0)) then (some false) else (bif (inI x3 7) then (bif (decide ((b1.getD (Int.toNat x3) 0) > 1048576)) then (some false) else (althingref03_Right.c2 k (IntKind.wrap IntKind.i64 (x3 + 1)) b1)) else none)) else none) else (some true)) := by kernel_rfl
theorem althingref07_RightRecord_eq (k) (a0) : althingref07_RightRecord k a0 = ((althingref02_RightInst k a0.1).bind fun r0 => (bif (!r0) then (some false) else ((althingref02_RightBallot k a0.2.2.1).bind fun r1 => (bif (!r1) then (some false) else ((althingref02_RightBallot k a0.2.2.2.1).bind fun r2 => (bif (!r2) then (some false) else ((althingref02_Lower k a0.2.2.1 a0.2.2.2.1).bind fun r3 => (bif r3 then (some false) else (bif a0.2.2.2.2.2.2.2 then (bif (a0.2.1 != 1) then (some false) else (althingref07_RightRecord.c3 k a0)) else (althingref07_RightRecord.c3 k a0)))))))))) := (althingref07_RightRecord_raw k a0).trans (by kernel_rfl)
theorem althingref07_RightRecord.c3_eq (k) (b1) : althingref07_RightRecord.c3 (k + 1) b1 = (bif (b1.2.1 == 0) then (bif (Ty.beq Ty_api_Instance b1.2.2.2.1 (Ty.zero (Ty.pair Ty.i64 Ty.i64))) then (bif (b1.2.2.2.2.2.1 == 0) then (bif (Ty.beq Ty_api_Deps b1.2.2.2.2.2.2.1 [0, 0, 0, 0, 0, 0, 0]) then ((althingref05_Same k b1.2.2.2.2.1 (Ty.zero (Ty.pair Ty.i64 (Ty.pair Ty_api_Instance (Ty.pair Ty_api_Instance (Ty.pair Ty.i64 (Ty.pair (Ty.sl 96 Ty_api_Read) (Ty.pair (Ty.sl 98 Ty_api_Write) Ty.bool)))))))).bind fun r0 => (some r0)) else (some false)) else (some false)) else (some false)) else (bif (decide (b1.2.1 ≥ 1)) then (bif (decide (b1.2.1 ≤ 3)) then ((althingref05_Right k b1.2.2.2.2.1).bind fun r0 => (bif r0 then (bif (decide (b1.2.2.2.2.2.1 ≥ 1)) then (bif (decide (b1.2.2.2.2.2.1 ≤ 1099511627776)) then ((althingref03_Right k b1.2.2.2.2.2.2.1).bind fun r1 => (some r1)) else (some false)) else (some false)) else (some false))) else (some false)) else (some false))) := by kernel_rfl
theorem althingref07_RightMessage_eq (k) (a0) : althingref07_RightMessage k a0 = (bif (decide (a0.1 ≥ 1)) then (bif (decide (a0.1 ≤ 8)) then (bif (decide (a0.2.1 ≥ 0)) then (bif (decide (a0.2.1 ≤ 6)) then (bif (decide (a0.2.2.1 ≥ 0)) then (bif (decide (a0.2.2.1 ≤ 6)) then ((althingref02_RightBallot k a0.2.2.2.1).bind fun r0 => (bif r0 then ((althingref07_RightRecord k a0.2.2.2.2).bind fun r1 => (some r1)) else (some false))) else (some false)) else (some false)) else (some false)) else (some false)) else (some false)) else (some false)) := (althingref07_RightMessage_raw k a0).trans (by kernel_rfl)
theorem althinglaw14_LeadYields_eq (k) (a0) (a1) (a2) : althinglaw14_LeadYields k a0 a1 a2 = ((althinglaw14_few k a0 a1 a2).bind fun r0 => (bif (!r0) then ((althinglaw14_awake k).bind fun r1 => (some r1)) else ((accept_Know k a1 a0.2.2.2.2.2.1.1).bind fun r1 => ((althinglaw14_given k a0).bind fun r2 => ((lead_Lead_Push k r2 a1).bind fun r3 => ((althingref14_Gone k a0 r1).bind fun r4 => (bif r4 then (althinglaw14_LeadYields.c6 k a1 a0 a2 r1 r3.1 r3.2) else (bif (a0.2.2.1 == 4) then (althinglaw14_LeadYields.c6 k a1 a0 a2 r1 r3.1 r3.2) else (althinglaw14_LeadYields.c8 k a1 a0 a2 r1))))))))) := (althinglaw14_LeadYields_raw k a0 a1 a2).trans (by kernel_rfl)
theorem althinglaw14_LeadYields.c6_eq (k) (x1) (b3) (b5) (b7) (b8) (b9) : althinglaw14_LeadYields.c6 (k + 1) x1 b3 b5 b7 b8 b9 = (bif (b8.2.2.1 != 4) then (some false) else (bif b9.2.1 then (some false) else (bif (b9.2.2.1 != 0) then (some false) else (althinglaw14_LeadYields.c8 k x1 b3 b5 b7)))) := by kernel_rfl
theorem althinglaw14_LeadYields.c8_eq (k) (x1) (b3) (b5) (b7) : althinglaw14_LeadYields.c8 (k + 1) x1 b3 b5 b7 = ((althinglaw14_given k b3).bind fun r0 => ((lead_Lead_Hear k r0 x1 b5).bind fun r1 => ((althingref14_Gone k b3 b7).bind fun r2 => (bif r2 then (althinglaw14_LeadYields.c10 k true b3 b5 r1.1 r1.2) else (bif (b5.1 == 5) then (althinglaw14_LeadYields.c10 k true b3 b5 r1.1 r1.2) else (bif (b5.1 == 8) then ((althingref02_Lower k b3.2.2.2.2.1 b5.2.2.2.1).bind fun r3 => (althinglaw14_LeadYields.c10 k r3 b3 b5 r1.1 r1.2)) else (althinglaw14_LeadYields.c10 k false b3 b5 r1.1 r1.2))))))) := by kernel_rfl
theorem althinglaw14_LeadYields.c10_eq (k) (x12) (b3) (b5) (b10) (b11) : althinglaw14_LeadYields.c10 (k + 1) x12 b3 b5 b10 b11 = ((althingref07_RightMessage k b5).bind fun r0 => (bif r0 then (bif (b5.2.2.1 == b3.2.1) then (bif (b5.2.1 != b3.2.1) then (bif (decide (b5.2.1 ≥ 0)) then ((althingref01_Size k b3.1).bind fun r1 => (bif (decide (b5.2.1 < r1)) then (althinglaw14_LeadYields.c11 k x12 (Ty.beq Ty_api_Instance b5.2.2.2.2.1 b3.2.2.2.2.2.1.1) b3 b10 b11) else (althinglaw14_LeadYields.c11 k x12 false b3 b10 b11))) else (althinglaw14_LeadYields.c11 k x12 false b3 b10 b11)) else (althinglaw14_LeadYields.c11 k x12 false b3 b10 b11)) else (althinglaw14_LeadYields.c11 k x12 false b3 b10 b11)) else (althinglaw14_LeadYields.c11 k x12 false b3 b10 b11))) := by kernel_rfl
theorem althinglaw14_LeadYields.c11_eq (k) (x12) (x13) (b3) (b10) (b11) : althinglaw14_LeadYields.c11 (k + 1) x12 x13 b3 b10 b11 = (bif (!x13) then (althinglaw14_LeadYields.c12 k b3 b10 b11) else (bif (b3.2.2.1 == 4) then (althinglaw14_LeadYields.c12 k b3 b10 b11) else (althinglaw14_LeadYields.c13 k x12 b10 b11))) := by kernel_rfl
theorem althinglaw14_LeadYields.c12_eq (k) (b3) (b10) (b11) : althinglaw14_LeadYields.c12 (k + 1) b3 b10 b11 = ((althinglaw14_view k b10).bind fun r0 => ((althingref14_Same k r0 b3).bind fun r1 => (bif r1 then (bif (!b11.2.1) then (bif (b11.2.2.1 == 0) then ((althinglaw14_awake k).bind fun r2 => (some r2)) else (some false)) else (some false)) else (some false)))) := by kernel_rfl
theorem althinglaw14_LeadYields.c13_eq (k) (x12) (b10) (b11) : althinglaw14_LeadYields.c13 (k + 1) x12 b10 b11 = (bif (!x12) then ((althinglaw14_awake k).bind fun r0 => (some r0)) else (bif (b10.2.2.1 == 4) then (bif (!b11.2.1) then (bif (b11.2.2.1 == 0) then ((althinglaw14_awake k).bind fun r0 => (some r0)) else (some false)) else (some false)) else (some false))) := by kernel_rfl
theorem althingref14_is_eq (k) (a0) (a1) : althingref14_is k a0 a1 = (bif (decide (a1 ≥ 0)) then ((althingref01_Size k a0).bind fun r0 => (some (decide (a1 < r0)))) else (some false)) := (althingref14_is_raw k a0 a1).trans (by kernel_rfl)
theorem althingref11_Slot_eq (k) (a0) (a1) : althingref11_Slot k a0 a1 = (althingref11_Slot.c3 k a0 a1 0 0) := (althingref11_Slot_raw k a0 a1).trans (by kernel_rfl)
theorem althingref11_Slot.c3_eq (k) (x0) (x1) (x5) (x6) : althingref11_Slot.c3 (k + 1) x0 x1 x5 x6 = (bif (decide (x6 < (x0.length : Int))) then (bif (inI x6 x0.length) then (bif ((x0.getD (Int.toNat x6) (Ty.zero Ty_api_Record)).1.1 == x1) then (bif (inI x6 x0.length) then (bif (decide ((x0.getD (Int.toNat x6) (Ty.zero Ty_api_Record)).1.2 > x5)) then (althingref11_Slot.c6 k x0 x1 x6) else (althingref11_Slot.c4 k x0 x1 x5 x6)) else none) else (althingref11_Slot.c4 k x0 x1 x5 x6)) else none) else (bif (decide (x5 > 1048576)) then (some (IntKind.wrap IntKind.i64 (1048576 + 1))) else (some (IntKind.wrap IntKind.i64 (x5 + 1))))) := by kernel_rfl
theorem althingref11_Slot.c6_eq (k) (x0) (x1) (x6) : althingref11_Slot.c6 (k + 1) x0 x1 x6 = (bif (inI x6 x0.length) then (althingref11_Slot.c4 k x0 x1 (x0.getD (Int.toNat x6) (Ty.zero Ty_api_Record)).1.2 x6) else none) := by kernel_rfl
theorem althingref11_Slot.c4_eq (k) (x0) (x1) (x5) (x6) : althingref11_Slot.c4 (k + 1) x0 x1 x5 x6 = (althingref11_Slot.c3 k x0 x1 x5 (IntKind.wrap IntKind.i64 (x6 + 1))) := by kernel_rfl
theorem althingref11_Last_eq (k) (a0) (a1) : althingref11_Last k a0 a1 = (althingref11_Last.c2 k a0 a1 (IntKind.wrap IntKind.i64 (a1 + 1))) := (althingref11_Last_raw k a0 a1).trans (by kernel_rfl)
theorem althingref11_Last.c2_eq (k) (x0) (x1) (x5) : althingref11_Last.c2 (k + 1) x0 x1 x5 = (bif (decide (x5 < (x0.length : Int))) then (bif (inI x5 x0.length) then (bif (inI x1 x0.length) then (bif (Ty.beq Ty_api_Instance (x0.getD (Int.toNat x5) (Ty.zero Ty_api_Record)).1 (x0.getD (Int.toNat x1) (Ty.zero Ty_api_Record)).1) then (some false) else (althingref11_Last.c2 k x0 x1 (IntKind.wrap IntKind.i64 (x5 + 1)))) else none) else none) else (some true)) := by kernel_rfl
theorem althingref05_Keys_eq (k) (a0) : althingref05_Keys k a0 = (althingref05_Keys.c3 k [] 0 a0) := (althingref05_Keys_raw k a0).trans (by kernel_rfl)
theorem althingref05_Keys.c3_eq (k) (x3) (x4) (b1) : althingref05_Keys.c3 (k + 1) x3 x4 b1 = (bif (decide (x4 < (b1.2.2.2.2.1.length : Int))) then (bif (inI x4 b1.2.2.2.2.1.length) then (bif (decide ((x3.length + 1) < 4294967296)) then (althingref05_Keys.c3 k (x3 ++ [(b1.2.2.2.2.1.getD (Int.toNat x4) (Ty.zero Ty_api_Read)).1]) (IntKind.wrap IntKind.i64 (x4 + 1)) b1) else none) else none) else (althingref05_Keys.c7 k x3 0 b1)) := by kernel_rfl
theorem althingref05_Keys.c7_eq (k) (x3) (x5) (b1) : althingref05_Keys.c7 (k + 1) x3 x5 b1 = (bif (decide (x5 < (b1.2.2.2.2.2.1.length : Int))) then (bif (inI x5 b1.2.2.2.2.2.1.length) then (bif (decide ((x3.length + 1) < 4294967296)) then (althingref05_Keys.c7 k (x3 ++ [(b1.2.2.2.2.2.1.getD (Int.toNat x5) (Ty.zero Ty_api_Write)).1]) (IntKind.wrap IntKind.i64 (x5 + 1)) b1) else none) else none) else ((althingref04_Join k x3 []).bind fun r0 => (some r0))) := by kernel_rfl
theorem althingref04_In_eq (k) (a0) (a1) : althingref04_In k a0 a1 = (althingref04_In.c2 k a0 a1 0) := (althingref04_In_raw k a0 a1).trans (by kernel_rfl)
theorem althingref04_In.c2_eq (k) (x0) (x1) (x5) : althingref04_In.c2 (k + 1) x0 x1 x5 = (bif (decide (x5 < (x0.length : Int))) then (bif (inI x5 x0.length) then (bif (decide ((x0.getD (Int.toNat x5) (⟨#[]⟩ : ByteArray)) = x1)) then (some true) else (althingref04_In.c2 k x0 x1 (IntKind.wrap IntKind.i64 (x5 + 1)))) else none) else (some false)) := by kernel_rfl
theorem althingref05_Interfere_eq (k) (a0) (a1) : althingref05_Interfere k a0 a1 = (bif (a0.1 == 0) then (some false) else (bif (a1.1 == 0) then (some false) else (althingref05_Interfere.c3 k a0 a1))) := (althingref05_Interfere_raw k a0 a1).trans (by kernel_rfl)
theorem althingref05_Interfere.c3_eq (k) (b2) (b3) : althingref05_Interfere.c3 (k + 1) b2 b3 = (bif (Ty.beq Ty_api_Instance b2.2.1 b3.2.1) then (some true) else ((althingref05_Keys k b2).bind fun r0 => ((althingref05_Keys k b3).bind fun r1 => (althingref05_Interfere.c8 k r0 r1 0)))) := by kernel_rfl
theorem althingref05_Interfere.c8_eq (k) (x5) (x6) (x7) : althingref05_Interfere.c8 (k + 1) x5 x6 x7 = (bif (decide (x7 < (x5.length : Int))) then (bif (inI x7 x5.length) then ((althingref04_In k x6 (x5.getD (Int.toNat x7) (⟨#[]⟩ : ByteArray))).bind fun r0 => (bif r0 then (some true) else (althingref05_Interfere.c8 k x5 x6 (IntKind.wrap IntKind.i64 (x7 + 1))))) else none) else (some false)) := by kernel_rfl
theorem althingref11_Against_eq (k) (a0) (a1) (a2) : althingref11_Against k a0 a1 a2 = (althingref11_Against.c3 k a0 [] 0 a1 a2) := (althingref11_Against_raw k a0 a1 a2).trans (by kernel_rfl)
theorem althingref11_Against.c3_eq (k) (x0) (x7) (x8) (b4) (b5) : althingref11_Against.c3 (k + 1) x0 x7 x8 b4 b5 = (bif (decide (x8 < (x0.length : Int))) then ((althingref11_Last k x0 x8).bind fun r0 => (bif r0 then (bif (inI x8 x0.length) then (bif (!(Ty.beq Ty_api_Instance (x0.getD (Int.toNat x8) (Ty.zero Ty_api_Record)).1 b4)) then (bif (inI x8 x0.length) then (bif (decide ((x0.getD (Int.toNat x8) (Ty.zero Ty_api_Record)).2.1 > 0)) then (bif (inI x8 x0.length) then ((althingref05_Interfere k (x0.getD (Int.toNat x8) (Ty.zero Ty_api_Record)).2.2.2.2.1 b5).bind fun r1 => (bif r1 then (althingref11_Against.c6 k x0 x7 x8 b4 b5) else (althingref11_Against.c4 k x0 x7 x8 b4 b5))) else none) else (althingref11_Against.c4 k x0 x7 x8 b4 b5)) else none) else (althingref11_Against.c4 k x0 x7 x8 b4 b5)) else none) else (althingref11_Against.c4 k x0 x7 x8 b4 b5))) else (some x7)) := by kernel_rfl
theorem althingref11_Against.c6_eq (k) (x0) (x7) (x8) (b4) (b5) : althingref11_Against.c6 (k + 1) x0 x7 x8 b4 b5 = (bif (inI x8 x0.length) then (bif (decide ((x7.length + 1) < 4294967296)) then (althingref11_Against.c4 k x0 (x7 ++ [(x0.getD (Int.toNat x8) (Ty.zero Ty_api_Record))]) x8 b4 b5) else none) else none) := by kernel_rfl
theorem althingref11_Against.c4_eq (k) (x0) (x7) (x8) (b4) (b5) : althingref11_Against.c4 (k + 1) x0 x7 x8 b4 b5 = (althingref11_Against.c3 k x0 x7 (IntKind.wrap IntKind.i64 (x8 + 1)) b4 b5) := by kernel_rfl
theorem althingref03_With_eq (k) (a0) (a1) : althingref03_With k a0 a1 = (althingref03_With.c2 k 0 a0 a1 (Ty.zero Ty_api_Deps)) := (althingref03_With_raw k a0 a1).trans (by kernel_rfl)
theorem althingref03_With.c2_eq (k) (x5) (b2) (b3) (b4) : althingref03_With.c2 (k + 1) x5 b2 b3 b4 = (bif (decide (x5 < 7)) then (bif (b3.1 == x5) then (bif (inI x5 7) then (bif (decide (b3.2 > (b2.getD (Int.toNat x5) 0))) then (bif (inI x5 7) then (althingref03_With.c3 k x5 (b2.set (Int.toNat x5) b3.2) b3 b4) else none) else (althingref03_With.c3 k x5 b2 b3 b4)) else none) else (althingref03_With.c3 k x5 b2 b3 b4)) else (some b2)) := by kernel_rfl
theorem althingref03_With.c3_eq (k) (x5) (b2) (b3) (b4) : althingref03_With.c3 (k + 1) x5 b2 b3 b4 = (althingref03_With.c2 k (IntKind.wrap IntKind.i64 (x5 + 1)) b2 b3 b4) := by kernel_rfl
theorem althingref11_Attrs_eq (k) (a0) (a1) (a2) (a3) (a4) : althingref11_Attrs k a0 a1 a2 a3 a4 = ((althingref11_Against k a0 a1 a2).bind fun r0 => (althingref11_Attrs.c3 k a3 r0 0 a4 (Ty.zero Ty_api_Deps))) := (althingref11_Attrs_raw k a0 a1 a2 a3 a4).trans (by kernel_rfl)
theorem althingref11_Attrs.c3_eq (k) (x3) (x12) (x13) (b9) (b11) : althingref11_Attrs.c3 (k + 1) x3 x12 x13 b9 b11 = (bif (decide (x13 < (x12.length : Int))) then (bif (inI x13 x12.length) then (bif (decide ((x12.getD (Int.toNat x13) (Ty.zero Ty_api_Record)).2.2.2.2.2.1 < 1099511627776)) then (althingref11_Attrs.c9 k x3 x12 x13 (IntKind.wrap IntKind.i64 ((x12.getD (Int.toNat x13) (Ty.zero Ty_api_Record)).2.2.2.2.2.1 + 1)) b9 b11) else (althingref11_Attrs.c9 k x3 x12 x13 1099511627776 b9 b11)) else none) else (some (x3, b9))) := by kernel_rfl
theorem althingref11_Attrs.c9_eq (k) (x3) (x12) (x13) (x14) (b9) (b11) : althingref11_Attrs.c9 (k + 1) x3 x12 x13 x14 b9 b11 = (bif (decide (x14 > x3)) then (althingref11_Attrs.c11 k x14 x12 x13 b9 b11) else (althingref11_Attrs.c11 k x3 x12 x13 b9 b11)) := by kernel_rfl
theorem althingref11_Attrs.c11_eq (k) (x3) (x12) (x13) (b9) (b11) : althingref11_Attrs.c11 (k + 1) x3 x12 x13 b9 b11 = (bif (inI x13 x12.length) then ((althingref03_With k b9 (x12.getD (Int.toNat x13) (Ty.zero Ty_api_Record)).1).bind fun r0 => (althingref11_Attrs.c3 k x3 x12 (IntKind.wrap IntKind.i64 (x13 + 1)) r0 b11)) else none) := by kernel_rfl
theorem althingref12_Begin_eq (k) (a0) (a1) (a2) : althingref12_Begin k a0 a1 a2 = (bif (decide (a1 < 0)) then (some ((Ty.zero (Ty.pair Ty_api_Instance (Ty.pair Ty.i64 (Ty.pair Ty_api_Instance (Ty.pair Ty_api_Instance (Ty.pair Ty_api_Command (Ty.pair Ty.i64 (Ty.pair Ty_api_Deps Ty.bool)))))))), 1)) else (bif (decide (a1 > 6)) then (some ((Ty.zero (Ty.pair Ty_api_Instance (Ty.pair Ty.i64 (Ty.pair Ty_api_Instance (Ty.pair Ty_api_Instance (Ty.pair Ty_api_Command (Ty.pair Ty.i64 (Ty.pair Ty_api_Deps Ty.bool)))))))), 1)) else ((althingref05_Right k a2).bind fun r0 => (bif (!r0) then (some ((Ty.zero (Ty.pair Ty_api_Instance (Ty.pair Ty.i64 (Ty.pair Ty_api_Instance (Ty.pair Ty_api_Instance (Ty.pair Ty_api_Command (Ty.pair Ty.i64 (Ty.pair Ty_api_Deps Ty.bool)))))))), 1)) else (althingref12_Begin.c3 k a0 a1 a2 (Ty.zero Ty_api_Record)))))) := (althingref12_Begin_raw k a0 a1 a2).trans (by kernel_rfl)
theorem althingref12_Begin.c3_eq (k) (x0) (x1) (b5) (b6) : althingref12_Begin.c3 (k + 1) x0 x1 b5 b6 = ((althingref11_Slot k x0 x1).bind fun r0 => (bif (decide (r0 > 1048576)) then (some ((Ty.zero (Ty.pair Ty_api_Instance (Ty.pair Ty.i64 (Ty.pair Ty_api_Instance (Ty.pair Ty_api_Instance (Ty.pair Ty_api_Command (Ty.pair Ty.i64 (Ty.pair Ty_api_Deps Ty.bool)))))))), 2)) else ((althingref11_Attrs k x0 (x1, r0) b5 1 [0, 0, 0, 0, 0, 0, 0]).bind fun r1 => (some (((x1, r0), (1, ((Ty.zero Ty_api_Instance), ((Ty.zero Ty_api_Instance), (b5, (r1.1, (r1.2, true))))))), 0))))) := by kernel_rfl
theorem althingref01_power_eq (k) (a0) : althingref01_power k a0 = (althingref01_power.c3 k a0 1 0) := (althingref01_power_raw k a0).trans (by kernel_rfl)
theorem althingref01_power.c3_eq (k) (x0) (x3) (x4) : althingref01_power.c3 (k + 1) x0 x3 x4 = (bif (decide (x4 < x0)) then (althingref01_power.c3 k x0 (IntKind.wrap IntKind.i64 (x3 * 2)) (IntKind.wrap IntKind.i64 (x4 + 1))) else (some x3)) := by kernel_rfl
theorem althingref01_With_eq (k) (a0) (a1) : althingref01_With k a0 a1 = (bif (decide (a1 < 0)) then (some a0) else (bif (decide (a1 > 6)) then (some a0) else ((althingref01_Has k a0 a1).bind fun r0 => (bif r0 then (some a0) else ((althingref01_power k a1).bind fun r1 => (some (IntKind.wrap IntKind.i64 (a0 + r1)))))))) := (althingref01_With_raw k a0 a1).trans (by kernel_rfl)
theorem althingref14_one_eq (k) (a0) : althingref14_one k a0 = ((althingref01_With k 0 a0).bind fun r0 => (some r0)) := (althingref14_one_raw k a0).trans (by kernel_rfl)
theorem althingref14_Start_eq (k) (a0) (a1) (a2) (a3) : althingref14_Start k a0 a1 a2 a3 = ((althingref14_is k a0 a1).bind fun r0 => (bif (!r0) then (some ((Ty.zero (Ty.pair Ty.i64 (Ty.pair Ty.i64 (Ty.pair Ty.i64 (Ty.pair Ty.i64 (Ty.pair Ty_api_Instance (Ty.pair Ty_api_Record (Ty.pair Ty.bool (Ty.pair Ty.i64 (Ty.pair Ty_api_Deps (Ty.sl 58 Ty_repair_Vote))))))))))), ((Ty.zero (Ty.pair Ty_api_Record (Ty.pair Ty.bool (Ty.pair Ty.i64 Ty_api_Record)))), 1))) else ((althingref12_Begin k a2 a1 a3).bind fun r1 => (bif (r1.2 != 0) then (some ((Ty.zero (Ty.pair Ty.i64 (Ty.pair Ty.i64 (Ty.pair Ty.i64 (Ty.pair Ty.i64 (Ty.pair Ty_api_Instance (Ty.pair Ty_api_Record (Ty.pair Ty.bool (Ty.pair Ty.i64 (Ty.pair Ty_api_Deps (Ty.sl 58 Ty_repair_Vote))))))))))), ((Ty.zero (Ty.pair Ty_api_Record (Ty.pair Ty.bool (Ty.pair Ty.i64 Ty_api_Record)))), r1.2))) else ((althingref14_one k a1).bind fun r2 => (some ((a0, (a1, (1, (r2, ((Ty.zero Ty_api_Instance), (r1.1, (true, (r1.1.2.2.2.2.2.1, (r1.1.2.2.2.2.2.2.1, []))))))))), ((r1.1, (true, (1, r1.1))), 0)))))))) := (althingref14_Start_raw k a0 a1 a2 a3).trans (by kernel_rfl)
theorem stamp_NextBallot_eq (k) (a0) (a1) : stamp_NextBallot k a0 a1 = ((stamp_RightBallot k a0).bind fun r0 => (bif (!r0) then (some ((Ty.zero (Ty.pair Ty.i64 Ty.i64)), 1)) else ((stamp_RightBallot k (a0.1, a1)).bind fun r1 => (bif (!r1) then (some ((Ty.zero (Ty.pair Ty.i64 Ty.i64)), 1)) else (stamp_NextBallot.c4 k a0 (Ty.zero Ty_api_Instance) (a0.1, a1)))))) := (stamp_NextBallot_raw k a0 a1).trans (by kernel_rfl)
theorem stamp_NextBallot.c4_eq (k) (b2) (b4) (b6) : stamp_NextBallot.c4 (k + 1) b2 b4 b6 = (bif (b2.1 == 1099511627776) then (some ((Ty.zero (Ty.pair Ty.i64 Ty.i64)), 2)) else (some (((IntKind.wrap IntKind.i64 (b6.1 + 1)), b6.2), 0))) := by kernel_rfl
theorem lead_Take_eq (k) (a0) (a1) (a2) (a3) : lead_Take k a0 a1 a2 a3 = ((lead_is k a0 a1).bind fun r0 => (bif (!r0) then (some ((Ty.zero (Ty.pair Ty.i64 (Ty.pair Ty.i64 (Ty.pair Ty.i64 (Ty.pair Ty.i64 (Ty.pair Ty_api_Instance (Ty.pair Ty_api_Record (Ty.pair Ty.bool (Ty.pair Ty.i64 (Ty.pair Ty_api_Deps (Ty.sl 80 Ty_repair_Vote))))))))))), ((Ty.zero (Ty.pair Ty_api_Record (Ty.pair Ty.bool (Ty.pair Ty.i64 Ty_api_Record)))), 1))) else ((stamp_RightInst k a3).bind fun r1 => (bif (!r1) then (some ((Ty.zero (Ty.pair Ty.i64 (Ty.pair Ty.i64 (Ty.pair Ty.i64 (Ty.pair Ty.i64 (Ty.pair Ty_api_Instance (Ty.pair Ty_api_Record (Ty.pair Ty.bool (Ty.pair Ty.i64 (Ty.pair Ty_api_Deps (Ty.sl 80 Ty_repair_Vote))))))))))), ((Ty.zero (Ty.pair Ty_api_Record (Ty.pair Ty.bool (Ty.pair Ty.i64 Ty_api_Record)))), 1))) else ((lead_is k a0 a3.1).bind fun r2 => (bif (!r2) then (some ((Ty.zero (Ty.pair Ty.i64 (Ty.pair Ty.i64 (Ty.pair Ty.i64 (Ty.pair Ty.i64 (Ty.pair Ty_api_Instance (Ty.pair Ty_api_Record (Ty.pair Ty.bool (Ty.pair Ty.i64 (Ty.pair Ty_api_Deps (Ty.sl 80 Ty_repair_Vote))))))))))), ((Ty.zero (Ty.pair Ty_api_Record (Ty.pair Ty.bool (Ty.pair Ty.i64 Ty_api_Record)))), 1))) else (lead_Take.c3 k a0 a1 a2 a3 (Ty.zero Ty_lead_Lead) (Ty.zero Ty_lead_Step)))))))) := (lead_Take_raw k a0 a1 a2 a3).trans (by kernel_rfl)
theorem lead_Take.c3_eq (k) (x0) (x1) (x2) (b7) (b8) (b9) : lead_Take.c3 (k + 1) x0 x1 x2 b7 b8 b9 = ((accept_Know k x2 b7).bind fun r0 => (bif (r0.2.1 == 3) then (some ((Ty.zero (Ty.pair Ty.i64 (Ty.pair Ty.i64 (Ty.pair Ty.i64 (Ty.pair Ty.i64 (Ty.pair Ty_api_Instance (Ty.pair Ty_api_Record (Ty.pair Ty.bool (Ty.pair Ty.i64 (Ty.pair Ty_api_Deps (Ty.sl 80 Ty_repair_Vote))))))))))), ((Ty.zero (Ty.pair Ty_api_Record (Ty.pair Ty.bool (Ty.pair Ty.i64 Ty_api_Record)))), 11))) else ((stamp_NextBallot k r0.2.2.1 x1).bind fun r1 => (bif (r1.2 != 0) then (some ((Ty.zero (Ty.pair Ty.i64 (Ty.pair Ty.i64 (Ty.pair Ty.i64 (Ty.pair Ty.i64 (Ty.pair Ty_api_Instance (Ty.pair Ty_api_Record (Ty.pair Ty.bool (Ty.pair Ty.i64 (Ty.pair Ty_api_Deps (Ty.sl 80 Ty_repair_Vote))))))))))), ((Ty.zero (Ty.pair Ty_api_Record (Ty.pair Ty.bool (Ty.pair Ty.i64 Ty_api_Record)))), r1.2))) else ((quorum_With k 0 x1).bind fun r2 => ((lead_own k (r0.1, (r0.2.1, (r1.1, r0.2.2.2)))).bind fun r3 => ((lead_told k (r0.1, (r0.2.1, (r1.1, r0.2.2.2))) 6 (r0.1, (r0.2.1, (r1.1, r0.2.2.2)))).bind fun r4 => (some ((x0, (x1, (3, (r2, (r1.1, ((b7, (Ty.zero (Ty.pair Ty.i64 (Ty.pair Ty_api_Instance (Ty.pair Ty_api_Instance (Ty.pair Ty_api_Command (Ty.pair Ty.i64 (Ty.pair Ty_api_Deps Ty.bool)))))))), (false, (0, ((Ty.zero Ty_api_Deps), [(x1, r3)]))))))))), (r4, 0)))))))))) := by kernel_rfl
theorem althingref12_Know_eq (k) (a0) (a1) : althingref12_Know k a0 a1 = (althingref12_Know.c3 k a0 0 a1 (Ty.zero Ty_api_Record) (a1, (Ty.zero (Ty.pair Ty.i64 (Ty.pair Ty_api_Instance (Ty.pair Ty_api_Instance (Ty.pair Ty_api_Command (Ty.pair Ty.i64 (Ty.pair Ty_api_Deps Ty.bool))))))))) := (althingref12_Know_raw k a0 a1).trans (by kernel_rfl)
theorem althingref12_Know.c3_eq (k) (x0) (x6) (b3) (b4) (b5) : althingref12_Know.c3 (k + 1) x0 x6 b3 b4 b5 = (bif (decide (x6 < (x0.length : Int))) then (bif (inI x6 x0.length) then (bif (Ty.beq Ty_api_Instance (x0.getD (Int.toNat x6) (Ty.zero Ty_api_Record)).1 b3) then (bif (inI x6 x0.length) then (althingref12_Know.c3 k x0 (IntKind.wrap IntKind.i64 (x6 + 1)) b3 b4 (x0.getD (Int.toNat x6) (Ty.zero Ty_api_Record))) else none) else (althingref12_Know.c3 k x0 (IntKind.wrap IntKind.i64 (x6 + 1)) b3 b4 b5)) else none) else (some b5)) := by kernel_rfl
theorem althingref02_NextBallot_eq (k) (a0) (a1) : althingref02_NextBallot k a0 a1 = ((althingref02_RightBallot k a0).bind fun r0 => (bif (!r0) then (some ((Ty.zero (Ty.pair Ty.i64 Ty.i64)), 1)) else (bif (decide (a1 < 0)) then (some ((Ty.zero (Ty.pair Ty.i64 Ty.i64)), 1)) else (bif (decide (a1 > 6)) then (some ((Ty.zero (Ty.pair Ty.i64 Ty.i64)), 1)) else (althingref02_NextBallot.c3 k a1 a0 (Ty.zero Ty_api_Instance)))))) := (althingref02_NextBallot_raw k a0 a1).trans (by kernel_rfl)
theorem althingref02_NextBallot.c3_eq (k) (x1) (b2) (b4) : althingref02_NextBallot.c3 (k + 1) x1 b2 b4 = (bif (b2.1 == 1099511627776) then (some ((Ty.zero (Ty.pair Ty.i64 Ty.i64)), 2)) else (some (((IntKind.wrap IntKind.i64 (b2.1 + 1)), x1), 0))) := by kernel_rfl
theorem althingref14_Take_eq (k) (a0) (a1) (a2) (a3) : althingref14_Take k a0 a1 a2 a3 = ((althingref14_is k a0 a1).bind fun r0 => (bif (!r0) then (some ((Ty.zero (Ty.pair Ty.i64 (Ty.pair Ty.i64 (Ty.pair Ty.i64 (Ty.pair Ty.i64 (Ty.pair Ty_api_Instance (Ty.pair Ty_api_Record (Ty.pair Ty.bool (Ty.pair Ty.i64 (Ty.pair Ty_api_Deps (Ty.sl 58 Ty_repair_Vote))))))))))), ((Ty.zero (Ty.pair Ty_api_Record (Ty.pair Ty.bool (Ty.pair Ty.i64 Ty_api_Record)))), 1))) else ((althingref02_RightInst k a3).bind fun r1 => (bif (!r1) then (some ((Ty.zero (Ty.pair Ty.i64 (Ty.pair Ty.i64 (Ty.pair Ty.i64 (Ty.pair Ty.i64 (Ty.pair Ty_api_Instance (Ty.pair Ty_api_Record (Ty.pair Ty.bool (Ty.pair Ty.i64 (Ty.pair Ty_api_Deps (Ty.sl 58 Ty_repair_Vote))))))))))), ((Ty.zero (Ty.pair Ty_api_Record (Ty.pair Ty.bool (Ty.pair Ty.i64 Ty_api_Record)))), 1))) else ((althingref14_is k a0 a3.1).bind fun r2 => (bif (!r2) then (some ((Ty.zero (Ty.pair Ty.i64 (Ty.pair Ty.i64 (Ty.pair Ty.i64 (Ty.pair Ty.i64 (Ty.pair Ty_api_Instance (Ty.pair Ty_api_Record (Ty.pair Ty.bool (Ty.pair Ty.i64 (Ty.pair Ty_api_Deps (Ty.sl 58 Ty_repair_Vote))))))))))), ((Ty.zero (Ty.pair Ty_api_Record (Ty.pair Ty.bool (Ty.pair Ty.i64 Ty_api_Record)))), 1))) else (althingref14_Take.c3 k a0 a1 a2 a3 (Ty.zero Ty_althingref14_Lead) (Ty.zero Ty_lead_Step)))))))) := (althingref14_Take_raw k a0 a1 a2 a3).trans (by kernel_rfl)
theorem althingref14_Take.c3_eq (k) (x0) (x1) (x2) (b7) (b8) (b9) : althingref14_Take.c3 (k + 1) x0 x1 x2 b7 b8 b9 = ((althingref12_Know k x2 b7).bind fun r0 => (bif (r0.2.1 == 3) then (some ((Ty.zero (Ty.pair Ty.i64 (Ty.pair Ty.i64 (Ty.pair Ty.i64 (Ty.pair Ty.i64 (Ty.pair Ty_api_Instance (Ty.pair Ty_api_Record (Ty.pair Ty.bool (Ty.pair Ty.i64 (Ty.pair Ty_api_Deps (Ty.sl 58 Ty_repair_Vote))))))))))), ((Ty.zero (Ty.pair Ty_api_Record (Ty.pair Ty.bool (Ty.pair Ty.i64 Ty_api_Record)))), 11))) else ((althingref02_NextBallot k r0.2.2.1 x1).bind fun r1 => (bif (r1.2 != 0) then (some ((Ty.zero (Ty.pair Ty.i64 (Ty.pair Ty.i64 (Ty.pair Ty.i64 (Ty.pair Ty.i64 (Ty.pair Ty_api_Instance (Ty.pair Ty_api_Record (Ty.pair Ty.bool (Ty.pair Ty.i64 (Ty.pair Ty_api_Deps (Ty.sl 58 Ty_repair_Vote))))))))))), ((Ty.zero (Ty.pair Ty_api_Record (Ty.pair Ty.bool (Ty.pair Ty.i64 Ty_api_Record)))), r1.2))) else ((althingref14_one k x1).bind fun r2 => (some ((x0, (x1, (3, (r2, (r1.1, ((b7, (Ty.zero (Ty.pair Ty.i64 (Ty.pair Ty_api_Instance (Ty.pair Ty_api_Instance (Ty.pair Ty_api_Command (Ty.pair Ty.i64 (Ty.pair Ty_api_Deps Ty.bool)))))))), (false, (0, ((Ty.zero Ty_api_Deps), [(x1, (r0.1, (r0.2.1, (r1.1, r0.2.2.2))))]))))))))), (((r0.1, (r0.2.1, (r1.1, r0.2.2.2))), (true, (6, (r0.1, (r0.2.1, (r1.1, r0.2.2.2)))))), 0)))))))) := by kernel_rfl
theorem althinglaw14_step_eq (k) (a0) : althinglaw14_step k a0 = (some (a0.1, (a0.2.1, (a0.2.2.1, a0.2.2.2)))) := (althinglaw14_step_raw k a0).trans (by kernel_rfl)
theorem althingref14_SameStep_eq (k) (a0) (a1) : althingref14_SameStep k a0 a1 = (bif (Ty.beq Ty.bool a0.2.1 a1.2.1) then (bif (a0.2.2.1 == a1.2.2.1) then ((althingref07_Same k a0.1 a1.1).bind fun r0 => (bif r0 then ((althingref07_Same k a0.2.2.2 a1.2.2.2).bind fun r1 => (some r1)) else (some false))) else (some false)) else (some false)) := (althingref14_SameStep_raw k a0 a1).trans (by kernel_rfl)
theorem althinglaw14_LeadBegins_eq (k) (a0) (a1) (a2) (a3) (a4) : althinglaw14_LeadBegins k a0 a1 a2 a3 a4 = ((althinglaw11_Few k a2).bind fun r0 => (bif (!r0) then ((althinglaw14_awake k).bind fun r1 => (some r1)) else ((althinglaw05_Few k [a3]).bind fun r1 => (bif (!r1) then ((althinglaw14_awake k).bind fun r2 => (some r2)) else (althinglaw14_LeadBegins.c3 k a0 a1 a2 a3 a4))))) := (althinglaw14_LeadBegins_raw k a0 a1 a2 a3 a4).trans (by kernel_rfl)
theorem althinglaw14_LeadBegins.c3_eq (k) (x0) (x1) (x2) (b8) (b9) : althinglaw14_LeadBegins.c3 (k + 1) x0 x1 x2 b8 b9 = ((lead_Start k x0 x1 x2 b8).bind fun r0 => ((althingref14_Start k x0 x1 x2 b8).bind fun r1 => ((lead_Take k x0 x1 x2 b9).bind fun r2 => ((althingref14_Take k x0 x1 x2 b9).bind fun r3 => ((althinglaw14_view k r0.1).bind fun r4 => ((althingref14_Same k r4 r1.1).bind fun r5 => (bif r5 then ((althinglaw14_step k r0.2.1).bind fun r6 => ((althingref14_SameStep k r6 r1.2.1).bind fun r7 => (bif r7 then (bif (r0.2.2 == r1.2.2) then ((althinglaw14_view k r2.1).bind fun r8 => ((althingref14_Same k r8 r3.1).bind fun r9 => (bif r9 then ((althinglaw14_step k r2.2.1).bind fun r10 => ((althingref14_SameStep k r10 r3.2.1).bind fun r11 => (bif r11 then (bif (r2.2.2 == r3.2.2) then ((althinglaw14_awake k).bind fun r12 => (some r12)) else (some false)) else (some false)))) else (some false)))) else (some false)) else (some false)))) else (some false)))))))) := by kernel_rfl
end Go.Proofs.YtjgcmmpfaemkiaaGreat.V
end
section
namespace Go.Proofs.YtjgcmmpfaemkiaaGreat.V
open Go Go.Vm Go.Proofs.YtjgcmmpfaemkiaaGreat.Strs
set_option linter.unusedVariables false
set_option linter.unusedSimpArgs false
def fewR (l : List Rc) : Prop := l.length ≤ 100 ∧ ∀ x ∈ l, small x.2.2.2.2.1
def sameI (x o : Rc) : Bool := Ty.beq Ty_api_Instance o.1 x.1
def knownV : List Rc → List Rc
  | [] => []
  | x :: l => if l.any (sameI x) = true then knownV l else x :: knownV l
theorem knownV_sub : ∀ l, (knownV l).Sublist l
  | [] => .slnil
  | x :: l => by
    unfold knownV
    split
    · exact (knownV_sub l).cons x
    · exact (knownV_sub l).cons_cons x
theorem fewR_sub {l l' : List Rc} (hs : l'.Sublist l) (h : fewR l) : fewR l' := ⟨Nat.le_trans hs.length_le h.1, fun x hx => h.2 x (hs.subset hx)⟩
theorem containsF_at (l : List Rc) (f1 : Rc → Option Bool) (p : Rc → Bool) (hl : l.length ≤ 1000000) (h : ∀ x ∈ l, f1 x = some (p x)) (k : Nat) (hk : l.length < k) : slices_ContainsFunc_api_Record_api_Record k l f1 = some (l.any p) := by
  rw [slices_ContainsFunc_api_Record_api_Record_eq, slices_IndexFunc_api_Record_api_Record_eq]
  have := search_at l (fun j i => slices_IndexFunc_api_Record_api_Record.c2 j l f1 (l.length : Int) i) p (fun i => (i : Int)) (-1)
    (fun k => by rw [slices_IndexFunc_api_Record_api_Record.c2_eq, lt_ff (Nat.lt_irrefl _)]; rfl)
    (fun j i hi => by rw [slices_IndexFunc_api_Record_api_Record.c2_eq, lt_tt hi, inI_tt hi, getD_at hi, wrap_at (by omega), h _ (List.getElem_mem hi)]; rfl) l.length 0 (by omega) k hk
  rw [show ((0 : Nat) : Int) = 0 from rfl] at this
  rw [this, List.drop_zero]
  simp only [Nat.zero_add]
  show some (decide (idxOf p l ≥ 0)) = _
  rw [idxOf_any]
theorem slice_at (l : List Rc) (i : Nat) (hi : i < l.length) : sliceL l ((i + 1 : Nat) : Int) (l.length : Int) = l.drop (i + 1) := by
  unfold sliceL
  rw [Int.toNat_natCast, Int.toNat_natCast, List.take_length]
theorem clone_at (c : Cm) (h : small c) (k : Nat) : command_Clone k c = some c := by
  rw [command_Clone_eq, lt32 (by have := h.1; omega), lt32 (by have := h.2.1; omega)]; rfl
theorem known_c (l : List Rc) (h : fewR l) : ∀ d i (acc : List Rc), i + d = l.length → acc.length ≤ i → Ev (fun k => index_Known.c3 k l acc l (l.length : Int) (i : Int)) (acc ++ knownV (l.drop i))
  | 0, i, acc, hi, ha => by
    obtain rfl : i = l.length := by omega
    rw [List.drop_length, knownV, List.append_nil]
    exact Ev.step (fun k => by rw [index_Known.c3_eq, lt_ff (Nat.lt_irrefl _)]; rfl) (Ev.some acc)
  | d + 1, i, acc, hi, ha => by
    have hil : i < l.length := by omega
    have hl := h.1
    have hs := h.2 _ (List.getElem_mem hil)
    rw [drop_at hil, knownV]
    refine Ev.step (f := fun k => (slices_ContainsFunc_api_Record_api_Record k (l.drop (i + 1)) (fun x => index_Known_1 k x l[i])).bind fun r0 => bif !r0 then (command_Clone k l[i].2.2.2.2.1).bind (fun r1 => index_Known.c3 k l (acc ++ [(l[i].1, l[i].2.1, l[i].2.2.1, l[i].2.2.2.1, r1, l[i].2.2.2.2.2)]) l (l.length : Int) ((i + 1 : Nat) : Int)) else index_Known.c3 k l acc l (l.length : Int) ((i + 1 : Nat) : Int)) (fun k => ?_) ?_
    · rw [index_Known.c3_eq, lt_tt hil, inI_tt hil, getD_at hil, wrap_at (by omega), slice_at l i hil, lt32 (by omega), decide_eq_true (show (0 : Int) ≤ ((i + 1 : Nat) : Int) by omega), decide_eq_true (show ((i + 1 : Nat) : Int) ≤ (l.length : Int) by omega), decide_eq_true (Int.le_refl _)]; rfl
    · refine Ev.bind (a := (l.drop (i + 1)).any (sameI l[i])) ⟨l.length + 1, fun k hk => containsF_at _ _ _ (by rw [List.length_drop]; omega) (fun x hx => index_Known_1_eq k x l[i]) k (by rw [List.length_drop]; omega)⟩ ?_
      cases hc : (l.drop (i + 1)).any (sameI l[i]) with
      | true =>
        rw [if_pos rfl]
        exact known_c l h d (i + 1) acc (by omega) (by omega)
      | false =>
        rw [if_neg (by simp)]
        have ih := known_c l h d (i + 1) (acc ++ [l[i]]) (by omega) (by rw [List.length_append, List.length_singleton]; omega)
        rw [List.append_assoc, List.singleton_append] at ih
        exact Ev.congr (fun k => by rw [clone_at _ hs]; rfl) ih
theorem known_ev (l : List Rc) (h : fewR l) : Ev (fun k => index_Known k l) (knownV l) := by
  have := known_c l h l.length 0 [] (by omega) (by simp)
  refine Ev.congr (fun k => index_Known_eq k l) ?_
  simpa using this
theorem filt_ev {α : Type} {g : Nat → α → Option Bool} {p : α → Bool} : ∀ xs : List α, (∀ x ∈ xs, Ev (fun k => g k x) (p x)) → Ev (fun k => filt (g k) xs) (xs.filter fun x => !p x)
  | [], _ => Ev.some _
  | x :: xs, h => by
    have := Ev.bind (h x (by simp)) (h := fun k b => (filt (g k) xs).bind fun r => some (bif b then r else x :: r)) (Ev.bind (filt_ev xs (fun y hy => h y (List.mem_cons_of_mem _ hy))) (Ev.some _))
    refine Ev.congr (fun k => rfl) (?_ : Ev (fun k => (g k x).bind fun b => (filt (g k) xs).bind fun r => some (bif b then r else x :: r)) _)
    rw [List.filter_cons]
    cases hp : p x
    · rw [hp] at this; exact this
    · rw [hp] at this; exact this
def outV (i : In) (c : Cm) (x : Rc) : Bool := Ty.beq Ty_api_Instance x.1 i || (decide (x.2.1 ≤ 0) || !interV x.2.2.2.2.1 c)
def againstV (l : List Rc) (i : In) (c : Cm) : List Rc := (knownV l).filter fun x => !outV i c x
theorem out_ev (i : In) (c : Cm) (hc : small c) (x : Rc) (hx : small x.2.2.2.2.1) : Ev (fun k => index_Against_1 k x i c) (outV i c x) := by
  refine Ev.congr (fun k => index_Against_1_eq k x i c) ?_
  unfold outV
  cases h1 : Ty.beq Ty_api_Instance x.1 i with
  | true => exact Ev.some _
  | false =>
    refine Ev.bif_ff rfl ?_
    cases h2 : decide (x.2.1 ≤ 0) with
    | true => exact Ev.some _
    | false => exact Ev.bif_ff rfl (Ev.bind (inter_ev _ c hx hc) (Ev.some _))
theorem against_ev (l : List Rc) (h : fewR l) (i : In) (c : Cm) (hc : small c) : Ev (fun k => index_Against k l i c) (againstV l i c) := by
  unfold index_Against
  refine Ev.bind (known_ev l h) (Ev.bif_tt (decide_eq_true (by have := (knownV_sub l).length_le; have := h.1; omega)) (filt_ev _ fun x hx => out_ev i c hc x (h.2 x ((knownV_sub l).subset hx))))
abbrev Dp := Ty_api_Deps.den
def withV (d : Dp) (i : In) : Dp := bif inI i.1 7 then List.set d (Int.toNat i.1) (max (List.getD d (Int.toNat i.1) 0) i.2) else d
theorem with_at (k : Nat) (d : Dp) (i : In) : deps_With k d i = some (withV d i) := by
  rw [deps_With_eq, deps_is_eq]
  unfold withV inI
  by_cases h1 : (i.1 : Int) ≥ 0
  · by_cases h2 : (i.1 : Int) < 7
    · simp [h1, h2]
    · simp [h1, h2]
  · simp [h1]
def attrStep (s : Int × Dp) (x : Rc) : Int × Dp := (max s.1 (IntKind.wrap .i64 (min x.2.2.2.2.2.1 1099511627775 + 1)), withV s.2 x.1)
def attrsV (l : List Rc) (i : In) (c : Cm) (seq : Int) (d : Dp) : Int × Dp := (againstV l i c).foldl attrStep (seq, d)
theorem againstV_sub (l : List Rc) (i : In) (c : Cm) : (againstV l i c).Sublist l := List.filter_sublist.trans (knownV_sub l)
theorem attrs_ev (l : List Rc) (h : fewR l) (i : In) (c : Cm) (hc : small c) (seq : Int) (d : Dp) : Ev (fun k => index_Attrs k l i c seq d) (attrsV l i c seq d) := by
  refine Ev.congr (fun k => index_Attrs_eq k l i c seq d) (Ev.bind (against_ev l h i c hc) ?_)
  have hl := (againstV_sub l i c).length_le
  have h1 := h.1
  unfold attrsV
  generalize againstV l i c = al at hl ⊢
  have := Ev.fold0 al (fun k (s : Int × Dp) j => index_Attrs.c2 k s.1 al (al.length : Int) j s.2 (Ty.zero Ty_api_Deps)) attrStep id (fun _ _ => True) (seq, d) trivial
    (fun s _ => Ev.step (f := fun _ => some s) (fun k => by rw [index_Attrs.c2_eq, lt_ff (Nat.lt_irrefl _)]; rfl) (Ev.some s))
    (fun j s hj _ => ⟨trivial, fun r hr => Ev.step (fun k => by
      rw [index_Attrs.c2_eq, lt_tt hj, inI_tt hj, getD_at hj, wrap_at (by omega), with_at]; rfl) hr⟩)
  exact this
end Go.Proofs.YtjgcmmpfaemkiaaGreat.V
end
section
namespace Go.Proofs.YtjgcmmpfaemkiaaGreat.V
open Go Go.Vm Go.Proofs.YtjgcmmpfaemkiaaGreat.Strs
set_option linter.unusedVariables false
set_option linter.unusedSimpArgs false
section
variable (l : List Cm) (n j : Int) (c : Cm) (P : Prop)
theorem few_c14 (hn : ∃ q, Ev (fun k => althinglaw05_Few.c2 k l n (IntKind.wrap .i64 (j + 1))) q ∧ (q = true → P)) : ∃ q, Ev (fun k => althinglaw05_Few.c14 k l n j c) q ∧ (q = true → P ∧ c.2.2.2.2.1.length ≤ 20 ∧ c.2.2.2.2.2.1.length ≤ 20) := by
  cases h1 : decide ((c.2.2.2.2.1.length : Int) > 20) with
  | true => exact ⟨false, Ev.step (f := fun _ => some false) (fun k => by rw [althinglaw05_Few.c14_eq, h1]; rfl) (Ev.some _), fun e => by cases e⟩
  | false =>
    cases h2 : decide ((c.2.2.2.2.2.1.length : Int) > 20) with
    | true => exact ⟨false, Ev.step (f := fun _ => some false) (fun k => by rw [althinglaw05_Few.c14_eq, h1, h2]; rfl) (Ev.some _), fun e => by cases e⟩
    | false =>
      obtain ⟨q, hq, hp⟩ := hn
      have h1' := of_decide_eq_false h1
      have h2' := of_decide_eq_false h2
      exact ⟨q, Ev.step (fun k => by rw [althinglaw05_Few.c14_eq, h1, h2]; rfl) hq, fun e => ⟨hp e, by omega, by omega⟩⟩
theorem few_c10 (hn : ∃ q, Ev (fun k => althinglaw05_Few.c2 k l n (IntKind.wrap .i64 (j + 1))) q ∧ (q = true → P)) : ∀ dd i, i + dd = min c.2.2.2.2.2.1.length 21 → ∃ q, Ev (fun k => althinglaw05_Few.c10 k (i : Int) l n j c) q ∧ (q = true → P ∧ c.2.2.2.2.1.length ≤ 20 ∧ c.2.2.2.2.2.1.length ≤ 20 ∧ ∀ x ∈ c.2.2.2.2.2.1.drop i, x.1.size ≤ 100 ∧ x.2.size ≤ 100)
  | 0, i, hi => by
    obtain ⟨q, hq, hp⟩ := few_c14 l n j c P hn
    refine ⟨q, Ev.step (fun k => ?_) hq, fun e => ⟨(hp e).1, (hp e).2.1, (hp e).2.2, fun x hx => ?_⟩⟩
    · rw [althinglaw05_Few.c10_eq]
      by_cases h1 : i < c.2.2.2.2.2.1.length
      · rw [lt_tt h1, decide_eq_false (show ¬ ((i : Int) ≤ 20) by omega)]; rfl
      · rw [lt_ff h1]; rfl
    · have := (hp e).2.2
      rw [List.drop_eq_nil_of_le (by omega)] at hx
      cases hx
  | dd + 1, i, hi => by
    have hil : i < c.2.2.2.2.2.1.length := by omega
    refine (?_ : ∃ q, Ev (fun k => althinglaw05_Few.c12 k (i : Int) l n j c) q ∧ _).elim fun q hq => ⟨q, Ev.step (fun k => by rw [althinglaw05_Few.c10_eq, lt_tt hil, decide_eq_true (show (i : Int) ≤ 20 by omega)]; rfl) hq.1, hq.2⟩
    cases h1 : decide ((c.2.2.2.2.2.1[i].1.size : Int) > 100) with
    | true => exact ⟨false, Ev.step (f := fun _ => some false) (fun k => by rw [althinglaw05_Few.c12_eq, inI_tt hil, getD_at hil, h1]; rfl) (Ev.some _), fun e => by cases e⟩
    | false =>
      cases h2 : decide ((c.2.2.2.2.2.1[i].2.size : Int) > 100) with
      | true => exact ⟨false, Ev.step (f := fun _ => some false) (fun k => by rw [althinglaw05_Few.c12_eq, inI_tt hil, getD_at hil, h1, h2]; rfl) (Ev.some _), fun e => by cases e⟩
      | false =>
        obtain ⟨q, hq, hp⟩ := few_c10 hn dd (i + 1) (by omega)
        have h1' := of_decide_eq_false h1
        have h2' := of_decide_eq_false h2
        refine ⟨q, Ev.step (fun k => by rw [althinglaw05_Few.c12_eq, inI_tt hil, getD_at hil, h1, h2, wrap_at (by omega)]; rfl) hq, fun e => ⟨(hp e).1, (hp e).2.1, (hp e).2.2.1, fun x hx => ?_⟩⟩
        rw [drop_at hil] at hx
        rcases List.mem_cons.1 hx with rfl | hx
        · exact ⟨by omega, by omega⟩
        · exact (hp e).2.2.2 x hx
theorem few_c5 (hn : ∃ q, Ev (fun k => althinglaw05_Few.c2 k l n (IntKind.wrap .i64 (j + 1))) q ∧ (q = true → P)) : ∀ dd i, i + dd = min c.2.2.2.2.1.length 21 → ∃ q, Ev (fun k => althinglaw05_Few.c5 k (i : Int) l n j c) q ∧ (q = true → P ∧ c.2.2.2.2.1.length ≤ 20 ∧ c.2.2.2.2.2.1.length ≤ 20 ∧ (∀ x ∈ c.2.2.2.2.1.drop i, x.1.size ≤ 100) ∧ ∀ x ∈ c.2.2.2.2.2.1, x.1.size ≤ 100 ∧ x.2.size ≤ 100)
  | 0, i, hi => by
    obtain ⟨q, hq, hp⟩ := few_c10 l n j c P hn (min c.2.2.2.2.2.1.length 21) 0 (by omega)
    refine ⟨q, Ev.step (fun k => ?_) hq, fun e => ⟨(hp e).1, (hp e).2.1, (hp e).2.2.1, fun x hx => ?_, by simpa using (hp e).2.2.2⟩⟩
    · rw [althinglaw05_Few.c5_eq]
      by_cases h1 : i < c.2.2.2.2.1.length
      · rw [lt_tt h1, decide_eq_false (show ¬ ((i : Int) ≤ 20) by omega)]; rfl
      · rw [lt_ff h1]; rfl
    · have := (hp e).2.1
      rw [List.drop_eq_nil_of_le (by omega)] at hx
      cases hx
  | dd + 1, i, hi => by
    have hil : i < c.2.2.2.2.1.length := by omega
    refine (?_ : ∃ q, Ev (fun k => althinglaw05_Few.c7 k (i : Int) l n j c) q ∧ _).elim fun q hq => ⟨q, Ev.step (fun k => by rw [althinglaw05_Few.c5_eq, lt_tt hil, decide_eq_true (show (i : Int) ≤ 20 by omega)]; rfl) hq.1, hq.2⟩
    cases h1 : decide ((c.2.2.2.2.1[i].1.size : Int) > 100) with
    | true => exact ⟨false, Ev.step (f := fun _ => some false) (fun k => by rw [althinglaw05_Few.c7_eq, inI_tt hil, getD_at hil, h1]; rfl) (Ev.some _), fun e => by cases e⟩
    | false =>
      obtain ⟨q, hq, hp⟩ := few_c5 hn dd (i + 1) (by omega)
      have h1' := of_decide_eq_false h1
      refine ⟨q, Ev.step (fun k => by rw [althinglaw05_Few.c7_eq, inI_tt hil, getD_at hil, h1, wrap_at (by omega)]; rfl) hq, fun e => ⟨(hp e).1, (hp e).2.1, (hp e).2.2.1, fun x hx => ?_, (hp e).2.2.2.2⟩⟩
      rw [drop_at hil] at hx
      rcases List.mem_cons.1 hx with rfl | hx
      · omega
      · exact (hp e).2.2.2.1 x hx
end
theorem few_c2 (l : List Cm) (hl : l.length ≤ 1000) : ∀ dd i, i + dd = l.length → ∃ q, Ev (fun k => althinglaw05_Few.c2 k l (l.length : Int) (i : Int)) q ∧ (q = true → ∀ c ∈ l.drop i, small c)
  | 0, i, hi => by
    obtain rfl : i = l.length := by omega
    exact ⟨true, Ev.step (f := fun _ => some true) (fun k => by rw [althinglaw05_Few.c2_eq, lt_ff (Nat.lt_irrefl _)]; rfl) (Ev.some _), fun _ c hc => by rw [List.drop_length] at hc; cases hc⟩
  | dd + 1, i, hi => by
    have hil : i < l.length := by omega
    have hn := few_c2 l hl dd (i + 1) (by omega)
    rw [← wrap_at (show i ≤ 1000000000 by omega)] at hn
    obtain ⟨q, hq, hp⟩ := few_c5 l (l.length : Int) (i : Int) l[i] _ hn (min l[i].2.2.2.2.1.length 21) 0 (by omega)
    refine ⟨q, Ev.step (fun k => by rw [althinglaw05_Few.c2_eq, lt_tt hil, inI_tt hil, getD_at hil]; rfl) hq, fun e c hc => ?_⟩
    rw [drop_at hil] at hc
    rcases List.mem_cons.1 hc with rfl | hc
    · have := hp e
      exact ⟨this.2.1, this.2.2.1, by simpa using this.2.2.2.1, this.2.2.2.2⟩
    · exact (hp e).1 c hc
theorem few5_ex (l : List Cm) (hl : l.length ≤ 1000) : ∃ q, Ev (fun k => althinglaw05_Few k l) q ∧ (q = true → ∀ c ∈ l, small c) := by
  obtain ⟨q, hq, hp⟩ := few_c2 l hl l.length 0 (by omega)
  exact ⟨q, Ev.congr (fun k => althinglaw05_Few_eq k l) hq, by simpa using hp⟩
theorem few11_c (l : List Rc) : ∀ dd i, i + dd = min l.length 21 → ∃ q, Ev (fun k => althinglaw11_Few.c2 k l (i : Int)) q ∧ (q = true → l.length ≤ 20 ∧ ∀ x ∈ l.drop i, small x.2.2.2.2.1)
  | 0, i, hi => by
    refine ⟨decide ((l.length : Int) ≤ 20), Ev.step (f := fun _ => some (decide ((l.length : Int) ≤ 20))) (fun k => ?_) (Ev.some _), fun e => ?_⟩
    · rw [althinglaw11_Few.c2_eq]
      by_cases h1 : i < l.length
      · rw [lt_tt h1, decide_eq_false (show ¬ ((i : Int) ≤ 20) by omega)]; rfl
      · rw [lt_ff h1]; rfl
    · have := of_decide_eq_true e
      exact ⟨by omega, fun x hx => by rw [List.drop_eq_nil_of_le (by omega)] at hx; cases hx⟩
  | dd + 1, i, hi => by
    have hil : i < l.length := by omega
    refine (?_ : ∃ q, Ev (fun k => althinglaw11_Few.c4 k l (i : Int)) q ∧ _).elim fun q hq => ⟨q, Ev.step (fun k => by rw [althinglaw11_Few.c2_eq, lt_tt hil, decide_eq_true (show (i : Int) ≤ 20 by omega)]; rfl) hq.1, hq.2⟩
    obtain ⟨q5, hq5, hp5⟩ := few5_ex [l[i].2.2.2.2.1] (by simp)
    obtain ⟨q, hq, hp⟩ := few11_c l dd (i + 1) (by omega)
    have hs : ∀ k, althinglaw11_Few.c4 (k + 1) l (i : Int) = (althinglaw05_Few k [l[i].2.2.2.2.1]).bind fun r0 => bif !r0 then some false else althinglaw11_Few.c2 k l ((i + 1 : Nat) : Int) := fun k => by
      rw [althinglaw11_Few.c4_eq, inI_tt hil, getD_at hil, wrap_at (by omega)]; rfl
    cases q5 with
    | false => exact ⟨false, Ev.step hs (Ev.bind hq5 (Ev.some _)), fun e => by cases e⟩
    | true =>
      refine ⟨q, Ev.step hs (Ev.bind hq5 (Ev.bif_ff rfl hq)), fun e => ⟨(hp e).1, fun x hx => ?_⟩⟩
      rw [drop_at hil] at hx
      rcases List.mem_cons.1 hx with rfl | hx
      · exact hp5 rfl _ List.mem_cons_self
      · exact (hp e).2 x hx
theorem few11_ex (l : List Rc) : ∃ q, Ev (fun k => althinglaw11_Few k l) q ∧ (q = true → l.length ≤ 20 ∧ fewR l) := by
  obtain ⟨q, hq, hp⟩ := few11_c l (min l.length 21) 0 (by omega)
  refine ⟨q, Ev.congr (fun k => althinglaw11_Few_eq k l) hq, fun e => ?_⟩
  have := hp e
  exact ⟨this.1, by omega, by simpa using this.2⟩
end Go.Proofs.YtjgcmmpfaemkiaaGreat.V
end
section
namespace Go.Proofs.YtjgcmmpfaemkiaaGreat.Strs
open Go.RowKit Go.Proofs.YtjgcmmpfaemkiaaGreatW.PrintWords Go.Proofs.YtjgcmmpfaemkiaaGreatW.PrintLast Go.Proofs.YtjgcmmpfaemkiaaGreatW.PrintMore Go.Proofs.YtjgcmmpfaemkiaaGreat.X
set_option linter.unusedSimpArgs false
set_option linter.unusedVariables false
theorem before_l0 (a b : ByteArray) (hb : b.size ≤ 2000) : ∀ d i k, i + d = b.size → i ≤ a.size → a.data.toList.take i = b.data.toList.take i → d + 1 ≤ k →
    althingref04_Before.l0 k a b (i : Int) = some (decide (a.data.toList.drop i < b.data.toList.drop i))
  | 0, i, k, h1, h2, h3, hk => by
    obtain ⟨k, rfl⟩ : ∃ k', k = k' + 1 := ⟨k - 1, by omega⟩
    unfold althingref04_Before.l0
    have hd : b.data.toList.drop i = [] := List.drop_eq_nil_of_le (by rw [← sz_len]; omega)
    rw [if_neg (by omega), hd]
    simp
  | d + 1, i, k, h1, h2, h3, hk => by
    obtain ⟨k, rfl⟩ : ∃ k', k = k' + 1 := ⟨k - 1, by omega⟩
    have hbl : i < b.data.toList.length := by rw [← sz_len]; omega
    unfold althingref04_Before.l0
    rw [if_pos (by omega), drop_at _ i hbl]
    by_cases hia : i = a.size
    · have hd : a.data.toList.drop i = [] := List.drop_eq_nil_of_le (by rw [← sz_len]; omega)
      rw [if_pos (by omega), hd]
      simp
    · have hal : i < a.data.toList.length := by rw [← sz_len]; omega
      rw [if_neg (by omega), if_pos (by omega), if_pos (by omega), bt_el a i hal, bt_el b i hbl, drop_at _ i hal]
      by_cases he : a.data.toList[i] = b.data.toList[i]
      · rw [if_pos (by rw [he]), show wrap64 ((i : Int) + 1) = ((i + 1 : Nat) : Int) by unfold wrap64; omega]
        rw [before_l0 a b hb d (i + 1) k (by omega) (by omega) (by rw [List.take_succ_eq_append_getElem hal, List.take_succ_eq_append_getElem hbl, h3, he]) (by omega)]
        congr 1
        rw [decide_eq_decide, List.cons_lt_cons_iff, he]
        constructor
        · intro h; exact .inr ⟨rfl, h⟩
        · rintro (h | h)
          · exact absurd h (by simp)
          · exact h.2
      · have hne : (a.data.toList[i]).toNat ≠ (b.data.toList[i]).toNat := fun e => he (UInt8.toNat_inj.1 e)
        rw [if_neg (by omega)]
        congr 1
        rw [decide_eq_decide, List.cons_lt_cons_iff]
        constructor
        · intro h; exact .inl (UInt8.lt_iff_toNat_lt.2 (by omega))
        · rintro (h | h)
          · have := UInt8.lt_iff_toNat_lt.1 h; omega
          · exact absurd h.1 he
theorem before_is (a b : ByteArray) (hb : b.size ≤ 2000) (k : Nat) (hk : 2001 ≤ k) : althingref04_Before.f k a b = some (decide (blt a b)) := by
  have := before_l0 a b hb b.size 0 k (by omega) (by omega) (by simp) (by omega)
  simpa [althingref04_Before.f, blt] using this
theorem in_l0 (l : List ByteArray) (x : ByteArray) (hl : l.length ≤ 2000) : ∀ d i k, i + d = l.length → d + 1 ≤ k → althingref04_In.l0 k l x (i : Int) = some (inB (l.drop i) x)
  | 0, i, k, h1, hk => by
    obtain ⟨k, rfl⟩ : ∃ k', k = k' + 1 := ⟨k - 1, by omega⟩
    unfold althingref04_In.l0
    rw [if_neg (by omega), List.drop_eq_nil_of_le (by omega)]
    rfl
  | d + 1, i, k, h1, hk => by
    obtain ⟨k, rfl⟩ : ∃ k', k = k' + 1 := ⟨k - 1, by omega⟩
    have hil : i < l.length := by omega
    have e : rdOf ByteArray.empty l (i : Int) = l[i] := by unfold rdOf; rw [Int.toNat_natCast]; simp [List.getD_eq_getElem?_getD, hil]
    unfold althingref04_In.l0
    rw [if_pos (by omega), if_pos (by omega), e, List.drop_eq_getElem_cons hil]
    by_cases hx : l[i] = x
    · rw [if_pos (by rw [hx]), hx]; simp [inB]
    · have hne : ¬ l[i].data.toList = x.data.toList := fun e => hx (bytes_ext e)
      rw [if_neg (by rw [toList_eq, toList_eq]; exact hne), show wrap64 ((i : Int) + 1) = ((i + 1 : Nat) : Int) by unfold wrap64; omega, in_l0 l x hl d (i + 1) k (by omega) (by omega)]
      unfold inB
      rw [List.any_cons, decide_eq_false hne, Bool.false_or]
theorem in_is (l : List ByteArray) (x : ByteArray) (hl : l.length ≤ 2000) (k : Nat) (hk : 2001 ≤ k) : althingref04_In.f k l x = some (inB l x) := by
  have := in_l0 l x hl l.length 0 k (by omega) (by omega)
  simpa [althingref04_In.f] using this
end Go.Proofs.YtjgcmmpfaemkiaaGreat.Strs
end
section
namespace Go.Proofs.YtjgcmmpfaemkiaaGreat.Strs
open Go.RowKit Go.Proofs.YtjgcmmpfaemkiaaGreatW.PrintWords Go.Proofs.YtjgcmmpfaemkiaaGreatW.PrintLast Go.Proofs.YtjgcmmpfaemkiaaGreatW.PrintMore Go.Proofs.YtjgcmmpfaemkiaaGreat.X
set_option linter.unusedSimpArgs false
set_option linter.unusedVariables false
theorem join_l1 (l : List ByteArray) (hl : l.length ≤ 80) (hz : ∀ x ∈ l, x.size ≤ 2000) (i : Nat) (hi : i < l.length) (K : Nat)
    (h0 : ∀ out k, out.Pairwise blt → (∀ x, x ∈ out ↔ x ∈ l.take (i + 1)) → out.length ≤ i + 1 → K ≤ k → ∃ r, althingref04_Join.l0 k out l ((i + 1 : Nat) : Int) = some r ∧ JoinedTo l r)
    (out : List ByteArray) (hs : out.Pairwise blt) (hm : ∀ x, x ∈ out ↔ x ∈ l.take i) (hn : out.length ≤ i) (hx : l[i] ∉ out) :
    ∀ d q k, q + d = out.length → (∀ y ∈ out.take q, blt y l[i]) → K + 2001 + d + 1 ≤ k → ∃ r, althingref04_Join.l1 k out l (i : Int) (q : Int) = some r ∧ JoinedTo l r := by
  have hmem : ∀ q y, y ∈ out.take q ++ [l[i]] ++ out.drop q ↔ y ∈ l.take (i + 1) := fun q y => by
    rw [ins_mem, hm, List.take_succ_eq_append_getElem hi, List.mem_append, List.mem_singleton]
  have hw : wrap64 ((i : Int) + 1) = ((i + 1 : Nat) : Int) := by unfold wrap64; omega
  intro d
  induction d with
  | zero =>
    intro q k hq hlow hk
    obtain ⟨k, rfl⟩ : ∃ k', k = k' + 1 := ⟨k - 1, by omega⟩
    obtain rfl : q = out.length := by omega
    have hd : out.drop out.length = [] := List.drop_eq_nil_of_le (Nat.le_refl _)
    obtain ⟨r, hr, hj⟩ := h0 (out.take out.length ++ [l[i]] ++ out.drop out.length) k (ins_sorted out l[i] out.length hs hlow (by rw [hd]; simp)) (hmem _) (by rw [ins_len]; omega) (by omega)
    refine ⟨r, ?_, hj⟩
    unfold althingref04_Join.l1
    rw [if_neg (by omega)]
    simp only [Option.bind_some, Int.toNat_natCast, List.nil_append, rd_el l i hi]
    rw [if_pos (by omega), if_pos (by omega), if_pos (by simp), if_pos (by omega), if_pos (by omega), if_pos (by simp; omega), if_pos (by simp; omega), hw]
    exact hr
  | succ d ih =>
    intro q k hq hlow hk
    obtain ⟨k, rfl⟩ : ∃ k', k = k' + 1 := ⟨k - 1, by omega⟩
    have hql : q < out.length := by omega
    unfold althingref04_Join.l1
    rw [if_pos (by omega), if_pos (by omega), if_pos (by omega), if_pos (by omega), rd_el l i hi, rd_el out q hql, before_is _ _ (hz _ (List.getElem_mem hi)) k (by omega)]
    simp only [Option.bind_some]
    by_cases hb : blt out[q] l[i]
    · rw [if_pos (decide_eq_true hb), show wrap64 ((q : Int) + 1) = ((q + 1 : Nat) : Int) by unfold wrap64; omega]
      refine ih (q + 1) k (by omega) ?_ (by omega)
      intro y hy
      rw [List.take_succ_eq_append_getElem hql, List.mem_append, List.mem_singleton] at hy
      rcases hy with hy | rfl
      · exact hlow y hy
      · exact hb
    · rw [if_neg (by rw [decide_eq_true_eq]; exact hb)]
      obtain ⟨r, hr, hj⟩ := h0 (out.take q ++ [l[i]] ++ out.drop q) k (ins_sorted out l[i] q hs hlow (head_below out l[i] q hs hql hx hb)) (hmem _) (by rw [ins_len]; omega) (by omega)
      refine ⟨r, ?_, hj⟩
      simp only [Int.toNat_natCast, List.nil_append]
      rw [if_pos (by omega), if_pos (by simp; omega), if_pos (by simp; omega), if_pos (by simp; omega), hw]
      exact hr
theorem join_l0 (l : List ByteArray) (hl : l.length ≤ 80) (hz : ∀ x ∈ l, x.size ≤ 2000) : ∀ d i, i + d = l.length → ∃ K, ∀ out k, out.Pairwise blt → (∀ x, x ∈ out ↔ x ∈ l.take i) → out.length ≤ i → K ≤ k → ∃ r, althingref04_Join.l0 k out l (i : Int) = some r ∧ JoinedTo l r
  | 0, i, h => ⟨1, fun out k hs hm hn hk => by
      obtain ⟨k, rfl⟩ : ∃ k', k = k' + 1 := ⟨k - 1, by omega⟩
      refine ⟨out, ?_, hs, fun x => by rw [hm, List.take_of_length_le (by omega)]⟩
      unfold althingref04_Join.l0
      rw [if_neg (by omega)]⟩
  | d + 1, i, h => by
    obtain ⟨K, hK⟩ := join_l0 l hl hz d (i + 1) (by omega)
    have hi : i < l.length := by omega
    refine ⟨K + 2001 + i + 3, fun out k hs hm hn hk => ?_⟩
    obtain ⟨k, rfl⟩ : ∃ k', k = k' + 1 := ⟨k - 1, by omega⟩
    unfold althingref04_Join.l0
    rw [if_pos (by omega), if_pos (by omega), rd_el l i hi, in_is out _ (by omega) k (by omega)]
    simp only [Option.bind_some]
    by_cases hx : l[i] ∈ out
    · rw [if_pos ((inB_iff _ _).2 hx), show wrap64 ((i : Int) + 1) = ((i + 1 : Nat) : Int) by unfold wrap64; omega]
      refine hK out k hs (fun x => ?_) (by omega) (by omega)
      rw [List.take_succ_eq_append_getElem hi, List.mem_append, List.mem_singleton, hm]
      constructor
      · exact .inl
      · rintro (h | rfl)
        · exact h
        · exact (hm _).1 hx
    · rw [if_neg (fun e => hx ((inB_iff _ _).1 e))]
      exact join_l1 l hl hz i hi K (fun out k a b c d => hK out k a b c d) out hs hm hn hx out.length 0 k (by omega) (by simp) (by omega)
theorem refJoin_is (a b : List ByteArray) (ha : few a) (hb : few b) : ∃ K, ∀ k, K ≤ k → ∃ r, althingref04_Join.f k a b = some r ∧ Joined a b r := by
  obtain ⟨K, hK⟩ := join_l0 (a ++ b) (by rw [List.length_append]; have := ha.1; have := hb.1; omega) (fun x hx => by rcases List.mem_append.1 hx with h | h; have := ha.2 x h; omega; have := hb.2 x h; omega) (a ++ b).length 0 (by omega)
  refine ⟨K, fun k hk => ?_⟩
  obtain ⟨r, hr, hj⟩ := hK [] k (by simp) (by simp) (by simp) hk
  refine ⟨r, ?_, hj.1, fun x => (hj.2 x).trans List.mem_append⟩
  unfold althingref04_Join.f
  simp only [Option.bind_some, List.nil_append, List.length_nil]
  have := ha.1
  have := hb.1
  rw [if_pos (by omega), if_pos (by omega)]
  exact hr
end Go.Proofs.YtjgcmmpfaemkiaaGreat.Strs
end
section
namespace Go.Proofs.YtjgcmmpfaemkiaaGreat.V
open Go Go.Vm Go.Proofs.YtjgcmmpfaemkiaaGreat.Strs
set_option linter.unusedVariables false
set_option linter.unusedSimpArgs false
theorem rjoin_ev (a b : List ByteArray) (ha : few a) (hb : few b) : Ev (fun k => althingref04_Join k a b) (joinB a b) := by
  obtain ⟨K, hK⟩ := refJoin_is a b ha hb
  refine ⟨K, fun k hk => ?_⟩
  obtain ⟨r, hr, hj⟩ := hK k hk
  show althingref04_Join k a b = _
  unfold althingref04_Join
  rw [decide_eq_true (show a.length ≤ 1000000 by have := ha.1; omega), decide_eq_true (show b.length ≤ 1000000 by have := hb.1; omega)]
  show Go.Proofs.YtjgcmmpfaemkiaaGreat.X.althingref04_Join.f k a b = _
  rw [hr, hj.unique (joinB_joined a b)]
theorem few_nil : few [] := ⟨by simp, by simp⟩
theorem joinB_flat (l m : List ByteArray) : joinB (l ++ m) [] = joinB l m :=
  Joined.unique (a := l) (b := m) ⟨(joinB_joined (l ++ m) []).1, fun x => by rw [(joinB_joined (l ++ m) []).2 x, List.mem_append]; simp⟩ (joinB_joined l m)
theorem rkeys_c7 (c : Cm) (h : small c) (s0 : List ByteArray) (hs : s0.length ≤ 20 ∧ ∀ x ∈ s0, x.size ≤ 100) : Ev (fun k => althingref05_Keys.c7 k s0 0 c) (joinB (s0 ++ wk c.2.2.2.2.2.1) []) := by
  have hw := h.2.1
  have := Ev.fold0 c.2.2.2.2.2.1 (fun k s j => althingref05_Keys.c7 k s j c) (fun s x => s ++ [x.1]) (fun s => joinB s []) (fun i s => s.length ≤ 20 + i ∧ ∀ x ∈ s, x.size ≤ 100) s0 ⟨by have := hs.1; omega, hs.2⟩
    (fun s hs => Ev.step (f := fun k => (althingref04_Join k s []).bind fun r0 => some r0) (fun k => by rw [althingref05_Keys.c7_eq, lt_ff (Nat.lt_irrefl _)]; rfl) (Ev.bind (rjoin_ev s [] ⟨by have := hs.1; omega, hs.2⟩ few_nil) (Ev.some _)))
    (fun i s hi hs => ⟨⟨by rw [List.length_append, List.length_singleton]; have := hs.1; omega, fun x hx => by
        rcases List.mem_append.1 hx with hx | hx
        · exact hs.2 x hx
        · rw [List.mem_singleton.1 hx]; exact (h.2.2.2 _ (List.getElem_mem hi)).1⟩,
      fun r hr => Ev.step (fun k => by rw [althingref05_Keys.c7_eq, lt_tt hi, inI_tt hi, getD_at hi, wrap_at (by omega), lt32 (by have := hs.1; omega)]; rfl) hr⟩)
  rw [foldl_app] at this
  exact this
theorem rkeys_ev (c : Cm) (h : small c) : Ev (fun k => althingref05_Keys k c) (keysV c) := by
  have hr := h.1
  refine Ev.congr (fun k => althingref05_Keys_eq k c) ?_
  have := Ev.fold0 c.2.2.2.2.1 (fun k s j => althingref05_Keys.c3 k s j c) (fun s x => s ++ [x.1]) (fun s => joinB (s ++ wk c.2.2.2.2.2.1) []) (fun i s => s.length ≤ i ∧ ∀ x ∈ s, x.size ≤ 100) [] ⟨by simp, by simp⟩
    (fun s hs => Ev.step (f := fun k => althingref05_Keys.c7 k s 0 c) (fun k => by rw [althingref05_Keys.c3_eq, lt_ff (Nat.lt_irrefl _)]; rfl) (rkeys_c7 c h s ⟨by have := hs.1; omega, hs.2⟩))
    (fun i s hi hs => ⟨⟨by rw [List.length_append, List.length_singleton]; have := hs.1; omega, fun x hx => by
        rcases List.mem_append.1 hx with hx | hx
        · exact hs.2 x hx
        · rw [List.mem_singleton.1 hx]; exact h.2.2.1 _ (List.getElem_mem hi)⟩,
      fun r hr => Ev.step (fun k => by rw [althingref05_Keys.c3_eq, lt_tt hi, inI_tt hi, getD_at hi, wrap_at (by omega), lt32 (by have := hs.1; omega)]; rfl) hr⟩)
  rw [foldl_app, List.nil_append, joinB_flat] at this
  exact this
theorem rin_ev (m : List ByteArray) (x : ByteArray) (hm : m.length ≤ 1000000) : Ev (fun k => althingref04_In k m x) (m.any fun y => decide (x = y)) := by
  refine Ev.congr (fun k => althingref04_In_eq k m x) (Ev.any0 m (fun k j => althingref04_In.c2 k m x j) _ (Ev.step (f := fun _ => some false) (fun k => by rw [althingref04_In.c2_eq, lt_ff (Nat.lt_irrefl _)]; rfl) (Ev.some _)) fun i hi => ⟨fun hp => ?_, fun hp r hr => ?_⟩)
  · exact Ev.step (f := fun _ => some true) (fun k => by rw [althingref04_In.c2_eq, lt_tt hi, inI_tt hi, getD_at hi, decide_eq_true (of_decide_eq_true hp).symm]; rfl) (Ev.some _)
  · exact Ev.step (fun k => by rw [althingref04_In.c2_eq, lt_tt hi, inI_tt hi, getD_at hi, decide_eq_false (fun e => of_decide_eq_false hp (Eq.symm e)), wrap_at (by omega)]; rfl) hr
theorem rmeet_ev (l m : List ByteArray) (hl : l.length ≤ 1000000) (hm : m.length ≤ 1000000) : Ev (fun k => althingref05_Interfere.c8 k l m 0) (meetV l m) := by
  refine Ev.any0 l (fun k j => althingref05_Interfere.c8 k l m j) _ (Ev.step (f := fun _ => some false) (fun k => by rw [althingref05_Interfere.c8_eq, lt_ff (Nat.lt_irrefl _)]; rfl) (Ev.some _)) fun i hi => ?_
  have hin := rin_ev m l[i] hm
  have e : ∀ k, althingref05_Interfere.c8 (k + 1) l m (i : Int) = (althingref04_In k m l[i]).bind fun r0 => bif r0 then some true else althingref05_Interfere.c8 k l m ((i + 1 : Nat) : Int) := fun k => by
    rw [althingref05_Interfere.c8_eq, lt_tt hi, inI_tt hi, getD_at hi, wrap_at (by omega)]; rfl
  refine ⟨fun hp => ?_, fun hp r hr => ?_⟩
  · rw [hp] at hin
    exact Ev.step e (Ev.bind hin (Ev.some _))
  · rw [hp] at hin
    exact Ev.step e (Ev.bind hin hr)
theorem rinter_ev (a b : Cm) (ha : small a) (hb : small b) : Ev (fun k => althingref05_Interfere k a b) (interV a b) := by
  refine Ev.congr (fun k => althingref05_Interfere_eq k a b) ?_
  unfold interV
  cases h1 : a.1 == 0 with
  | true => exact Ev.some _
  | false =>
    refine Ev.bif_ff rfl ?_
    cases h2 : b.1 == 0 with
    | true => exact Ev.some _
    | false =>
      refine Ev.bif_ff rfl (Ev.step (fun k => althingref05_Interfere.c3_eq k a b) ?_)
      cases h3 : Ty.beq Ty_api_Instance a.2.1 b.2.1 with
      | true => exact Ev.some _
      | false =>
        refine Ev.bif_ff rfl (Ev.bind (rkeys_ev a ha) (Ev.bind (rkeys_ev b hb) (rmeet_ev _ _ ?_ ?_)))
        · have := keysV_len ha; omega
        · have := keysV_len hb; omega
theorem rlast_ev (l : List Rc) (hl : l.length ≤ 1000000) (i : Nat) (hi : i < l.length) : Ev (fun k => althingref11_Last k l (i : Int)) (!(l.drop (i + 1)).any (sameI l[i])) := by
  refine Ev.congr (fun k => althingref11_Last_eq k l (i : Int)) ?_
  rw [wrap_at (by omega)]
  refine Ev.nany l (fun k j => althingref11_Last.c2 k l (i : Int) j) _ (Ev.step (f := fun _ => some true) (fun k => by rw [althingref11_Last.c2_eq, lt_ff (Nat.lt_irrefl _)]; rfl) (Ev.some _)) (fun j hj => ⟨fun hp => ?_, fun hp r hr => ?_⟩) (l.length - (i + 1)) (i + 1) (by omega)
  · unfold sameI at hp
    exact Ev.step (f := fun _ => some false) (fun k => by rw [althingref11_Last.c2_eq, lt_tt hj, inI_tt hj, inI_tt hi, getD_at hj, getD_at hi, hp]; rfl) (Ev.some _)
  · unfold sameI at hp
    exact Ev.step (fun k => by rw [althingref11_Last.c2_eq, lt_tt hj, inI_tt hj, inI_tt hi, getD_at hj, getD_at hi, hp, wrap_at (by omega)]; rfl) hr
theorem le0_tt {n : Int} (h : decide (n > 0) = false) : decide (n ≤ 0) = true := decide_eq_true (by have := of_decide_eq_false h; omega)
theorem le0_ff {n : Int} (h : decide (n > 0) = true) : decide (n ≤ 0) = false := decide_eq_false (by have := of_decide_eq_true h; omega)
theorem ragainst_c3 (l : List Rc) (h : fewR l) (i : In) (c : Cm) (hc : small c) : ∀ d j (acc : List Rc), j + d = l.length → acc.length ≤ j → Ev (fun k => althingref11_Against.c3 k l acc (j : Int) i c) (acc ++ (knownV (l.drop j)).filter fun x => !outV i c x)
  | 0, j, acc, hj, ha => by
    obtain rfl : j = l.length := by omega
    rw [List.drop_length, knownV, List.filter_nil, List.append_nil]
    exact Ev.step (fun k => by rw [althingref11_Against.c3_eq, lt_ff (Nat.lt_irrefl _)]; rfl) (Ev.some acc)
  | d + 1, j, acc, hj, ha => by
    have hjl : j < l.length := by omega
    have hl := h.1
    have hs := h.2 _ (List.getElem_mem hjl)
    rw [drop_at hjl, knownV]
    have next : ∀ acc' : List Rc, acc'.length ≤ j + 1 → Ev (fun k => althingref11_Against.c4 k l acc' (j : Int) i c) (acc' ++ (knownV (l.drop (j + 1))).filter fun x => !outV i c x) := fun acc' ha' =>
      Ev.step (fun k => by rw [althingref11_Against.c4_eq, wrap_at (by omega)]) (ragainst_c3 l h i c hc d (j + 1) acc' (by omega) ha')
    have next' := next acc (by omega)
    refine Ev.step (fun k => by rw [althingref11_Against.c3_eq, lt_tt hjl, inI_tt hjl, getD_at hjl]; exact cond_true _ _) (Ev.bind (rlast_ev l (by omega) j hjl) ?_)
    cases hc0 : (l.drop (j + 1)).any (sameI l[j]) with
    | true => rw [if_pos rfl]; exact Ev.bif_ff rfl next'
    | false =>
      rw [if_neg (by simp)]
      refine Ev.bif_tt rfl (Ev.bif_tt rfl ?_)
      rw [List.filter_cons]
      cases h1 : Ty.beq Ty_api_Instance l[j].1 i with
      | true =>
        rw [if_neg (by unfold outV; rw [h1]; simp)]
        exact Ev.bif_ff rfl next'
      | false =>
        refine Ev.bif_tt rfl (Ev.bif_tt rfl ?_)
        cases h2 : decide (l[j].2.1 > 0) with
        | false =>
          rw [if_neg (by unfold outV; rw [h1, le0_tt h2]; simp)]
          exact Ev.bif_ff rfl next'
        | true =>
          have h2' : decide (l[j].2.1 ≤ 0) = false := le0_ff h2
          refine Ev.bif_tt rfl (Ev.bif_tt rfl (Ev.bind (rinter_ev _ _ hs hc) ?_))
          cases h3 : interV l[j].2.2.2.2.1 c with
          | false =>
            rw [if_neg (by unfold outV; rw [h1, h2', h3]; simp)]
            exact Ev.bif_ff rfl next'
          | true =>
            rw [if_pos (by unfold outV; rw [h1, h2', h3]; rfl)]
            have := next (acc ++ [l[j]]) (by rw [List.length_append, List.length_singleton]; omega)
            rw [List.append_assoc, List.singleton_append] at this
            exact Ev.bif_tt rfl (Ev.step (fun k => by rw [althingref11_Against.c6_eq, inI_tt hjl, getD_at hjl, lt32 (by omega)]; rfl) this)
theorem ragainst_ev (l : List Rc) (h : fewR l) (i : In) (c : Cm) (hc : small c) : Ev (fun k => althingref11_Against k l i c) (againstV l i c) := by
  have := ragainst_c3 l h i c hc l.length 0 [] (by omega) (by simp)
  refine Ev.congr (fun k => althingref11_Against_eq k l i c) ?_
  rw [List.drop_zero, List.nil_append] at this
  exact this
theorem set_same (d : List Int) (n : Nat) : d.set n (d.getD n 0) = d := by
  by_cases h : n < d.length
  · have : d.getD n 0 = d[n] := by simp [List.getD_eq_getElem?_getD, h]
    rw [this, List.set_getElem_self]
  · exact List.set_eq_of_length_le (by omega)
theorem rwith_c2 (p q : Int) (z : Dp) : ∀ (dd j : Nat) (d : Dp), j + dd = 7 → Ev (fun k => althingref03_With.c2 k (j : Int) d (p, q) z) (bif decide ((j : Int) ≤ p) && decide (p < 7) then withV d (p, q) else d)
  | 0, j, d, hj => by
    obtain rfl : j = 7 := by omega
    refine Ev.step (f := fun _ => some d) (fun k => by rw [althingref03_With.c2_eq, decide_eq_false (by omega)]; rfl) ?_
    rw [show (decide (((7 : Nat) : Int) ≤ p) && decide (p < 7)) = false by rw [Bool.and_eq_false_iff, decide_eq_false_iff_not, decide_eq_false_iff_not]; omega]
    exact Ev.some _
  | dd + 1, j, d, hj => by
    have hj7 : decide ((j : Int) < 7) = true := decide_eq_true (by omega)
    have next : ∀ d' : Dp, Ev (fun k => althingref03_With.c3 k (j : Int) d' (p, q) z) (bif decide (((j + 1 : Nat) : Int) ≤ p) && decide (p < 7) then withV d' (p, q) else d') := fun d' =>
      Ev.step (fun k => by rw [althingref03_With.c3_eq, wrap_at (by omega)]) (rwith_c2 p q z dd (j + 1) d' (by omega))
    by_cases he : p = (j : Int)
    · subst he
      have hb : ((j : Int) == (j : Int)) = true := by simp
      have h1 : (decide (((j + 1 : Nat) : Int) ≤ (j : Int)) && decide ((j : Int) < 7)) = false := by
        rw [Bool.and_eq_false_iff, decide_eq_false_iff_not]; omega
      have h2 : (decide ((j : Int) ≤ (j : Int)) && decide ((j : Int) < 7)) = true := by
        rw [Bool.and_eq_true, decide_eq_true_iff, decide_eq_true_iff]; omega
      rw [h2]
      show Ev _ (withV d ((j : Int), q))
      have hw : withV d ((j : Int), q) = List.set (α := Int) d (Int.toNat (j : Int)) (max (List.getD (α := Int) d (Int.toNat (j : Int)) 0) q) := by
        unfold withV
        rw [show inI (((j : Int), q) : In).1 7 = true from inI_tt (show j < 7 by omega)]; rfl
      rw [hw]
      have hc2 : ∀ k, althingref03_With.c2 (k + 1) (j : Int) d ((j : Int), q) z = bif decide (q > List.getD (α := Int) d (Int.toNat (j : Int)) 0) then althingref03_With.c3 k (j : Int) (List.set (α := Int) d (Int.toNat (j : Int)) q) ((j : Int), q) z else althingref03_With.c3 k (j : Int) d ((j : Int), q) z := fun k => by
        rw [althingref03_With.c2_eq, hj7, show ((((j : Int), q) : In).1 == (j : Int)) = true from hb, inI_tt (show j < 7 by omega)]; rfl
      have hss := set_same d (Int.toNat (j : Int))
      generalize List.getD (α := Int) d (Int.toNat (j : Int)) 0 = g at hc2 hss ⊢
      cases hg : decide (q > g) with
      | true =>
        have hn := next (List.set (α := Int) d (Int.toNat (j : Int)) q)
        rw [h1] at hn
        rw [Int.max_eq_right (by have := of_decide_eq_true hg; omega)]
        exact Ev.step (fun k => by rw [hc2, hg]; rfl) hn
      | false =>
        have hn := next d
        rw [h1] at hn
        rw [Int.max_eq_left (by have := of_decide_eq_false hg; omega)]
        rw [hss]
        exact Ev.step (fun k => by rw [hc2, hg]; rfl) hn
    · have hb : (p == (j : Int)) = false := by rw [beq_eq_false_iff_ne]; exact he
      have hn := next d
      have : (decide (((j + 1 : Nat) : Int) ≤ p) && decide (p < 7)) = (decide ((j : Int) ≤ p) && decide (p < 7)) := by
        congr 1
        exact decide_eq_decide.2 (by omega)
      rw [this] at hn
      exact Ev.step (fun k => by rw [althingref03_With.c2_eq, hj7, show (((p, q) : In).1 == (j : Int)) = false from hb]; rfl) hn
theorem rwith_ev (d : Dp) (i : In) : Ev (fun k => althingref03_With k d i) (withV d i) := by
  obtain ⟨p, q⟩ := i
  have := rwith_c2 p q (Ty.zero Ty_api_Deps) 7 0 d (by omega)
  refine Ev.congr (fun k => althingref03_With_eq k d (p, q)) ?_
  cases hb : (decide (((0 : Nat) : Int) ≤ p) && decide (p < 7)) with
  | true => rw [hb] at this; exact this
  | false =>
    rw [hb] at this
    have hw : withV d (p, q) = d := by unfold withV; rw [show inI ((p, q) : In).1 7 = false from hb]; rfl
    rw [hw]
    exact this
theorem rnext (n : Int) : IntKind.wrap .i64 (min n 1099511627775 + 1) = bif decide (n < 1099511627776) then IntKind.wrap .i64 (n + 1) else 1099511627776 := by
  by_cases h : n < 1099511627776
  · rw [decide_eq_true h, Int.min_eq_left (by omega)]; rfl
  · rw [decide_eq_false h, Int.min_eq_right (by omega)]; rfl
theorem rattrs_ev (l : List Rc) (h : fewR l) (i : In) (c : Cm) (hc : small c) (seq : Int) (d : Dp) : Ev (fun k => althingref11_Attrs k l i c seq d) (attrsV l i c seq d) := by
  refine Ev.congr (fun k => althingref11_Attrs_eq k l i c seq d) (Ev.bind (ragainst_ev l h i c hc) ?_)
  have hl := (againstV_sub l i c).length_le
  have h1 := h.1
  unfold attrsV
  generalize againstV l i c = al at hl ⊢
  have := Ev.fold0 al (fun k (s : Int × Dp) j => althingref11_Attrs.c3 k s.1 al j s.2 (Ty.zero Ty_api_Deps)) attrStep id (fun _ _ => True) (seq, d) trivial
    (fun s _ => Ev.step (f := fun _ => some s) (fun k => by rw [althingref11_Attrs.c3_eq, lt_ff (Nat.lt_irrefl _)]; rfl) (Ev.some s))
    (fun j s hj _ => ⟨trivial, fun r hr => by
      have h11 : ∀ n : Int, n = max s.1 (IntKind.wrap .i64 (min al[j].2.2.2.2.2.1 1099511627775 + 1)) → Ev (fun k => althingref11_Attrs.c11 k n al (j : Int) s.2 (Ty.zero Ty_api_Deps)) r := fun n hn => by
        subst hn
        exact Ev.step (fun k => by rw [althingref11_Attrs.c11_eq, inI_tt hj, getD_at hj, wrap_at (by omega)]; exact cond_true _ _) (Ev.bind (rwith_ev _ _) hr)
      have h9 : Ev (fun k => althingref11_Attrs.c9 k s.1 al (j : Int) (IntKind.wrap .i64 (min al[j].2.2.2.2.2.1 1099511627775 + 1)) s.2 (Ty.zero Ty_api_Deps)) r := by
        refine Ev.step (fun k => althingref11_Attrs.c9_eq ..) (Ev.bif_ (fun e => h11 _ ?_) (fun e => h11 _ ?_))
        · exact (Int.max_eq_right (by have := of_decide_eq_true e; omega)).symm
        · exact (Int.max_eq_left (by have := of_decide_eq_false e; omega)).symm
      rw [rnext] at h9
      cases hb : decide (al[j].2.2.2.2.2.1 < 1099511627776) with
      | true =>
        rw [hb] at h9
        exact Ev.step (fun k => by rw [althingref11_Attrs.c3_eq, lt_tt hj, inI_tt hj, getD_at hj, hb]; rfl) h9
      | false =>
        rw [hb] at h9
        exact Ev.step (fun k => by rw [althingref11_Attrs.c3_eq, lt_tt hj, inI_tt hj, getD_at hj, hb]; rfl) h9⟩)
  exact this
end Go.Proofs.YtjgcmmpfaemkiaaGreat.V
end
section
namespace Go.Proofs.YtjgcmmpfaemkiaaGreat.V
open Go Go.Vm Go.Proofs.YtjgcmmpfaemkiaaGreat.Strs
set_option linter.unusedVariables false
set_option linter.unusedSimpArgs false
abbrev Ms := Ty_api_Message.den
def inR (n lo hi : Int) : Bool := decide (n ≥ lo) && decide (n ≤ hi)
abbrev big40 : Int := 1099511627776
def rbV (b : In) : Bool := inR b.1 0 big40 && inR b.2 0 6
def instV (b : In) : Bool := inR b.1 0 6 && inR b.2 1 1048576
def stampV (b : In) : Bool := inR b.1 0 big40 && inR b.2 0 3
def txnV (b : In) : Bool := inR b.1 0 3 && inR b.2 1 big40
theorem wwithin_at (k) (n lo hi : Int) : wire_within k n lo hi = some (inR n lo hi) := by rw [wire_within_eq, cs]; rfl
theorem swithin_at (k) (n lo hi : Int) : stamp_within_int k n lo hi = some (inR n lo hi) := by rw [stamp_within_int_eq, cs]; rfl
theorem srb_at (k) (b : In) : stamp_RightBallot k b = some (rbV b) := by simp only [stamp_RightBallot_eq, swithin_at, Option.bind_some, cs]; rfl
theorem sinst_at (k) (b : In) : stamp_RightInst k b = some (instV b) := by simp only [stamp_RightInst_eq, swithin_at, Option.bind_some, cs]; rfl
theorem sstamp_at (k) (b : In) : stamp_RightStamp k b = some (stampV b) := by simp only [stamp_RightStamp_eq, swithin_at, Option.bind_some, cs]; rfl
theorem stxn_at (k) (b : In) : stamp_RightTxn k b = some (txnV b) := by simp only [stamp_RightTxn_eq, swithin_at, Option.bind_some, cs]; rfl
theorem rrb_at (k) (b : In) : althingref02_RightBallot k b = some (rbV b) := by rw [althingref02_RightBallot_eq, cs, cs, cs]; simp only [rbV, inR, Bool.and_assoc]
theorem rinst_at (k) (b : In) : althingref02_RightInst k b = some (instV b) := by rw [althingref02_RightInst_eq, cs, cs, cs]; simp only [instV, inR, Bool.and_assoc]
theorem rstamp_at (k) (b : In) : althingref02_RightStamp k b = some (stampV b) := by rw [althingref02_RightStamp_eq, cs, cs, cs]; simp only [stampV, inR, Bool.and_assoc]
theorem rtxn_at (k) (b : In) : althingref02_RightTxn k b = some (txnV b) := by rw [althingref02_RightTxn_eq, cs, cs, cs]; simp only [txnV, inR, Bool.and_assoc]
def lowP (a b c d : Int) : Bool := decide (a < c) || (a == c && decide (b < d))
def lowV (x y : In) : Bool := lowP x.1 x.2 y.1 y.2
def ordV (a b c d : Int) : Int := if lowP a b c d = true then -1 else if lowP c d a b = true then 1 else 0
theorem ord_neg (a b c d : Int) : decide (ordV a b c d < 0) = lowP a b c d := by
  unfold ordV
  split
  · rename_i h; rw [h]; rfl
  · rename_i h
    rw [Bool.not_eq_true] at h
    rw [h]
    split <;> rfl
theorem low_asym {a b c d : Int} (h : lowP a b c d = true) : lowP c d a b = false := by
  unfold lowP at *
  simp only [Bool.or_eq_true, decide_eq_true_eq, Bool.and_eq_true, beq_iff_eq] at h
  simp only [Bool.or_eq_false_iff, decide_eq_false_iff_not, Bool.and_eq_false_iff, beq_eq_false_iff_ne]
  omega
theorem ord_pos (a b c d : Int) : decide (ordV a b c d > 0) = lowP c d a b := by
  unfold ordV
  split
  · rename_i h; rw [low_asym h]; rfl
  · split
    · rename_i h; rw [h]; rfl
    · rename_i h
      rw [Bool.not_eq_true] at h
      rw [h]; rfl
theorem order_ev (a b c d : Int) : Ev (fun k => stamp_order k a b c d) (ordV a b c d) := by
  refine Ev.congr (fun k => stamp_order_eq k a b c d) ?_
  unfold ordV lowP
  by_cases h1 : a < c
  · simp only [decide_eq_true h1, Bool.true_or, ↓reduceIte]; exact Ev.some _
  · by_cases h2 : a = c
    · subst h2
      by_cases h3 : b < d
      · simp only [decide_eq_false h1, decide_eq_true h3, BEq.rfl, Bool.true_and, Bool.false_or, ↓reduceIte]; exact Ev.some _
      · simp only [decide_eq_false h1, decide_eq_false h3, BEq.rfl, Bool.true_and, Bool.false_or]
        refine Ev.bif_ff rfl (Ev.bif_tt rfl (Ev.bif_ff rfl (Ev.step (fun k => stamp_order.c3_eq k a b a d) (Ev.bif_tt (by simp) ?_))))
        by_cases h4 : b = d
        · subst h4
          simp only [BEq.rfl, decide_eq_false (show ¬ b < b by omega)]; exact Ev.some _
        · rw [show (b == d) = false from beq_eq_false_iff_ne.2 h4, decide_eq_true (show d < b by omega)]; exact Ev.some _
    · rw [decide_eq_false h1, show (a == c) = false from beq_eq_false_iff_ne.2 h2, show (c == a) = false from beq_eq_false_iff_ne.2 (Ne.symm h2), decide_eq_true (show c < a by omega)]
      refine Ev.bif_ff rfl (Ev.bif_ff rfl (Ev.step (fun k => stamp_order.c3_eq k a b c d) ?_))
      rw [show (a == c) = false from beq_eq_false_iff_ne.2 h2]
      exact Ev.some _
theorem rorder_at (k) (a b c d : Int) : althingref02_Order k a b c d = some (ordV a b c d) := by
  rw [althingref02_Order_eq]
  unfold ordV lowP
  rcases Int.lt_trichotomy a c with h1 | h1 | h1
  · simp only [decide_eq_true h1, Bool.true_or, ↓reduceIte]; rfl
  · subst h1
    rw [decide_eq_false (show ¬ a < a by omega)]
    simp only [BEq.rfl, Bool.true_and, Bool.false_or]
    rcases Int.lt_trichotomy b d with h2 | h2 | h2
    · simp only [decide_eq_true h2, ↓reduceIte]; rfl
    · subst h2
      rw [decide_eq_false (show ¬ b < b by omega)]; rfl
    · rw [decide_eq_false (show ¬ b < d by omega), decide_eq_true (show b > d by omega)]; rfl
  · rw [decide_eq_false (show ¬ a < c by omega), decide_eq_true (show a > c by omega), show (a == c) = false from beq_eq_false_iff_ne.2 (by omega)]; rfl
theorem cmpb_ev (x y : In) : Ev (fun k => stamp_CompareBallots k x y) (ordV x.1 x.2 y.1 y.2) := Ev.congr (fun k => stamp_CompareBallots_eq k x y) (Ev.ret (order_ev _ _ _ _))
theorem cmps_ev (x y : In) : Ev (fun k => stamp_CompareStamps k x y) (ordV x.1 x.2 y.1 y.2) := Ev.congr (fun k => stamp_CompareStamps_eq k x y) (Ev.ret (order_ev _ _ _ _))
theorem rlow_at (k) (x y : In) : althingref02_Lower k x y = some (lowV x y) := by rw [althingref02_Lower_eq, rorder_at, Option.bind_some, ord_neg]; rfl
theorem rbefore_at (k) (x y : In) : althingref02_Before k x y = some (lowV x y) := by rw [althingref02_Before_eq, rorder_at, Option.bind_some, ord_neg]; rfl
def okKey (s : ByteArray) : Bool := decide ((s.size : Int) ≥ 1) && decide ((s.size : Int) ≤ 8)
theorem kright_at (k) (s : ByteArray) : keys_Right k s = some (okKey s) := by rw [keys_Right_eq, cs]; rfl
theorem rkright_at (k) (s : ByteArray) : althingref04_Right k s = some (okKey s) := by
  rw [althingref04_Right_eq, cs]
  unfold okKey
  rw [show decide ((s.size : Int) > 0) = decide ((s.size : Int) ≥ 1) from decide_eq_decide.2 (by omega), show decide ((s.size : Int) < 9) = decide ((s.size : Int) ≤ 8) from decide_eq_decide.2 (by omega)]
theorem strAt_el (s : ByteArray) (i : Nat) (h : i < s.data.toList.length) : strAt s (i : Int) = ((s.data.toList[i]).toNat : Int) := by
  unfold strAt
  rw [Int.toNat_natCast, List.getD_eq_getElem?_getD, List.getElem?_eq_getElem h]; rfl
theorem rbefore_c2 (a b : ByteArray) (hb : b.size ≤ 2000) : ∀ d i, i + d = b.size → i ≤ a.size → Ev (fun k => althingref04_Before.c2 k a b (i : Int)) (Op.bytesLess (a.data.toList.drop i) (b.data.toList.drop i))
  | 0, i, h1, h2 => by
    have hd : b.data.toList.drop i = [] := List.drop_eq_nil_of_le (by rw [← sz_len]; omega)
    rw [hd, show Op.bytesLess (a.data.toList.drop i) [] = false by unfold Op.bytesLess; cases a.data.toList.drop i <;> rfl]
    exact Ev.step (f := fun _ => some false) (fun k => by rw [althingref04_Before.c2_eq, lt_ff (by omega)]; rfl) (Ev.some _)
  | d + 1, i, h1, h2 => by
    have hbl : i < b.data.toList.length := by rw [← sz_len]; omega
    have hbs : i < b.size := by omega
    rw [Strs.drop_at _ i hbl]
    by_cases hia : i = a.size
    · have hd : a.data.toList.drop i = [] := List.drop_eq_nil_of_le (by rw [← sz_len]; omega)
      rw [hd]
      exact Ev.step (f := fun _ => some true) (fun k => by rw [althingref04_Before.c2_eq, lt_tt hbs, show ((i : Int) == (a.size : Int)) = true by rw [hia]; simp]; rfl) (Ev.some _)
    · have hal : i < a.data.toList.length := by rw [← sz_len]; omega
      have has : i < a.size := by omega
      rw [Strs.drop_at _ i hal]
      have e : ∀ k, althingref04_Before.c2 (k + 1) a b (i : Int) = bif (strAt a i != strAt b i) then some (decide (strAt a i < strAt b i)) else althingref04_Before.c2 k a b ((i + 1 : Nat) : Int) := fun k => by
        rw [althingref04_Before.c2_eq, lt_tt hbs, show ((i : Int) == (a.size : Int)) = false from beq_eq_false_iff_ne.2 (by omega), inI_tt hbs, inI_tt has, wrap_at (by omega)]; rfl
      rw [strAt_el a i hal, strAt_el b i hbl] at e
      refine Ev.step e ?_
      have ih := rbefore_c2 a b hb d (i + 1) (by omega) (by omega)
      show Ev _ (decide (a.data.toList[i] < b.data.toList[i]) || (a.data.toList[i] == b.data.toList[i] && Op.bytesLess (a.data.toList.drop (i + 1)) (b.data.toList.drop (i + 1))))
      by_cases he : a.data.toList[i] = b.data.toList[i]
      · rw [he]
        rw [show decide (b.data.toList[i] < b.data.toList[i]) = false from decide_eq_false (fun h => by have := UInt8.lt_iff_toNat_lt.1 h; omega), Bool.false_or, BEq.rfl, Bool.true_and]
        exact Ev.bif_ff (by simp) ih
      · have hne : (a.data.toList[i]).toNat ≠ (b.data.toList[i]).toNat := fun e => he (UInt8.toNat_inj.1 e)
        rw [show (a.data.toList[i] == b.data.toList[i]) = false from beq_eq_false_iff_ne.2 he, Bool.false_and, Bool.or_false]
        refine Ev.bif_tt (by rw [bne_iff_ne]; omega) ((Ev.some _).to ?_)
        rw [decide_eq_decide, UInt8.lt_iff_toNat_lt]
        omega
theorem rbefore4_ev (a b : ByteArray) (hb : b.size ≤ 2000) : Ev (fun k => althingref04_Before k a b) (strLt a b) := by
  have := rbefore_c2 a b hb b.size 0 (by omega) (by omega)
  refine Ev.congr (fun k => althingref04_Before_eq k a b) ?_
  unfold strLt
  rw [toList_eq, toList_eq]
  simpa using this
def keyAt (l : List ByteArray) (i : Nat) : Bool := okKey (l.getD i ⟨#[]⟩) && (decide (i = 0) || strLt (l.getD (i - 1) ⟨#[]⟩) (l.getD i ⟨#[]⟩))
def keysOk (l : List ByteArray) : Bool := (List.range l.length).all (keyAt l) && decide ((l.length : Int) ≤ 8)
theorem wrap_back {i : Nat} (h0 : 0 < i) (h : i ≤ 1000000) : IntKind.wrap .i64 ((i : Int) - 1) = ((i - 1 : Nat) : Int) := by rw [wrap_id (by omega) (by omega)]; omega
theorem krights_ev (l : List ByteArray) (hl : l.length ≤ 1000) : Ev (fun k => keys_Rights k l) (keysOk l) := by
  refine Ev.congr (fun k => keys_Rights_eq k l) (Ev.allN l.length (fun k j => keys_Rights.c2 k l l (l.length : Int) j) (keyAt l) _ ?_ ?_)
  · exact Ev.step (f := fun _ => some (decide ((l.length : Int) ≤ 8))) (fun k => by rw [keys_Rights.c2_eq, lt_ff (Nat.lt_irrefl _)]; rfl) (Ev.some _)
  · intro i hi r hr
    by_cases h0 : i = 0
    · subst h0
      refine Ev.step (f := fun k => bif !okKey (l.getD 0 ⟨#[]⟩) then some false else keys_Rights.c2 k l l (l.length : Int) ((0 + 1 : Nat) : Int)) (fun k => ?_) ((Ev.nand_ fun _ => hr).to ?_)
      · rw [keys_Rights.c2_eq, lt_tt hi, inI_tt hi, kright_at, wrap_at (by omega)]; rfl
      · unfold keyAt; simp
    · refine Ev.step (f := fun k => bif !okKey (l.getD i ⟨#[]⟩) then some false else bif !strLt (l.getD (i - 1) ⟨#[]⟩) (l.getD i ⟨#[]⟩) then some false else keys_Rights.c2 k l l (l.length : Int) ((i + 1 : Nat) : Int)) (fun k => ?_) ((Ev.nand_ fun _ => Ev.nand_ fun _ => hr).to ?_)
      · rw [keys_Rights.c2_eq, lt_tt hi, inI_tt hi, kright_at, wrap_at (by omega), wrap_back (by omega) (by omega), inI_tt (show i - 1 < l.length by omega), decide_eq_true (show (i : Int) > 0 by omega)]; rfl
      · unfold keyAt; rw [decide_eq_false h0, Bool.false_or, Bool.and_assoc]
theorem rkrights_ev (l : List ByteArray) (hl : l.length ≤ 1000) (hs : ∀ x ∈ l, x.size ≤ 2000) : Ev (fun k => althingref04_Rights k l) (keysOk l) := by
  refine Ev.congr (fun k => althingref04_Rights_eq k l) (Ev.allN l.length (fun k j => althingref04_Rights.c2 k l j) (keyAt l) _ ?_ ?_)
  · exact Ev.step (f := fun _ => some (decide ((l.length : Int) ≤ 8))) (fun k => by rw [althingref04_Rights.c2_eq, lt_ff (Nat.lt_irrefl _)]; rfl) (Ev.some _)
  · intro i hi r hr
    by_cases h0 : i = 0
    · subst h0
      refine Ev.step (f := fun k => bif !okKey (l.getD 0 ⟨#[]⟩) then some false else althingref04_Rights.c2 k l ((0 + 1 : Nat) : Int)) (fun k => ?_) ((Ev.nand_ fun _ => hr).to ?_)
      · rw [althingref04_Rights.c2_eq, lt_tt hi, inI_tt hi, rkright_at, wrap_at (by omega)]; rfl
      · unfold keyAt; simp
    · have hm : (l.getD i ⟨#[]⟩).size ≤ 2000 := by
        rw [show l.getD i ⟨#[]⟩ = l[i] by simp [List.getD_eq_getElem?_getD, hi]]
        exact hs _ (List.getElem_mem hi)
      refine Ev.step (f := fun k => bif !okKey (l.getD i ⟨#[]⟩) then some false else (althingref04_Before k (l.getD (i - 1) ⟨#[]⟩) (l.getD i ⟨#[]⟩)).bind fun r1 => bif !r1 then some false else althingref04_Rights.c2 k l ((i + 1 : Nat) : Int)) (fun k => ?_) ((Ev.nand_ fun _ => Ev.bind (rbefore4_ev _ _ hm) (Ev.nand_ fun _ => hr)).to ?_)
      · rw [althingref04_Rights.c2_eq, lt_tt hi, inI_tt hi, rkright_at, wrap_at (by omega), wrap_back (by omega) (by omega), inI_tt (show i - 1 < l.length by omega), decide_eq_true (show (i : Int) > 0 by omega)]; rfl
      · unfold keyAt; rw [decide_eq_false h0, Bool.false_or, Bool.and_assoc]
end Go.Proofs.YtjgcmmpfaemkiaaGreat.V
end
section
namespace Go.Proofs.YtjgcmmpfaemkiaaGreat.V
open Go Go.Vm Go.Proofs.YtjgcmmpfaemkiaaGreat.Strs
set_option linter.unusedVariables false
set_option linter.unusedSimpArgs false
theorem ev_notboth {g : Nat → Option Bool} {a b v : Bool} (h : Ev g v) : Ev (fun k => bif a then (bif b then Option.some false else g k) else g k) (!(a && b) && v) := by
  cases a
  · exact h
  · cases b
    · exact h
    · exact Ev.some _
theorem ev_either {g : Nat → Option Bool} {a b v : Bool} (h : Ev g v) : Ev (fun k => bif a then (bif b then Option.some false else g k) else g k) (!(a && b) && v) := ev_notboth h
abbrev zRd : Rd := Ty.zero Ty_api_Read
abbrev zWr : Wr := Ty.zero Ty_api_Write
def allR (l m : List Rd) : Bool := (List.range l.length).all fun i => Ty.beq Ty_api_Read (l.getD i zRd) (m.getD i zRd)
def allW (l m : List Wr) : Bool := (List.range l.length).all fun i => Ty.beq Ty_api_Write (l.getD i zWr) (m.getD i zWr)
def lenE {α : Type} (l m : List α) : Bool := (l.length : Int) == (m.length : Int)
theorem lenE_eq {α : Type} {l m : List α} (h : lenE l m = true) : l.length = m.length := by
  unfold lenE at h
  rw [beq_iff_eq] at h
  omega
theorem ge16 (n : Int) : decide (n ≥ 16) = decide (n > 15) := decide_eq_decide.2 (by omega)
theorem le0lt (n : Int) : decide (n ≤ 0) = decide (n < 1) := decide_eq_decide.2 (by omega)
theorem is0 (n : Int) (h : decide (n ≥ 0) = true) : (n == 0) = decide (n < 1) := by
  have := of_decide_eq_true h
  rw [Bool.eq_iff_iff, beq_iff_eq, decide_eq_true_eq]
  omega
def sameV (a b : Cm) : Bool := (a.1 == b.1) && (Ty.beq Ty_api_Instance a.2.1 b.2.1 && (Ty.beq Ty_api_Instance a.2.2.1 b.2.2.1 && ((a.2.2.2.1 == b.2.2.2.1) && (Ty.beq Ty.bool a.2.2.2.2.2.2 b.2.2.2.2.2.2 && (lenE a.2.2.2.2.1 b.2.2.2.2.1 && (lenE a.2.2.2.2.2.1 b.2.2.2.2.2.1 && (allR a.2.2.2.2.1 b.2.2.2.2.1 && allW a.2.2.2.2.2.1 b.2.2.2.2.2.1)))))))
theorem inst_refl (i : In) : Ty.beq Ty_api_Instance i i = true := by show (i.1 == i.1 && i.2 == i.2) = true; simp
theorem inst_eq {i j : In} (h : Ty.beq Ty_api_Instance i j = true) : i = j := by
  have h2 : (i.1 == j.1 && i.2 == j.2) = true := h
  rw [Bool.and_eq_true] at h2
  exact Prod.ext (by have := h2.1; rwa [beq_iff_eq] at this) (by have := h2.2; rwa [beq_iff_eq] at this)
theorem inst_ne {i j : In} (h : Ty.beq Ty_api_Instance i j = false) : i ≠ j := fun e => by rw [e, inst_refl] at h; cases h
theorem inst_symm (i j : In) : Ty.beq Ty_api_Instance i j = Ty.beq Ty_api_Instance j i := by
  cases h : Ty.beq Ty_api_Instance i j with
  | true => rw [inst_eq h, inst_refl]
  | false =>
    cases h2 : Ty.beq Ty_api_Instance j i with
    | false => rfl
    | true => rw [inst_eq h2, inst_refl] at h; cases h
theorem bool_refl (b : Bool) : Ty.beq Ty.bool b b = true := by cases b <;> rfl
theorem allR_refl (l : List Rd) : allR l l = true := by
  unfold allR
  rw [List.all_eq_true]
  intro i _
  show (decide ((l.getD i zRd).1 = (l.getD i zRd).1) && Ty.beq Ty_api_Instance (l.getD i zRd).2 (l.getD i zRd).2) = true
  rw [inst_refl]; simp
theorem allW_refl (l : List Wr) : allW l l = true := by
  unfold allW
  rw [List.all_eq_true]
  intro i _
  show (decide ((l.getD i zWr).1 = (l.getD i zWr).1) && decide ((l.getD i zWr).2 = (l.getD i zWr).2)) = true
  simp
theorem lenE_refl {α : Type} (l : List α) : lenE l l = true := by simp [lenE]
theorem sameV_refl (a : Cm) : sameV a a = true := by
  unfold sameV
  rw [inst_refl, inst_refl, bool_refl, lenE_refl, lenE_refl, allR_refl, allW_refl]
  simp
theorem eqR_ev (l m : List Rd) (hl : l.length ≤ 1000) : Ev (fun k => slices_Equal_api_Read_api_Read k l m) (lenE l m && allR l m) := by
  refine Ev.congr (fun k => slices_Equal_api_Read_api_Read_eq k l m) (Ev.bne_ fun he => ?_)
  have he : l.length = m.length := lenE_eq (l := l) (m := m) he
  refine (Ev.allN l.length (fun k j => slices_Equal_api_Read_api_Read.c4 k l m (l.length : Int) j) (fun i => Ty.beq Ty_api_Read (l.getD i zRd) (m.getD i zRd)) true ?_ ?_).to (Bool.and_true _)
  · exact Ev.step (f := fun _ => some true) (fun k => by rw [slices_Equal_api_Read_api_Read.c4_eq, lt_ff (Nat.lt_irrefl _)]; rfl) (Ev.some _)
  · intro i hi r hr
    exact Ev.step (f := fun k => bif !Ty.beq Ty_api_Read (l.getD i zRd) (m.getD i zRd) then some false else slices_Equal_api_Read_api_Read.c4 k l m (l.length : Int) ((i + 1 : Nat) : Int)) (fun k => by
      rw [slices_Equal_api_Read_api_Read.c4_eq, lt_tt hi, inI_tt hi, inI_tt (show i < m.length by omega), wrap_at (by omega)]; rfl) (Ev.nand_ fun _ => hr)
theorem eqW_ev (l m : List Wr) (hl : l.length ≤ 1000) : Ev (fun k => slices_Equal_api_Write_api_Write k l m) (lenE l m && allW l m) := by
  refine Ev.congr (fun k => slices_Equal_api_Write_api_Write_eq k l m) (Ev.bne_ fun he => ?_)
  have he : l.length = m.length := lenE_eq (l := l) (m := m) he
  refine (Ev.allN l.length (fun k j => slices_Equal_api_Write_api_Write.c4 k l m (l.length : Int) j) (fun i => Ty.beq Ty_api_Write (l.getD i zWr) (m.getD i zWr)) true ?_ ?_).to (Bool.and_true _)
  · exact Ev.step (f := fun _ => some true) (fun k => by rw [slices_Equal_api_Write_api_Write.c4_eq, lt_ff (Nat.lt_irrefl _)]; rfl) (Ev.some _)
  · intro i hi r hr
    exact Ev.step (f := fun k => bif !Ty.beq Ty_api_Write (l.getD i zWr) (m.getD i zWr) then some false else slices_Equal_api_Write_api_Write.c4 k l m (l.length : Int) ((i + 1 : Nat) : Int)) (fun k => by
      rw [slices_Equal_api_Write_api_Write.c4_eq, lt_tt hi, inI_tt hi, inI_tt (show i < m.length by omega), wrap_at (by omega)]; rfl) (Ev.nand_ fun _ => hr)
theorem and4 (a b c d : Bool) : ((a && b) && (c && d)) = (a && (c && (b && d))) := by cases a <;> cases b <;> cases c <;> cases d <;> rfl
theorem csame_ev (a b : Cm) (ha : small a) : Ev (fun k => command_Same k a b) (sameV a b) := by
  refine Ev.congr (fun k => command_Same_eq k a b) ?_
  unfold sameV
  refine Ev.and_ fun _ => Ev.and_ fun _ => Ev.and_ fun _ => Ev.and_ fun _ => Ev.and_ fun _ => ?_
  rw [← and4]
  exact Ev.bind (eqR_ev _ _ (by have := ha.1; omega)) (Ev.and_ fun _ => Ev.ret (eqW_ev _ _ (by have := ha.2.1; omega)))
theorem rsame_c9 (a b : Cm) (ha : small a) (hw : a.2.2.2.2.2.1.length = b.2.2.2.2.2.1.length) : Ev (fun k => althingref05_Same.c9 k 0 a b) (allW a.2.2.2.2.2.1 b.2.2.2.2.2.1) := by
  have hl := ha.2.1
  refine (Ev.allN a.2.2.2.2.2.1.length (fun k j => althingref05_Same.c9 k j a b) (fun i => Ty.beq Ty_api_Write (a.2.2.2.2.2.1.getD i zWr) (b.2.2.2.2.2.1.getD i zWr)) true ?_ ?_).to (Bool.and_true _)
  · exact Ev.step (f := fun _ => some true) (fun k => by rw [althingref05_Same.c9_eq, lt_ff (Nat.lt_irrefl _)]; rfl) (Ev.some _)
  · intro i hi r hr
    exact Ev.step (f := fun k => bif !Ty.beq Ty_api_Write (a.2.2.2.2.2.1.getD i zWr) (b.2.2.2.2.2.1.getD i zWr) then some false else althingref05_Same.c9 k ((i + 1 : Nat) : Int) a b) (fun k => by
      rw [althingref05_Same.c9_eq, lt_tt hi, inI_tt hi, inI_tt (hw ▸ hi), wrap_at (by omega)]; rfl) (Ev.nand_ fun _ => hr)
theorem rsame_c4 (a b : Cm) (ha : small a) (hr0 : a.2.2.2.2.1.length = b.2.2.2.2.1.length) (hw : a.2.2.2.2.2.1.length = b.2.2.2.2.2.1.length) : Ev (fun k => althingref05_Same.c4 k 0 a b) (allR a.2.2.2.2.1 b.2.2.2.2.1 && allW a.2.2.2.2.2.1 b.2.2.2.2.2.1) := by
  have hl := ha.1
  refine Ev.allN a.2.2.2.2.1.length (fun k j => althingref05_Same.c4 k j a b) (fun i => Ty.beq Ty_api_Read (a.2.2.2.2.1.getD i zRd) (b.2.2.2.2.1.getD i zRd)) _ ?_ ?_
  · exact Ev.step (f := fun k => althingref05_Same.c9 k 0 a b) (fun k => by rw [althingref05_Same.c4_eq, lt_ff (Nat.lt_irrefl _)]; rfl) (rsame_c9 a b ha hw)
  · intro i hi r hr
    exact Ev.step (f := fun k => bif !Ty.beq Ty_api_Read (a.2.2.2.2.1.getD i zRd) (b.2.2.2.2.1.getD i zRd) then some false else althingref05_Same.c4 k ((i + 1 : Nat) : Int) a b) (fun k => by
      rw [althingref05_Same.c4_eq, lt_tt hi, inI_tt hi, inI_tt (hr0 ▸ hi), wrap_at (by omega)]; rfl) (Ev.nand_ fun _ => hr)
theorem rsame_ev (a b : Cm) (ha : small a) : Ev (fun k => althingref05_Same k a b) (sameV a b) := by
  refine Ev.congr (fun k => althingref05_Same_eq k a b) ?_
  unfold sameV
  exact Ev.bne_ fun _ => Ev.nand_ fun _ => Ev.nand_ fun _ => Ev.bne_ fun _ => Ev.nand_ fun _ => Ev.bne_ fun h1 => Ev.bne_ fun h2 => rsame_c4 a b ha (lenE_eq h1) (lenE_eq h2)
abbrev zCm : Cm := Ty.zero Ty_api_Command
def okRd (c : Cm) (r : Rd) : Bool := stampV r.2 && lowV r.2 c.2.2.1
def okWr (w : Wr) : Bool := !decide ((w.2.size : Int) > 8)
def midC (c : Cm) : Bool := txnV c.2.1 && (stampV c.2.2.1 && (!decide (c.2.2.1.1 < 1) && ((c.2.2.1.2 == c.2.1.1) && (!decide (c.2.2.2.1 < 1) && (!decide (c.2.2.2.1 > 15) && !((c.2.2.2.2.1.length : Int) == 0 && (c.2.2.2.2.2.1.length : Int) == 0))))))
def endC (c : Cm) : Bool := c.2.2.2.2.1.all (okRd c) && (c.2.2.2.2.2.1.all okWr && (keysOk (rk c.2.2.2.2.1) && keysOk (wk c.2.2.2.2.2.1)))
def rightC (c : Cm) : Bool := bif c.1 == 0 then sameV c zCm else (c.1 == 1 || c.1 == 2) && (midC c && (!(c.2.2.2.2.2.2 && c.1 == 1) && endC c))
theorem cright_c17 (c : Cm) (h : small c) : Ev (fun k => command_Right.c17 k c.2.2.2.2.2.1 (c.2.2.2.2.2.1.length : Int) 0 c) (c.2.2.2.2.2.1.all okWr && (keysOk (rk c.2.2.2.2.1) && keysOk (wk c.2.2.2.2.2.1))) := by
  have h1 := h.1
  have h2 := h.2.1
  refine Ev.allL c.2.2.2.2.2.1 (fun k j => command_Right.c17 k c.2.2.2.2.2.1 (c.2.2.2.2.2.1.length : Int) j c) okWr _ ?_ ?_
  · refine Ev.step (f := fun k => (command_read k c).bind fun r0 => (keys_Rights k r0).bind fun r1 => bif r1 then (command_written k c).bind fun r2 => (keys_Rights k r2).bind fun r3 => some r3 else some false) (fun k => by rw [command_Right.c17_eq, lt_ff (Nat.lt_irrefl _)]; rfl) ?_
    exact Ev.bind (read_ev c (by omega)) (Ev.bind (krights_ev _ (by unfold rk; rw [List.length_map]; omega)) (Ev.and_ fun _ => Ev.bind (written_ev c (by omega)) (Ev.ret (krights_ev _ (by unfold wk; rw [List.length_map]; omega)))))
  · intro i hi r hr
    exact Ev.step (f := fun k => bif decide ((c.2.2.2.2.2.1[i].2.size : Int) > 8) then some false else command_Right.c17 k c.2.2.2.2.2.1 (c.2.2.2.2.2.1.length : Int) ((i + 1 : Nat) : Int) c) (fun k => by
      rw [command_Right.c17_eq, lt_tt hi, inI_tt hi, getD_at hi, wrap_at (by omega)]; rfl) (Ev.norr fun _ => hr)
theorem cright_1 (x : Rd) (c : Cm) : Ev (fun k => command_Right_1 k x c) (okRd c x) := by
  refine Ev.congr (fun k => command_Right_1_eq k x c) ?_
  simp only [sstamp_at, Option.bind_some]
  refine Ev.and_ fun _ => (Ev.map_ (fun r1 : Int => decide (r1 < 0)) (cmps_ev x.2 c.2.2.1)).to ?_
  rw [ord_neg]; rfl
theorem cright_c9 (c : Cm) (h : small c) : Ev (fun k => command_Right.c9 k c) (endC c) := by
  have h1 := h.1
  refine Ev.step (fun k => command_Right.c9_eq k c) (Ev.allL c.2.2.2.2.1 (fun k j => command_Right.c11 k c.2.2.2.2.1 (c.2.2.2.2.1.length : Int) j c) (okRd c) _ ?_ ?_)
  · exact Ev.step (f := fun k => command_Right.c17 k c.2.2.2.2.2.1 (c.2.2.2.2.2.1.length : Int) 0 c) (fun k => by rw [command_Right.c11_eq, lt_ff (Nat.lt_irrefl _)]; rfl) (cright_c17 c h)
  · intro i hi r hr
    exact Ev.step (f := fun k => (command_Right_1 k c.2.2.2.2.1[i] c).bind fun r0 => bif !r0 then some false else command_Right.c11 k c.2.2.2.2.1 (c.2.2.2.2.1.length : Int) ((i + 1 : Nat) : Int) c) (fun k => by
      rw [command_Right.c11_eq, lt_tt hi, inI_tt hi, getD_at hi, wrap_at (by omega)]; rfl) (Ev.bind (cright_1 _ c) (Ev.nand_ fun _ => hr))
theorem both0 (a b : Nat) (ha : a ≤ 1000) (hb : b ≤ 1000) : (IntKind.wrap .i64 ((a : Int) + (b : Int)) == 0) = ((a : Int) == 0 && (b : Int) == 0) := by
  rw [wrap_id (by omega) (by omega), Bool.eq_iff_iff, Bool.and_eq_true, beq_iff_eq, beq_iff_eq, beq_iff_eq]
  omega
theorem cright_c7 (c : Cm) (h : small c) : Ev (fun k => command_Right.c7 k c) (midC c && (!(c.2.2.2.2.2.2 && c.1 == 1) && endC c)) := by
  refine Ev.step (fun k => command_Right.c7_eq k c) ?_
  simp only [stxn_at, sstamp_at, Option.bind_some]
  rw [both0 _ _ (by have := h.1; omega) (by have := h.2.1; omega)]
  unfold midC
  simp only [Bool.and_assoc]
  exact Ev.nand_ fun _ => Ev.nand_ fun _ => Ev.norr fun _ => Ev.bne_ fun _ => Ev.norr fun _ => Ev.norr fun _ => Ev.norr fun _ => (ev_notboth (cright_c9 c h)).to (by simp only [Bool.and_assoc])
theorem cright_ev (c : Cm) (h : small c) : Ev (fun k => command_Right k c) (rightC c) := by
  refine Ev.congr (fun k => command_Right_eq k c) ?_
  unfold rightC
  cases h0 : c.1 == 0 with
  | true => exact Ev.ret (csame_ev c zCm h)
  | false =>
    cases h1 : c.1 == 1 with
    | true => have := cright_c7 c h; rw [h1] at this; exact this
    | false =>
      cases h2 : c.1 == 2 with
      | true => have := cright_c7 c h; rw [h1] at this; exact this
      | false => exact Ev.some _
theorem same_zero (c : Cm) (h0 : (c.1 == 0) = true) : sameV c zCm = (Ty.beq Ty_api_Instance c.2.1 (Ty.zero Ty_api_Instance) && (Ty.beq Ty_api_Instance c.2.2.1 (Ty.zero Ty_api_Instance) && ((c.2.2.2.1 == 0) && (((c.2.2.2.2.1.length : Int) == 0) && (((c.2.2.2.2.2.1.length : Int) == 0) && !c.2.2.2.2.2.2))))) := by
  unfold sameV
  rw [show (c.1 == zCm.1) = true from h0, Bool.true_and]
  have hb : Ty.beq Ty.bool c.2.2.2.2.2.2 zCm.2.2.2.2.2.2 = !c.2.2.2.2.2.2 := by show (c.2.2.2.2.2.2 == false) = _; cases c.2.2.2.2.2.2 <;> rfl
  rw [hb]
  show (_ && (_ && (_ && (_ && (((c.2.2.2.2.1.length : Int) == 0) && (((c.2.2.2.2.2.1.length : Int) == 0) && _)))))) = _
  cases hr : (c.2.2.2.2.1.length : Int) == 0 with
  | false => simp
  | true =>
    cases hw : (c.2.2.2.2.2.1.length : Int) == 0 with
    | false => simp
    | true =>
      have e1 : c.2.2.2.2.1 = [] := List.eq_nil_of_length_eq_zero (by rw [beq_iff_eq] at hr; omega)
      have e2 : c.2.2.2.2.2.1 = [] := List.eq_nil_of_length_eq_zero (by rw [beq_iff_eq] at hw; omega)
      rw [e1, e2]
      show (_ && (_ && (_ && (_ && (true && (true && (true && true))))))) = _
      simp only [Bool.and_true, Bool.true_and]
      rfl
theorem rright_c18 (c : Cm) (h : small c) : Ev (fun k => althingref05_Right.c18 k (rk c.2.2.2.2.1) [] 0 c) (c.2.2.2.2.2.1.all okWr && (keysOk (rk c.2.2.2.2.1) && keysOk (wk c.2.2.2.2.2.1))) := by
  have h1 := h.1
  have h2 := h.2.1
  refine Ev.allL c.2.2.2.2.2.1 (fun k j => althingref05_Right.c18 k (rk c.2.2.2.2.1) (wk (c.2.2.2.2.2.1.take j.toNat)) j c) okWr _ ?_ ?_
  · refine Ev.step (f := fun k => (althingref04_Rights k (rk c.2.2.2.2.1)).bind fun r1 => bif r1 then (althingref04_Rights k (wk c.2.2.2.2.2.1)).bind fun r3 => some r3 else some false) (fun k => by rw [althingref05_Right.c18_eq, lt_ff (Nat.lt_irrefl _), Int.toNat_natCast, List.take_length]; rfl) ?_
    refine Ev.bind (rkrights_ev _ (by unfold rk; rw [List.length_map]; omega) fun x hx => ?_) (Ev.and_ fun _ => Ev.ret (rkrights_ev _ (by unfold wk; rw [List.length_map]; omega) fun x hx => ?_))
    · obtain ⟨y, hy, rfl⟩ := List.mem_map.1 hx; have := h.2.2.1 y hy; omega
    · obtain ⟨y, hy, rfl⟩ := List.mem_map.1 hx; have := (h.2.2.2 y hy).1; omega
  · intro i hi r hr
    have hl : (wk (c.2.2.2.2.2.1.take i)).length + 1 < 4294967296 := by unfold wk; rw [List.length_map, List.length_take]; omega
    have ht : wk (c.2.2.2.2.2.1.take (i + 1)) = wk (c.2.2.2.2.2.1.take i) ++ [c.2.2.2.2.2.1[i].1] := by unfold wk; rw [List.take_succ_eq_append_getElem hi, List.map_append]; rfl
    exact Ev.step (f := fun k => bif decide ((c.2.2.2.2.2.1[i].2.size : Int) > 8) then some false else althingref05_Right.c18 k (rk c.2.2.2.2.1) (wk (c.2.2.2.2.2.1.take (i + 1))) ((i + 1 : Nat) : Int) c) (fun k => by
      rw [althingref05_Right.c18_eq, lt_tt hi, inI_tt hi, getD_at hi, Int.toNat_natCast, lt32 hl, wrap_at (by omega), ht]; rfl) (Ev.norr fun _ => by simpa using hr)
theorem rright_c11 (c : Cm) (h : small c) : Ev (fun k => althingref05_Right.c11 k [] 0 c) (endC c) := by
  have h1 := h.1
  refine Ev.allL c.2.2.2.2.1 (fun k j => althingref05_Right.c11 k (rk (c.2.2.2.2.1.take j.toNat)) j c) (okRd c) _ ?_ ?_
  · exact Ev.step (f := fun k => althingref05_Right.c18 k (rk c.2.2.2.2.1) [] 0 c) (fun k => by rw [althingref05_Right.c11_eq, lt_ff (Nat.lt_irrefl _), Int.toNat_natCast, List.take_length]; rfl) (rright_c18 c h)
  · intro i hi r hr
    have hl : (rk (c.2.2.2.2.1.take i)).length + 1 < 4294967296 := by unfold rk; rw [List.length_map, List.length_take]; omega
    have ht : rk (c.2.2.2.2.1.take (i + 1)) = rk (c.2.2.2.2.1.take i) ++ [c.2.2.2.2.1[i].1] := by unfold rk; rw [List.take_succ_eq_append_getElem hi, List.map_append]; rfl
    have hr' : Ev (fun k => althingref05_Right.c15 k (rk (c.2.2.2.2.1.take i)) (i : Int) c) r := Ev.step (f := fun k => althingref05_Right.c11 k (rk (c.2.2.2.2.1.take (i + 1))) ((i + 1 : Nat) : Int) c) (fun k => by
      rw [althingref05_Right.c15_eq, inI_tt hi, getD_at hi, lt32 hl, wrap_at (by omega), ht]; rfl) (by simpa using hr)
    refine (Ev.step (f := fun k => bif !stampV c.2.2.2.2.1[i].2 then some false else bif !lowV c.2.2.2.2.1[i].2 c.2.2.1 then some false else althingref05_Right.c15 k (rk (c.2.2.2.2.1.take i)) (i : Int) c) (fun k => by
      rw [althingref05_Right.c11_eq, lt_tt hi, inI_tt hi, getD_at hi, Int.toNat_natCast, rstamp_at, rbefore_at]; rfl) (Ev.nand_ fun _ => Ev.nand_ fun _ => hr')).to ?_
    unfold okRd; rw [Bool.and_assoc]
theorem rright_c7 (c : Cm) (h : small c) : Ev (fun k => althingref05_Right.c7 k c) (!decide (c.2.2.2.1 < 1) && (!decide (c.2.2.2.1 > 15) && (!((c.2.2.2.2.1.length : Int) == 0 && (c.2.2.2.2.2.1.length : Int) == 0) && endC c))) := by
  refine Ev.step (fun k => althingref05_Right.c7_eq k c) ?_
  rw [le0lt, ge16]
  exact Ev.norr fun _ => Ev.norr fun _ => ev_notboth (rright_c11 c h)
theorem rright_c5 (c : Cm) (h : small c) (h3 : True) : Ev (fun k => althingref05_Right.c5 k c) (midC c && endC c) := by
  refine Ev.step (fun k => althingref05_Right.c5_eq k c) ?_
  simp only [rtxn_at, rstamp_at, Option.bind_some]
  unfold midC
  simp only [Bool.and_assoc]
  refine Ev.nand_ fun _ => Ev.nand_ fun hs => ?_
  have e : (c.2.2.1.1 == 0) = decide (c.2.2.1.1 < 1) := is0 _ (by
    unfold stampV inR at hs
    rw [Bool.and_eq_true, Bool.and_eq_true] at hs
    exact hs.1.1)
  rw [e]
  exact Ev.norr fun _ => Ev.bne_ fun _ => rright_c7 c h
theorem and_swap (a b c : Bool) : (a && (b && c)) = (b && (a && c)) := by cases a <;> cases b <;> cases c <;> rfl
theorem rright_ev (c : Cm) (h : small c) : Ev (fun k => althingref05_Right k c) (rightC c) := by
  refine Ev.congr (fun k => althingref05_Right_eq k c) ?_
  unfold rightC
  cases h0 : c.1 == 0 with
  | true =>
    rw [same_zero c h0]
    exact Ev.and_ fun _ => Ev.and_ fun _ => Ev.and_ fun _ => Ev.and_ fun _ => Ev.and_ fun _ => Ev.some _
  | false =>
    have h5 := rright_c5 c h trivial
    cases h1 : c.1 == 1 with
    | true =>
      have e : (c.1 != 1) = false := by unfold bne; rw [h1]; rfl
      rw [e]
      refine Ev.bif_ff rfl (Ev.bif_ff rfl (Ev.bif_tt rfl ((Ev.norr fun _ => h5).to ?_)))
      rw [Bool.true_or, Bool.and_true, Bool.true_and, and_swap]; rfl
    | false =>
      have e : (c.1 != 1) = true := by unfold bne; rw [h1]; rfl
      rw [e]
      refine Ev.bif_ff rfl (Ev.bif_tt rfl ?_)
      rw [Bool.false_or, Bool.and_false]
      exact (Ev.bne_ fun _ => Ev.bif_ff rfl h5).to rfl
end Go.Proofs.YtjgcmmpfaemkiaaGreat.V
end
section
namespace Go.Proofs.YtjgcmmpfaemkiaaGreat.V
open Go Go.Vm Go.Proofs.YtjgcmmpfaemkiaaGreat.Strs
set_option linter.unusedVariables false
set_option linter.unusedSimpArgs false
abbrev zIn : In := Ty.zero Ty_api_Instance
abbrev zDp : Dp := Ty.zero Ty_api_Deps
def sameR (a b : Rc) : Bool := Ty.beq Ty_api_Instance a.1 b.1 && ((a.2.1 == b.2.1) && (Ty.beq Ty_api_Instance a.2.2.1 b.2.2.1 && (Ty.beq Ty_api_Instance a.2.2.2.1 b.2.2.2.1 && ((a.2.2.2.2.2.1 == b.2.2.2.2.2.1) && (Ty.beq Ty_api_Deps a.2.2.2.2.2.2.1 b.2.2.2.2.2.2.1 && (Ty.beq Ty.bool a.2.2.2.2.2.2.2 b.2.2.2.2.2.2.2 && sameV a.2.2.2.2.1 b.2.2.2.2.1))))))
theorem deps_same (d : Dp) : Ty.beq Ty_api_Deps d d = true := by
  have : ∀ l : List Int, ((l.zip l).all fun p => p.1 == p.2) = true := fun l => by
    induction l with
    | nil => rfl
    | cons x l ih => simp [ih]
  exact this d
theorem sameR_refl (a : Rc) : sameR a a = true := by
  unfold sameR
  rw [inst_refl, inst_refl, inst_refl, deps_same, bool_refl, sameV_refl]
  simp
theorem wsame_ev (a b : Rc) (h : small a.2.2.2.2.1) : Ev (fun k => wire_SameRecord k a b) (sameR a b) := by
  refine Ev.congr (fun k => wire_SameRecord_eq k a b) ?_
  exact Ev.and_ fun _ => Ev.and_ fun _ => Ev.and_ fun _ => Ev.and_ fun _ => Ev.and_ fun _ => Ev.and_ fun _ => Ev.and_ fun _ => Ev.ret (csame_ev _ _ h)
theorem rsameR_ev (a b : Rc) (h : small a.2.2.2.2.1) : Ev (fun k => althingref07_Same k a b) (sameR a b) := by
  refine Ev.congr (fun k => althingref07_Same_eq k a b) ?_
  exact Ev.and_ fun _ => Ev.and_ fun _ => Ev.and_ fun _ => Ev.and_ fun _ => Ev.and_ fun _ => Ev.and_ fun _ => Ev.and_ fun _ => Ev.ret (rsame_ev _ _ h)
def sameM (a b : Ms) : Bool := (a.1 == b.1) && ((a.2.1 == b.2.1) && ((a.2.2.1 == b.2.2.1) && (Ty.beq Ty_api_Instance a.2.2.2.1 b.2.2.2.1 && sameR a.2.2.2.2 b.2.2.2.2)))
theorem sameM_refl (a : Ms) : sameM a a = true := by
  unfold sameM
  rw [inst_refl, sameR_refl]
  simp
def depAt (d : Dp) (i : Nat) : Bool := !decide (List.getD (α := Int) d i 0 < 0) && !decide (List.getD (α := Int) d i 0 > 1048576)
def depsV (d : Dp) : Bool := (List.range 7).all (depAt d)
theorem dright_ev (d : Dp) : Ev (fun k => deps_Right k d) (depsV d) := by
  refine Ev.congr (fun k => deps_Right_eq k d) ((Ev.allN 7 (fun k j => deps_Right.c2 k d j) (depAt d) true ?_ ?_).to (Bool.and_true _))
  · exact Ev.step (f := fun _ => some true) (fun k => by rw [deps_Right.c2_eq, decide_eq_false (by omega)]; rfl) (Ev.some _)
  · intro i hi r hr
    refine (Ev.step (f := fun k => bif decide (List.getD (α := Int) d i 0 < 0) then some false else bif decide (List.getD (α := Int) d i 0 > 1048576) then some false else deps_Right.c2 k d ((i + 1 : Nat) : Int)) (fun k => by
      rw [deps_Right.c2_eq, decide_eq_true (show (i : Int) < 7 by omega), inI_tt hi, wrap_at (by omega), Int.toNat_natCast]; rfl) (Ev.norr fun _ => Ev.norr fun _ => hr)).to ?_
    unfold depAt; rw [Bool.and_assoc]
theorem rdright_ev (d : Dp) : Ev (fun k => althingref03_Right k d) (depsV d) := by
  refine Ev.congr (fun k => althingref03_Right_eq k d) ((Ev.allN 7 (fun k j => althingref03_Right.c2 k j d) (depAt d) true ?_ ?_).to (Bool.and_true _))
  · exact Ev.step (f := fun _ => some true) (fun k => by rw [althingref03_Right.c2_eq, decide_eq_false (by omega)]; rfl) (Ev.some _)
  · intro i hi r hr
    refine (Ev.step (f := fun k => bif decide (List.getD (α := Int) d i 0 < 0) then some false else bif decide (List.getD (α := Int) d i 0 > 1048576) then some false else althingref03_Right.c2 k ((i + 1 : Nat) : Int) d) (fun k => by
      rw [althingref03_Right.c2_eq, decide_eq_true (show (i : Int) < 7 by omega), inI_tt hi, wrap_at (by omega), Int.toNat_natCast]; rfl) (Ev.norr fun _ => Ev.norr fun _ => hr)).to ?_
    unfold depAt; rw [Bool.and_assoc]
def zeroTail (r : Rc) : Bool := Ty.beq Ty_api_Instance r.2.2.2.1 zIn && ((r.2.2.2.2.2.1 == 0) && (Ty.beq Ty_api_Deps r.2.2.2.2.2.2.1 [0, 0, 0, 0, 0, 0, 0] && sameV r.2.2.2.2.1 zCm))
def fullTail (r : Rc) : Bool := rightC r.2.2.2.2.1 && (inR r.2.2.2.2.2.1 1 big40 && depsV r.2.2.2.2.2.2.1)
def rightR (r : Rc) : Bool := instV r.1 && (rbV r.2.2.1 && (rbV r.2.2.2.1 && (!lowV r.2.2.1 r.2.2.2.1 && (inR r.2.1 0 3 && (!(r.2.2.2.2.2.2.2 && !(r.2.1 == 1)) && bif r.2.1 == 0 then zeroTail r else fullTail r)))))
theorem ev_bneboth {g : Nat → Option Bool} {a v : Bool} {x y : Int} (h : Ev g v) : Ev (fun k => bif a then (bif (x != y) then Option.some false else g k) else g k) (!(a && !(x == y)) && v) := ev_notboth (b := x != y) h
theorem wright_ev (r : Rc) (h : small r.2.2.2.2.1) : Ev (fun k => wire_RightRecord k r) (rightR r) := by
  refine Ev.congr (fun k => wire_RightRecord_eq k r) ?_
  simp only [sinst_at, srb_at, wwithin_at, Option.bind_some]
  unfold rightR
  refine Ev.nand_ fun _ => Ev.nand_ fun _ => Ev.nand_ fun _ => Ev.bind (cmpb_ev r.2.2.2.1 r.2.2.1) ?_
  rw [ord_pos]
  refine Ev.norr fun _ => Ev.nand_ fun _ => ?_
  have h3 : Ev (fun k => wire_RightRecord.c3 k r) (bif r.2.1 == 0 then sameR r (r.1, (0, (r.2.2.1, (zIn, (zCm, (0, ([0, 0, 0, 0, 0, 0, 0], false))))))) else fullTail r) := by
    refine Ev.step (fun k => wire_RightRecord.c3_eq k r) ?_
    cases hz : r.2.1 == 0 with
    | true => exact Ev.ret (wsame_ev _ _ h)
    | false =>
      simp only [wwithin_at, Option.bind_some]
      exact Ev.bind (cright_ev _ h) (Ev.and_ fun _ => Ev.and_ fun _ => Ev.ret (dright_ev _))
  refine (ev_bneboth h3).to ?_
  cases hz : r.2.1 == 0 with
  | false => rfl
  | true =>
    have h1 : (r.2.1 == 1) = false := by
      rw [beq_iff_eq] at hz
      rw [hz]; rfl
    rw [h1]
    cases hk : r.2.2.2.2.2.2.2 with
    | true => rfl
    | false =>
      show (true && sameR _ _) = (true && zeroTail r)
      unfold sameR zeroTail
      rw [hk]
      show (true && (Ty.beq Ty_api_Instance r.1 r.1 && ((r.2.1 == 0) && (Ty.beq Ty_api_Instance r.2.2.1 r.2.2.1 && _)))) = _
      rw [inst_refl, inst_refl, hz]
      rfl
theorem ge1 (n : Int) (h : (n == 0) = false) : decide (n ≥ 0) = decide (n ≥ 1) := by
  rw [beq_eq_false_iff_ne] at h
  exact decide_eq_decide.2 (by omega)
theorem rright_ev' (r : Rc) (h : small r.2.2.2.2.1) : Ev (fun k => althingref07_RightRecord k r) (rightR r) := by
  refine Ev.congr (fun k => althingref07_RightRecord_eq k r) ?_
  simp only [rinst_at, rrb_at, rlow_at, Option.bind_some]
  unfold rightR
  refine Ev.nand_ fun _ => Ev.nand_ fun _ => Ev.nand_ fun _ => Ev.norr fun _ => ?_
  have h3 : Ev (fun k => althingref07_RightRecord.c3 k r) (inR r.2.1 0 3 && bif r.2.1 == 0 then zeroTail r else fullTail r) := by
    refine Ev.step (fun k => althingref07_RightRecord.c3_eq k r) ?_
    cases hz : r.2.1 == 0 with
    | true =>
      have : inR r.2.1 0 3 = true := by rw [beq_iff_eq] at hz; rw [hz]; rfl
      rw [this]
      exact Ev.and_ fun _ => Ev.and_ fun _ => Ev.and_ fun _ => Ev.ret (rsame_ev _ _ h)
    | false =>
      have : inR r.2.1 0 3 = (decide (r.2.1 ≥ 1) && decide (r.2.1 ≤ 3)) := by
        unfold inR
        rw [ge1 _ hz]
      rw [this, Bool.and_assoc]
      refine Ev.and_ fun _ => Ev.and_ fun _ => Ev.bind (rright_ev _ h) ?_
      show Ev _ (rightC r.2.2.2.2.1 && (inR r.2.2.2.2.2.1 1 big40 && depsV r.2.2.2.2.2.2.1))
      refine (Ev.and_ fun _ => Ev.and_ fun _ => Ev.and_ fun _ => Ev.ret (rdright_ev _)).to ?_
      unfold inR
      rw [Bool.and_assoc]
  refine (ev_bneboth h3).to ?_
  rw [and_swap]
def rightM (m : Ms) : Bool := inR m.1 1 8 && (inR m.2.1 0 6 && (inR m.2.2.1 0 6 && (rbV m.2.2.2.1 && rightR m.2.2.2.2)))
theorem wrightM_ev (m : Ms) (h : small m.2.2.2.2.2.2.2.2.1) : Ev (fun k => wire_RightMessage k m) (rightM m) := by
  refine Ev.congr (fun k => wire_RightMessage_eq k m) ?_
  simp only [wwithin_at, srb_at, Option.bind_some]
  exact Ev.and_ fun _ => Ev.and_ fun _ => Ev.and_ fun _ => Ev.and_ fun _ => Ev.ret (wright_ev _ h)
theorem rrightM_ev (m : Ms) (h : small m.2.2.2.2.2.2.2.2.1) : Ev (fun k => althingref07_RightMessage k m) (rightM m) := by
  refine Ev.congr (fun k => althingref07_RightMessage_eq k m) ?_
  simp only [rrb_at, Option.bind_some]
  refine (Ev.and_ fun _ => Ev.and_ fun _ => Ev.and_ fun _ => Ev.and_ fun _ => Ev.and_ fun _ => Ev.and_ fun _ => Ev.and_ fun _ => Ev.ret (rright_ev' _ h)).to ?_
  unfold rightM inR
  simp only [Bool.and_assoc]
abbrev zR (i : In) : Rc := (i, Ty.zero (Ty.pair Ty.i64 (Ty.pair Ty_api_Instance (Ty.pair Ty_api_Instance (Ty.pair Ty_api_Command (Ty.pair Ty.i64 (Ty.pair Ty_api_Deps Ty.bool)))))))
def knowStep (i : In) (s x : Rc) : Rc := bif Ty.beq Ty_api_Instance x.1 i then x else s
def knowV (l : List Rc) (i : In) : Rc := l.foldl (knowStep i) (zR i)
theorem small_zero : small zCm := ⟨Nat.zero_le _, Nat.zero_le _, fun x hx => (by cases hx), fun x hx => (by cases hx)⟩
theorem know_mem (i : In) : ∀ (l : List Rc) (s : Rc), l.foldl (knowStep i) s = s ∨ (l.foldl (knowStep i) s ∈ l ∧ (l.foldl (knowStep i) s).1 = i)
  | [], s => .inl rfl
  | x :: l, s => by
    rw [List.foldl_cons]
    rcases know_mem i l (knowStep i s x) with h | h
    · rw [h]
      unfold knowStep
      cases hb : Ty.beq Ty_api_Instance x.1 i with
      | true => exact .inr ⟨List.mem_cons_self, inst_eq hb⟩
      | false => exact .inl rfl
    · exact .inr ⟨List.mem_cons_of_mem _ h.1, h.2⟩
theorem knowV_cases (l : List Rc) (i : In) : knowV l i = zR i ∨ (knowV l i ∈ l ∧ (knowV l i).1 = i) := know_mem i l _
theorem knowV_inst (l : List Rc) (i : In) : (knowV l i).1 = i := by
  rcases knowV_cases l i with h | h
  · rw [h]
  · exact h.2
theorem knowV_small {l : List Rc} (h : fewR l) (i : In) : small (knowV l i).2.2.2.2.1 := by
  rcases knowV_cases l i with e | e
  · rw [e]; exact small_zero
  · exact h.2 _ e.1
theorem knowV_snoc (l : List Rc) (x : Rc) (i : In) : knowV (l ++ [x]) i = bif Ty.beq Ty_api_Instance x.1 i then x else knowV l i := by
  unfold knowV
  rw [List.foldl_append]
  rfl
theorem own_at (k) (r : Rc) (h : small r.2.2.2.2.1) : accept_own k r = some r := by
  rw [accept_own_eq, clone_at _ h]; rfl
theorem know_c2 (l : List Rc) (h : fewR l) (i : In) (z : Rc) : ∀ j, j ≤ l.length → Ev (fun k => accept_Know.c2 k l ((j : Int) - 1) i z) (knowV (l.take j) i)
  | 0, hj => Ev.step (f := fun _ => some (zR i)) (fun k => by rw [accept_Know.c2_eq]; rfl) (Ev.some _)
  | j + 1, hj => by
    have hl := h.1
    have hjl : j < l.length := by omega
    rw [show (((j + 1 : Nat) : Int) - 1) = (j : Int) by omega, List.take_succ_eq_append_getElem hjl, knowV_snoc]
    have hw : IntKind.wrap .i64 ((j : Int) - 1) = (j : Int) - 1 := wrap_id (by omega) (by omega)
    refine Ev.step (f := fun k => bif Ty.beq Ty_api_Instance l[j].1 i then (accept_own k l[j]).bind fun r0 => some r0 else accept_Know.c2 k l ((j : Int) - 1) i z) (fun k => by
      rw [accept_Know.c2_eq, decide_eq_true (show (j : Int) ≥ 0 by omega), inI_tt hjl, getD_at hjl, hw]; rfl) ?_
    cases hb : Ty.beq Ty_api_Instance l[j].1 i with
    | true => exact Ev.ret (Ev.at_ fun k => own_at k _ (h.2 _ (List.getElem_mem hjl)))
    | false => exact know_c2 l h i z j (by omega)
theorem know_ev (l : List Rc) (h : fewR l) (i : In) : Ev (fun k => accept_Know k l i) (knowV l i) := by
  have hl := h.1
  have := know_c2 l h i (Ty.zero Ty_api_Record) l.length (Nat.le_refl _)
  rw [List.take_length] at this
  refine Ev.congr (fun k => accept_Know_eq k l i) ?_
  rw [wrap_id (by omega) (by omega)]
  exact this
theorem rknow_ev (l : List Rc) (hl : l.length ≤ 1000000) (i : In) : Ev (fun k => althingref12_Know k l i) (knowV l i) := by
  refine Ev.congr (fun k => althingref12_Know_eq k l i) ?_
  exact Ev.fold0 l (fun k s j => althingref12_Know.c3 k l j i (Ty.zero Ty_api_Record) s) (knowStep i) id (fun _ _ => True) (zR i) trivial
    (fun s _ => Ev.step (f := fun _ => some s) (fun k => by rw [althingref12_Know.c3_eq, lt_ff (Nat.lt_irrefl _)]; rfl) (Ev.some s))
    (fun j s hj _ => ⟨trivial, fun r hr => by
      refine Ev.step (f := fun k => bif Ty.beq Ty_api_Instance l[j].1 i then althingref12_Know.c3 k l ((j + 1 : Nat) : Int) i (Ty.zero Ty_api_Record) l[j] else althingref12_Know.c3 k l ((j + 1 : Nat) : Int) i (Ty.zero Ty_api_Record) s) (fun k => by
        rw [althingref12_Know.c3_eq, lt_tt hj, inI_tt hj, getD_at hj, wrap_at (by omega)]; rfl) ?_
      unfold knowStep at hr
      cases hb : Ty.beq Ty_api_Instance l[j].1 i with
      | true => rw [hb] at hr; exact hr
      | false => rw [hb] at hr; exact hr⟩)
end Go.Proofs.YtjgcmmpfaemkiaaGreat.V
end
section
namespace Go.Proofs.YtjgcmmpfaemkiaaGreat.V
open Go Go.Vm Go.Proofs.YtjgcmmpfaemkiaaGreat.Strs
set_option linter.unusedVariables false
set_option linter.unusedSimpArgs false
def tb (s : Int) (k : Nat) : Bool := (BitVec.ofInt 64 s).getLsbD k
theorem tb_div (s : Int) (k : Nat) (hk : k < 7) : tb s k = decide (s / 2 ^ k % 2 = 1) := by
  unfold tb
  rw [BitVec.getLsbD, BitVec.toNat_ofInt, Nat.testBit_eq_decide_div_mod_eq, decide_eq_decide]
  rcases (by omega : k = 0 ∨ k = 1 ∨ k = 2 ∨ k = 3 ∨ k = 4 ∨ k = 5 ∨ k = 6) with rfl | rfl | rfl | rfl | rfl | rfl | rfl <;> omega
theorem ofInt_wrap (v : BitVec 64) : BitVec.ofInt 64 (IntKind.i64.wrap v.toNat) = v := by
  have h := v.isLt
  apply BitVec.eq_of_toNat_eq
  rw [BitVec.toNat_ofInt, IntKind.wrap_i64]
  omega
theorem tb_and (x y : Int) (k : Nat) : tb (bitsI .and .i64 x y) k = (tb x k && tb y k) := by
  unfold tb bitsI
  simp only []
  rw [show IntKind.i64.bits = 64 from rfl, ofInt_wrap, BitVec.getLsbD_and]
theorem tb_or (x y : Int) (k : Nat) : tb (bitsI .or .i64 x y) k = (tb x k || tb y k) := by
  unfold tb bitsI
  simp only []
  rw [show IntKind.i64.bits = 64 from rfl, ofInt_wrap, BitVec.getLsbD_or]
theorem and_one (x : Int) : (bitsI .and .i64 x 1 == 1) = decide (x % 2 = 1) := by
  have h : bitsI .and .i64 x 1 = x % 2 := by
    unfold bitsI
    simp only []
    have h1 : (BitVec.ofInt IntKind.i64.bits x &&& BitVec.ofInt IntKind.i64.bits 1).toNat = (x % 2).toNat := by
      rw [show IntKind.i64.bits = 64 from rfl, BitVec.toNat_and, BitVec.toNat_ofInt, BitVec.toNat_ofInt]
      rw [show ((1 : Int) % (2 ^ 64 : Nat)).toNat = 1 by decide, Nat.and_one_is_mod]
      omega
    rw [h1, IntKind.wrap_i64]
    omega
  rw [h, Bool.eq_iff_iff]
  simp
theorem tb_pow (k j : Nat) (hk : k < 7) (hj : j < 7) : tb (2 ^ k) j = decide (j = k) := by
  have h : ∀ k, k < 7 → ∀ j, j < 7 → tb (2 ^ k) j = decide (j = k) := by decide
  exact h k hk j hj
theorem tb_zero (j : Nat) (hj : j < 7) : tb 0 j = false := by
  have h : ∀ j, j < 7 → tb 0 j = false := by decide
  exact h j hj
def mem (s : Int) (k : Nat) : List Int := ((List.range k).filter (tb s)).map Int.ofNat
theorem mem_yes (s : Int) (k : Nat) (h : tb s k = true) : mem s (k + 1) = mem s k ++ [(k : Int)] := by
  simp [mem, List.range_succ, List.filter_append, h]
theorem mem_no (s : Int) (k : Nat) (h : tb s k = false) : mem s (k + 1) = mem s k := by
  simp [mem, List.range_succ, List.filter_append, h]
theorem mem_le (s : Int) (k : Nat) : (mem s k).length ≤ k := by
  unfold mem
  rw [List.length_map]
  have := List.length_filter_le (tb s) (List.range k)
  simpa using this
def bn (s : Int) (k : Nat) : Nat := (tb s k).toNat
theorem mem_len (s : Int) (k : Nat) : (mem s (k + 1)).length = (mem s k).length + bn s k := by
  cases h : tb s k
  · rw [mem_no s k h]; simp [bn, h]
  · rw [mem_yes s k h]; simp [bn, h]
theorem mem_zero (s : Int) : mem s 0 = [] := rfl
theorem mem7 (s : Int) : (mem s 7).length = bn s 0 + bn s 1 + bn s 2 + bn s 3 + bn s 4 + bn s 5 + bn s 6 := by
  simp only [mem_len, mem_zero, List.length_nil, Nat.zero_add]
def sz (f : Int) : Int := if f = 1 then 3 else if f = 2 then 5 else if f = 3 then 7 else 0
def slw (f : Int) : Int := if f = 1 then 2 else if f = 2 then 3 else if f = 3 then 4 else 0
def fst_ (f : Int) : Int := if f = 1 then 2 else if f = 2 then 4 else if f = 3 then 6 else 0
def allq (f : Int) : Int := if f = 1 then 7 else if f = 2 then 31 else if f = 3 then 127 else 0
theorem f_cases (f : Int) : f = 1 ∨ f = 2 ∨ f = 3 ∨ (f ≠ 1 ∧ f ≠ 2 ∧ f ≠ 3) := by omega
theorem sizes_ev (f : Int) : Ev (fun k => quorum_sizes k f) [sz f, slw f, fst_ f] := by
  refine Ev.congr (fun k => quorum_sizes_eq k f) ?_
  rcases f_cases f with rfl | rfl | rfl | ⟨n1, n2, n3⟩
  · exact Ev.bif_ff rfl (Ev.bif_ff rfl (Ev.step (fun k => quorum_sizes.c3_eq k _ _) (Ev.some _)))
  · exact Ev.bif_ff rfl (Ev.bif_ff rfl (Ev.step (fun k => quorum_sizes.c3_eq k _ _) (Ev.some _)))
  · exact Ev.bif_ff rfl (Ev.bif_ff rfl (Ev.step (fun k => quorum_sizes.c3_eq k _ _) (Ev.some _)))
  · have hz : ([sz f, slw f, fst_ f] : List Int) = [0, 0, 0] := by simp [sz, slw, fst_, n1, n2, n3]
    rw [hz]
    by_cases h : f < 1
    · exact Ev.bif_tt (decide_eq_true h) (Ev.some _)
    · exact Ev.bif_ff (decide_eq_false h) (Ev.bif_tt (decide_eq_true (by omega)) (Ev.some _))
theorem size_ev (f : Int) : Ev (fun k => quorum_Size k f) (sz f) := Ev.congr (fun k => quorum_Size_eq k f) (Ev.bind (sizes_ev f) (Ev.some _))
theorem slow_ev (f : Int) : Ev (fun k => quorum_Slow k f) (slw f) := Ev.congr (fun k => quorum_Slow_eq k f) (Ev.bind (sizes_ev f) (Ev.some _))
theorem fast_ev (f : Int) : Ev (fun k => quorum_Fast k f) (fst_ f) := Ev.congr (fun k => quorum_Fast_eq k f) (Ev.bind (sizes_ev f) (Ev.some _))
theorem rsize_at (k) (f : Int) : althingref01_Size k f = some (sz f) := by
  rw [althingref01_Size_eq]
  rcases f_cases f with rfl | rfl | rfl | ⟨n1, n2, n3⟩
  · rfl
  · rfl
  · rfl
  · rw [beq_false_of_ne n1, beq_false_of_ne n2, beq_false_of_ne n3]
    simp [sz, n1, n2, n3]
theorem rslow_at (k) (f : Int) : althingref01_Slow k f = some (slw f) := by
  rw [althingref01_Slow_eq, rsize_at]
  rcases f_cases f with rfl | rfl | rfl | ⟨n1, n2, n3⟩
  · rfl
  · rfl
  · rfl
  · simp [sz, slw, n1, n2, n3]
theorem sz_pos {f : Int} (h : 0 < sz f) : f = 1 ∨ f = 2 ∨ f = 3 := by
  rcases f_cases f with rfl | rfl | rfl | ⟨n1, n2, n3⟩
  · simp
  · simp
  · simp
  · simp [sz, n1, n2, n3] at h
theorem sz_in (f : Int) : 0 ≤ sz f ∧ sz f ≤ 7 := by
  rcases f_cases f with rfl | rfl | rfl | ⟨n1, n2, n3⟩
  · decide
  · decide
  · decide
  · simp [sz, n1, n2, n3]
def isV (f s : Int) : Bool := decide (s ≥ 0) && decide (s < sz f)
theorem is_ev (f s : Int) : Ev (fun k => lead_is k f s) (isV f s) := Ev.congr (fun k => lead_is_eq k f s) (Ev.and_ fun _ => Ev.map_ (fun r => decide (s < r)) (size_ev f))
theorem isV_in {f s : Int} (h : isV f s = true) : (f = 1 ∨ f = 2 ∨ f = 3) ∧ 0 ≤ s ∧ s < 7 := by
  unfold isV at h
  rw [Bool.and_eq_true, decide_eq_true_eq, decide_eq_true_eq] at h
  have := sz_in f
  exact ⟨sz_pos (by omega), by omega, by omega⟩
def hasV (s i : Int) : Bool := decide (0 ≤ i ∧ i < 7) && tb s i.toNat
def withQ (s i : Int) : Int := if 0 ≤ i ∧ i < 7 then bitsI .or .i64 s (2 ^ i.toNat) else s
theorem qis_at (k) (i : Int) : quorum_is k i = some (decide (0 ≤ i ∧ i < 7)) := by
  rw [quorum_is_eq]
  by_cases h0 : 0 ≤ i
  · rw [decide_eq_true (show i ≥ 0 from h0)]
    show some (decide (i < 7)) = _
    congr 1
    exact decide_eq_decide.2 (by omega)
  · rw [decide_eq_false (show ¬ i ≥ 0 from h0), decide_eq_false (show ¬ (0 ≤ i ∧ i < 7) from fun h => h0 h.1)]
    rfl
theorem has_at (k) (s i : Int) : quorum_Has k s i = some (hasV s i) := by
  rw [quorum_Has_eq, qis_at]
  unfold hasV
  by_cases h : 0 ≤ i ∧ i < 7
  · rw [decide_eq_true h]
    show (bif decide (0 ≤ i) then some (bitsI .and .i64 (shrI .i64 s i) 1 == 1) else none) = _
    rw [decide_eq_true h.1, and_one]
    have hk : i.toNat < 7 := by omega
    have hm : min i.toNat 64 = i.toNat := by omega
    show some (decide (s.fdiv (2 ^ (min i.toNat 64)) % 2 = 1)) = _
    rw [hm, Int.fdiv_eq_ediv_of_nonneg _ (Int.le_of_lt (Int.pow_pos (by decide))), Bool.true_and, tb_div s _ hk]
  · rw [decide_eq_false h]; rfl
theorem with_atQ (k) (s i : Int) : quorum_With k s i = some (withQ s i) := by
  rw [quorum_With_eq, qis_at]
  unfold withQ
  by_cases h : 0 ≤ i ∧ i < 7
  · rw [decide_eq_true h, if_pos h]
    show (bif decide (0 ≤ i) then some (bitsI .or .i64 s (shlI .i64 1 i)) else none) = _
    rw [decide_eq_true h.1]
    have : ∀ j : Nat, j < 7 → IntKind.wrap .i64 ((1 : Int) * 2 ^ (min j 64)) = 2 ^ j := by decide
    have hj := this i.toNat (by omega)
    show some (bitsI .or .i64 s (IntKind.wrap .i64 ((1 : Int) * 2 ^ (min i.toNat 64)))) = _
    rw [hj]
  · rw [decide_eq_false h, if_neg h]; rfl
theorem has_with {s i : Int} (h : 0 ≤ i ∧ i < 7) : hasV (withQ s i) i = true := by
  unfold hasV withQ
  rw [decide_eq_true h, if_pos h, tb_or, tb_pow _ _ (by omega) (by omega)]
  simp
theorem members_ev (s : Int) : Ev (fun k => quorum_Members k s) (mem s 7) := by
  refine Ev.congr (fun k => quorum_Members_eq k s) ?_
  have : ∀ d i, i + d = 7 → Ev (fun k => quorum_Members.c3 k s (mem s i) (i : Int)) (mem s 7) := by
    intro d
    induction d with
    | zero =>
      intro i hi
      obtain rfl : i = 7 := by omega
      exact Ev.step (f := fun _ => some (mem s 7)) (fun k => by rw [quorum_Members.c3_eq]; rfl) (Ev.some _)
    | succ d ih =>
      intro i hi
      have hl := mem_le s i
      have hw : IntKind.wrap .i64 ((i : Int) + 1) = ((i + 1 : Nat) : Int) := wrap_at (by omega)
      have hh : hasV s (i : Int) = tb s i := by unfold hasV; rw [decide_eq_true (by omega)]; simp
      refine Ev.step (f := fun k => bif tb s i then (quorum_Members.c3 k s (mem s i ++ [(i : Int)]) ((i + 1 : Nat) : Int)) else quorum_Members.c3 k s (mem s i) ((i + 1 : Nat) : Int)) (fun k => by
        rw [quorum_Members.c3_eq, decide_eq_true (show (i : Int) < 7 by omega), has_at, hh, lt32 (show (mem s i).length + 1 < 4294967296 by omega), hw]; rfl) ?_
      cases ht : tb s i with
      | true => rw [← mem_yes s i ht]; exact ih (i + 1) (by omega)
      | false => rw [← mem_no s i ht]; exact ih (i + 1) (by omega)
  exact this 7 0 rfl
theorem count_ev (s : Int) : Ev (fun k => quorum_Count k s) ((mem s 7).length : Int) := Ev.congr (fun k => quorum_Count_eq k s) (Ev.map_ (fun r : List Int => (r.length : Int)) (members_ev s))
theorem all_ev (f : Int) : Ev (fun k => quorum_All k f) (allq f) := by
  refine Ev.congr (fun k => quorum_All_eq k f) (Ev.bind (size_ev f) ?_)
  rcases f_cases f with rfl | rfl | rfl | ⟨n1, n2, n3⟩
  · exact (Ev.some _).to (by decide)
  · exact (Ev.some _).to (by decide)
  · exact (Ev.some _).to (by decide)
  · have h1 : sz f = 0 := by simp [sz, n1, n2, n3]
    have h2 : allq f = 0 := by simp [allq, n1, n2, n3]
    rw [h1, h2]
    exact Ev.some _
def majB (f s : Int) : Bool := decide (slw f > 0) && decide (((mem (bitsI .and .i64 s (allq f)) 7).length : Int) ≥ slw f)
theorem major_ev (f s : Int) : Ev (fun k => quorum_Major k f s) (majB f s) := by
  refine Ev.congr (fun k => quorum_Major_eq k f s) (Ev.bind (slow_ev f) (Ev.and_ fun _ => Ev.bind (all_ev f) (Ev.bind (count_ev _) (Ev.bind (slow_ev f) (Ev.some _)))))
def uh : Nat → Int → Int
  | 0, s => IntKind.u64.wrap s
  | k + 1, s => IntKind.u64.wrap ((uh k s).tdiv 2)
theorem uwrap (n : Int) : IntKind.u64.wrap n = n % 18446744073709551616 := by simp [IntKind.wrap, IntKind.bits, IntKind.signed]
theorem uh_eq (s : Int) : ∀ k, k < 7 → uh k s = s % 18446744073709551616 / 2 ^ k
  | 0, _ => by simp [uh, uwrap]
  | k + 1, hk => by
    have ih := uh_eq s k (by omega)
    rw [uh, ih, uwrap]
    rcases (by omega : k = 0 ∨ k = 1 ∨ k = 2 ∨ k = 3 ∨ k = 4 ∨ k = 5) with rfl | rfl | rfl | rfl | rfl | rfl
    all_goals
      rw [Int.tdiv_eq_ediv_of_nonneg (by omega)]
      simp only [Nat.zero_add, Nat.reduceAdd, Int.pow_zero, Int.reducePow, Int.pow_one, Int.ediv_one]
      omega
theorem uh_bit (s : Int) (k : Nat) (hk : k < 7) : ((uh k s).tmod 2 == 1) = tb s k := by
  rw [uh_eq s k hk, tb_div s k hk, Bool.eq_iff_iff]
  rcases (by omega : k = 0 ∨ k = 1 ∨ k = 2 ∨ k = 3 ∨ k = 4 ∨ k = 5 ∨ k = 6) with rfl | rfl | rfl | rfl | rfl | rfl | rfl
  all_goals
    rw [Int.tmod_eq_emod_of_nonneg (by omega)]
    first
      | (simp; done)
      | (simp; omega)
theorem rhas_ev (s i : Int) : Ev (fun k => althingref01_Has k s i) (hasV s i) := by
  refine Ev.congr (fun k => althingref01_Has_eq k s i) ?_
  unfold hasV
  by_cases h0 : i < 0
  · rw [decide_eq_false (show ¬ (0 ≤ i ∧ i < 7) by omega)]
    exact Ev.bif_tt (decide_eq_true h0) (Ev.some _)
  by_cases h7 : i > 6
  · rw [decide_eq_false (show ¬ (0 ≤ i ∧ i < 7) by omega)]
    exact Ev.bif_ff (decide_eq_false h0) (Ev.bif_tt (decide_eq_true h7) (Ev.some _))
  refine Ev.bif_ff (decide_eq_false h0) (Ev.bif_ff (decide_eq_false h7) ?_)
  rw [decide_eq_true (show 0 ≤ i ∧ i < 7 by omega), Bool.true_and]
  obtain ⟨n, rfl⟩ : ∃ n : Nat, i = (n : Int) := ⟨i.toNat, by omega⟩
  rw [Int.toNat_natCast]
  have hn : n < 7 := by omega
  have : ∀ d j, j + d = n → Ev (fun k => althingref01_Has.c5 k (n : Int) (uh j s) (j : Int)) (tb s n) := by
    intro d
    induction d with
    | zero =>
      intro j hj
      obtain rfl : j = n := by omega
      exact Ev.step (f := fun _ => some ((uh j s).tmod 2 == 1)) (fun k => by rw [althingref01_Has.c5_eq, decide_eq_false (by omega)]; rfl) ((Ev.some _).to (uh_bit s j hn))
    | succ d ih =>
      intro j hj
      exact Ev.step (f := fun k => althingref01_Has.c5 k (n : Int) (uh (j + 1) s) ((j + 1 : Nat) : Int)) (fun k => by
        rw [althingref01_Has.c5_eq, decide_eq_true (show (j : Int) < (n : Int) by omega), wrap_at (by omega)]; rfl) (ih (j + 1) (by omega))
  exact this n 0 (by omega)
theorem rmembers_ev (s : Int) : Ev (fun k => althingref01_Members k s) (mem s 7) := by
  refine Ev.congr (fun k => althingref01_Members_eq k s) ?_
  have : ∀ d i, i + d = 7 → Ev (fun k => althingref01_Members.c3 k s (mem s i) (i : Int)) (mem s 7) := by
    intro d
    induction d with
    | zero =>
      intro i hi
      obtain rfl : i = 7 := by omega
      exact Ev.step (f := fun _ => some (mem s 7)) (fun k => by rw [althingref01_Members.c3_eq]; rfl) (Ev.some _)
    | succ d ih =>
      intro i hi
      have hl := mem_le s i
      have hw : IntKind.wrap .i64 ((i : Int) + 1) = ((i + 1 : Nat) : Int) := wrap_at (by omega)
      have hh : hasV s (i : Int) = tb s i := by unfold hasV; rw [decide_eq_true (by omega)]; simp
      refine Ev.step (f := fun k => (althingref01_Has k s (i : Int)).bind fun r0 => bif r0 then althingref01_Members.c3 k s (mem s i ++ [(i : Int)]) ((i + 1 : Nat) : Int) else althingref01_Members.c3 k s (mem s i) ((i + 1 : Nat) : Int)) (fun k => by
        rw [althingref01_Members.c3_eq, decide_eq_true (show (i : Int) ≤ 6 by omega), lt32 (show (mem s i).length + 1 < 4294967296 by omega), hw]; rfl) (Ev.bind (rhas_ev s i) ?_)
      rw [hh]
      cases ht : tb s i with
      | true => refine Ev.bif_tt rfl ?_; have := ih (i + 1) (by omega); rw [mem_yes s i ht] at this; exact this
      | false => refine Ev.bif_ff rfl ?_; rw [← mem_no s i ht]; exact ih (i + 1) (by omega)
  exact this 7 0 rfl
theorem rcount_ev (s : Int) : Ev (fun k => althingref01_Count k s) ((mem s 7).length : Int) := Ev.congr (fun k => althingref01_Count_eq k s) (Ev.map_ (fun r : List Int => (r.length : Int)) (rmembers_ev s))
theorem tb_7 : tb 7 0 = true ∧ tb 7 1 = true ∧ tb 7 2 = true ∧ tb 7 3 = false ∧ tb 7 4 = false ∧ tb 7 5 = false ∧ tb 7 6 = false := by decide
theorem tb_31 : tb 31 0 = true ∧ tb 31 1 = true ∧ tb 31 2 = true ∧ tb 31 3 = true ∧ tb 31 4 = true ∧ tb 31 5 = false ∧ tb 31 6 = false := by decide
theorem tb_127 : tb 127 0 = true ∧ tb 127 1 = true ∧ tb 127 2 = true ∧ tb 127 3 = true ∧ tb 127 4 = true ∧ tb 127 5 = true ∧ tb 127 6 = true := by decide
theorem maj_len (f s : Int) : (mem (bitsI .and .i64 s (allq f)) 7).length = (mem s (sz f).toNat).length := by
  rcases f_cases f with rfl | rfl | rfl | ⟨n1, n2, n3⟩
  · rw [show (sz 1).toNat = 3 from rfl]; simp [allq, mem7, bn, tb_and, tb_7, mem_len, mem_zero]
  · rw [show (sz 2).toNat = 5 from rfl]; simp [allq, mem7, bn, tb_and, tb_31, mem_len, mem_zero]
  · rw [show (sz 3).toNat = 7 from rfl]; simp [allq, mem7, bn, tb_and, tb_127, mem_len, mem_zero]
  · simp [sz, allq, n1, n2, n3, mem7, bn, tb_and, tb_zero, mem_zero]
theorem rmajor_ev (f s : Int) : Ev (fun k => althingref01_Major k f s) (majB f s) := by
  refine Ev.congr (fun k => althingref01_Major_eq k f s) ?_
  have hz := sz_in f
  have hend : (decide (sz f > 0) && decide (((mem s (sz f).toNat).length : Int) ≥ slw f)) = majB f s := by
    unfold majB
    rw [maj_len]
    congr 1
    rcases f_cases f with rfl | rfl | rfl | ⟨n1, n2, n3⟩
    · rfl
    · rfl
    · rfl
    · simp [sz, slw, n1, n2, n3]
  have : ∀ d i : Nat, i + d = (sz f).toNat → Ev (fun k => althingref01_Major.c3 k f s ((mem s i).length : Int) (i : Int)) (majB f s) := by
    intro d
    induction d with
    | zero =>
      intro i hi
      obtain rfl : i = (sz f).toNat := by omega
      refine Ev.step (f := fun k => bif decide (sz f > 0) then some (decide (((mem s (sz f).toNat).length : Int) ≥ slw f)) else some false) (fun k => by
        rw [althingref01_Major.c3_eq, rsize_at]
        show (bif decide (((sz f).toNat : Int) < sz f) then _ else _) = _
        rw [decide_eq_false (by omega), rslow_at]; rfl) ((Ev.at_ fun k => cs _ _).to hend)
    | succ d ih =>
      intro i hi
      have hl := mem_le s i
      have hw : IntKind.wrap .i64 ((i : Int) + 1) = ((i + 1 : Nat) : Int) := wrap_at (by omega)
      have hw2 : IntKind.wrap .i64 (((mem s i).length : Int) + 1) = (((mem s i).length + 1 : Nat) : Int) := wrap_at (by omega)
      have hh : hasV s (i : Int) = tb s i := by unfold hasV; rw [decide_eq_true (by omega)]; simp
      refine Ev.step (f := fun k => (althingref01_Has k s (i : Int)).bind fun r0 => bif r0 then althingref01_Major.c3 k f s (((mem s i).length + 1 : Nat) : Int) ((i + 1 : Nat) : Int) else althingref01_Major.c3 k f s ((mem s i).length : Int) ((i + 1 : Nat) : Int)) (fun k => by
        rw [althingref01_Major.c3_eq, rsize_at]
        show (bif decide ((i : Int) < sz f) then _ else _) = _
        rw [decide_eq_true (by omega), hw, hw2]; rfl) (Ev.bind (rhas_ev s i) ?_)
      rw [hh]
      cases ht : tb s i with
      | true =>
        refine Ev.bif_tt rfl ?_
        have := ih (i + 1) (by omega)
        rw [mem_yes s i ht, List.length_append] at this
        exact this
      | false => refine Ev.bif_ff rfl ?_; rw [← mem_no s i ht]; exact ih (i + 1) (by omega)
  exact this (sz f).toNat 0 (by omega)
end Go.Proofs.YtjgcmmpfaemkiaaGreat.V
end
section
namespace Go.Proofs.YtjgcmmpfaemkiaaGreat.V
open Go Go.Vm Go.Proofs.YtjgcmmpfaemkiaaGreat.Strs
set_option linter.unusedVariables false
set_option linter.unusedSimpArgs false
abbrev Vt := Ty_repair_Vote.den
abbrev zVt : Vt := Ty.zero Ty_repair_Vote
abbrev zRcd : Rc := Ty.zero Ty_api_Record
def fewV (l : List Vt) : Prop := l.length ≤ 100 ∧ ∀ v ∈ l, small v.2.2.2.2.2.1
def part (l l' : List Vt) : Prop := l'.length ≤ l.length ∧ ∀ v ∈ l', v ∈ l
theorem fewV_part {l l' : List Vt} (h : fewV l) (hp : part l l') : fewV l' := ⟨Nat.le_trans hp.1 h.1, fun v hv => h.2 v (hp.2 v hv)⟩
theorem part_refl (l : List Vt) : part l l := ⟨Nat.le_refl _, fun _ h => h⟩
theorem counted_ex (l : List Vt) (hl : l.length ≤ 1000) : ∃ r : List Vt × List (Int × Int), Ev (fun k => repair_counted k l) r ∧ part l r.1 := by
  have : ∀ d i (acc : List Vt) (mp : List (Int × Int)), i + d = l.length → acc.length ≤ i → (∀ v ∈ acc, v ∈ l) → ∃ r : List Vt × List (Int × Int), Ev (fun k => repair_counted.c4 k acc mp l (l.length : Int) (i : Int)) r ∧ part l r.1 := by
    intro d
    induction d with
    | zero =>
      intro i acc mp hi ha hm
      obtain rfl : i = l.length := by omega
      exact ⟨(acc, mp), Ev.step (f := fun _ => some (acc, mp)) (fun k => by rw [repair_counted.c4_eq, lt_ff (Nat.lt_irrefl _)]; rfl) (Ev.some _), ha, hm⟩
    | succ d ih =>
      intro i acc mp hi ha hm
      have hil : i < l.length := by omega
      have hw : IntKind.wrap .i64 ((i : Int) + 1) = ((i + 1 : Nat) : Int) := wrap_at (by omega)
      have key : ∀ (c : Bool) (mp' : List (Int × Int)), ∃ r : List Vt × List (Int × Int), Ev (fun k => bif c then repair_counted.c4 k (acc ++ [l[i]]) mp' l (l.length : Int) ((i + 1 : Nat) : Int) else repair_counted.c4 k acc mp' l (l.length : Int) ((i + 1 : Nat) : Int)) r ∧ part l r.1 := by
        intro c mp'
        cases c with
        | true =>
          exact ih (i + 1) (acc ++ [l[i]]) mp' (by omega) (by rw [List.length_append]; simpa using ha) (fun v hv => by
            rcases List.mem_append.1 hv with h | h
            · exact hm v h
            · rw [List.mem_singleton.1 h]; exact List.getElem_mem hil)
        | false => exact ih (i + 1) acc mp' (by omega) (by omega) hm
      obtain ⟨r, hr, hp⟩ := key _ _
      refine ⟨r, Ev.step (fun k => ?_) hr, hp⟩
      rw [repair_counted.c4_eq, lt_tt hil, inI_tt hil, getD_at hil, lt32 (show acc.length + 1 < 4294967296 by omega), hw]
      rfl
  exact (this l.length 0 [] [] (by omega) (Nat.le_refl _) (fun v hv => by cases hv)).imp fun r hr => ⟨Ev.congr (fun k => repair_counted_eq k l) hr.1, hr.2⟩
theorem may_ex (f : Int) (i : In) (l : List Vt) (hl : fewV l) : ∃ r : Int, Ev (fun k => repair_may k f i l) r ∧ (r = 0 → ∀ v ∈ l, v.2.1 = i) := by
  have : ∀ d j, j + d = l.length → ∃ r : Int, Ev (fun k => repair_may.c5 k f l (sz f) l (l.length : Int) (j : Int) i) r ∧ (r = 0 → ∀ v ∈ l.drop j, v.2.1 = i) := by
    intro d
    induction d with
    | zero =>
      intro j hj
      obtain rfl : j = l.length := by omega
      refine ⟨bif decide ((l.length : Int) < slw f) then 13 else 0, Ev.step (f := fun k => (quorum_Slow k f).bind fun r0 => bif decide ((l.length : Int) < r0) then some 13 else some 0) (fun k => by rw [repair_may.c5_eq, lt_ff (Nat.lt_irrefl _)]; rfl) (Ev.bind (slow_ev f) ?_), fun _ v hv => by rw [List.drop_length] at hv; cases hv⟩
      cases decide ((l.length : Int) < slw f) with
      | true => exact Ev.some _
      | false => exact Ev.some _
    | succ d ih =>
      intro j hj
      have hjl : j < l.length := by omega
      have hl0 := hl.1
      have hw : IntKind.wrap .i64 ((j : Int) + 1) = ((j + 1 : Nat) : Int) := wrap_at (by omega)
      obtain ⟨r, hr, hp⟩ := ih (j + 1) (by omega)
      have hev := wright_ev l[j].2 (hl.2 _ (List.getElem_mem hjl))
      let good : Bool := !decide (l[j].1 < 0) && (!decide (l[j].1 ≥ sz f) && (Ty.beq Ty_api_Instance l[j].2.1 i && rightR l[j].2))
      refine ⟨bif good then r else 1, Ev.step (f := fun k => bif decide (l[j].1 < 0) then some 1 else bif decide (l[j].1 ≥ sz f) then some 1 else bif !(Ty.beq Ty_api_Instance l[j].2.1 i) then some 1 else (wire_RightRecord k l[j].2).bind fun r0 => bif !r0 then some 1 else repair_may.c5 k f l (sz f) l (l.length : Int) ((j + 1 : Nat) : Int) i) (fun k => by
        rw [repair_may.c5_eq, lt_tt hjl, inI_tt hjl, getD_at hjl, hw]; rfl) ?_, ?_⟩
      · show Ev _ (bif !decide (l[j].1 < 0) && (!decide (l[j].1 ≥ sz f) && (Ty.beq Ty_api_Instance l[j].2.1 i && rightR l[j].2)) then r else 1)
        cases decide (l[j].1 < 0) with
        | true => exact Ev.some _
        | false =>
          refine Ev.bif_ff rfl ?_
          cases decide (l[j].1 ≥ sz f) with
          | true => exact Ev.some _
          | false =>
            refine Ev.bif_ff rfl ?_
            cases Ty.beq Ty_api_Instance l[j].2.1 i with
            | false => exact Ev.some _
            | true =>
              refine Ev.bif_ff rfl (Ev.bind hev ?_)
              cases rightR l[j].2 with
              | true => exact hr
              | false => exact Ev.some _
      · intro h0 v hv
        have hg : good = true := by
          cases hgd : good with
          | true => rfl
          | false => rw [hgd] at h0; cases h0
        rw [hg] at h0
        rw [drop_at hjl] at hv
        rcases List.mem_cons.1 hv with rfl | hv
        · have hg' : (!decide (l[j].1 < 0) && (!decide (l[j].1 ≥ sz f) && (Ty.beq Ty_api_Instance l[j].2.1 i && rightR l[j].2))) = true := hg
          rw [Bool.and_eq_true, Bool.and_eq_true, Bool.and_eq_true] at hg'
          exact inst_eq hg'.2.2.1
        · exact hp h0 v hv
  obtain ⟨r, hr, hp⟩ := this l.length 0 (by omega)
  refine ⟨bif instV i && !decide (i.1 ≥ sz f) then r else 1, Ev.congr (fun k => repair_may_eq k f i l) (Ev.bind (size_ev f) ?_), ?_⟩
  · simp only [sinst_at, Option.bind_some]
    cases instV i with
    | false => exact Ev.some _
    | true =>
      refine Ev.bif_ff rfl ?_
      cases decide (i.1 ≥ sz f) with
      | true => exact Ev.some _
      | false => exact hr
  · intro h0
    cases hg : instV i && !decide (i.1 ≥ sz f) with
    | true => rw [hg] at h0; exact hp h0
    | false => rw [hg] at h0; cases h0
theorem pick_ex (l : List Vt) (hl : l.length ≤ 1000) (p : Vt → Bool) : ∃ r : Rc × Bool, Ev (fun k => repair_pick k l (fun v => some (p v))) r ∧ (r.2 = true → ∃ v ∈ l, p v = true ∧ r.1 = v.2) ∧ ((∃ v ∈ l, p v = true) → r.2 = true) := by
  have stop : ∀ q : Int, (q = -1 ∧ ∀ v ∈ l, p v = false) ∨ (∃ j : Nat, ∃ h : j < l.length, q = (j : Int) ∧ p l[j] = true) →
      ∃ r : Rc × Bool, (∀ z, Ev (fun k => repair_pick.c3 k l (fun v => some (p v)) q l (l.length : Int) (l.length : Int) z) r) ∧ (r.2 = true → ∃ v ∈ l, p v = true ∧ r.1 = v.2) ∧ ((∃ v ∈ l, p v = true) → r.2 = true) := by
    intro q hq
    rcases hq with ⟨rfl, hno⟩ | ⟨j, hj, rfl, hp⟩
    · exact ⟨(zRcd, false), fun z => Ev.step (f := fun _ => some (zRcd, false)) (fun k => by rw [repair_pick.c3_eq, lt_ff (Nat.lt_irrefl _)]; rfl) (Ev.some _), fun h => (by cases h), fun ⟨v, hv, h⟩ => by rw [hno v hv] at h; cases h⟩
    · exact ⟨(l[j].2, true), fun z => Ev.step (f := fun _ => some (l[j].2, true)) (fun k => by
        rw [repair_pick.c3_eq, lt_ff (Nat.lt_irrefl _), decide_eq_false (show ¬ (j : Int) < 0 by omega), inI_tt hj, getD_at hj]; rfl) (Ev.some _), fun _ => ⟨l[j], List.getElem_mem hj, hp, rfl⟩, fun _ => rfl⟩
  have : ∀ d i (q : Int) (z : Rc), i + d = l.length → ((q = -1 ∧ ∀ v ∈ l.take i, p v = false) ∨ (∃ j : Nat, ∃ h : j < l.length, q = (j : Int) ∧ p l[j] = true)) →
      ∃ r : Rc × Bool, Ev (fun k => repair_pick.c3 k l (fun v => some (p v)) q l (l.length : Int) (i : Int) z) r ∧ (r.2 = true → ∃ v ∈ l, p v = true ∧ r.1 = v.2) ∧ ((∃ v ∈ l, p v = true) → r.2 = true) := by
    intro d
    induction d with
    | zero =>
      intro i q z hi hq
      obtain rfl : i = l.length := by omega
      rw [List.take_length] at hq
      obtain ⟨r, h1, h2⟩ := stop q hq
      exact ⟨r, h1 z, h2⟩
    | succ d ih =>
      intro i q z hi hq
      have hil : i < l.length := by omega
      have hw : IntKind.wrap .i64 ((i : Int) + 1) = ((i + 1 : Nat) : Int) := wrap_at (by omega)
      cases hp : p l[i] with
      | false =>
        obtain ⟨r, h1, h2⟩ := ih (i + 1) q z (by omega) (by
          rcases hq with ⟨hq, hno⟩ | h
          · refine .inl ⟨hq, fun v hv => ?_⟩
            rw [List.take_succ_eq_append_getElem hil] at hv
            rcases List.mem_append.1 hv with h | h
            · exact hno v h
            · rw [List.mem_singleton.1 h]; exact hp
          · exact .inr h)
        refine ⟨r, Ev.step (fun k => ?_) h1, h2⟩
        rw [repair_pick.c3_eq, lt_tt hil, inI_tt hil, getD_at hil, hp, hw]
        rfl
      | true =>
        obtain ⟨r, h1, h2⟩ := ih (i + 1) (i : Int) z (by omega) (.inr ⟨i, hil, rfl, hp⟩)
        rcases hq with ⟨hq, hno⟩ | ⟨j, hj, hq, hpj⟩
        · subst hq
          refine ⟨r, Ev.step (fun k => ?_) h1, h2⟩
          rw [repair_pick.c3_eq, lt_tt hil, inI_tt hil, getD_at hil, hp, hw]
          rfl
        · subst hq
          obtain ⟨r', h1', h2'⟩ := ih (i + 1) (j : Int) z (by omega) (.inr ⟨j, hj, rfl, hpj⟩)
          have hc := cmpb_ev l[i].2.2.2.2.1 l[j].2.2.2.2.1
          have hst : ∀ k, repair_pick.c3 (k + 1) l (fun v => some (p v)) (j : Int) l (l.length : Int) (i : Int) z = (stamp_CompareBallots k l[i].2.2.2.2.1 l[j].2.2.2.2.1).bind fun r1 => bif decide (r1 > 0) then repair_pick.c3 k l (fun v => some (p v)) (i : Int) l (l.length : Int) ((i + 1 : Nat) : Int) z else repair_pick.c3 k l (fun v => some (p v)) (j : Int) l (l.length : Int) ((i + 1 : Nat) : Int) z := fun k => by
            rw [repair_pick.c3_eq, lt_tt hil, inI_tt hil, getD_at hil, hp, hw, decide_eq_false (show ¬ (j : Int) < 0 by omega), inI_tt hj, getD_at hj]
            rfl
          cases hd : decide (ordV l[i].2.2.2.2.1.1 l[i].2.2.2.2.1.2 l[j].2.2.2.2.1.1 l[j].2.2.2.2.1.2 > 0) with
          | true => exact ⟨r, Ev.step hst (Ev.bind hc (Ev.bif_tt hd h1)), h2⟩
          | false => exact ⟨r', Ev.step hst (Ev.bind hc (Ev.bif_ff hd h1')), h2'⟩
  obtain ⟨r, h1, h2⟩ := this l.length 0 (-1) (Ty.zero Ty_api_Record) (by omega) (.inl ⟨rfl, fun v hv => by cases hv⟩)
  exact ⟨r, Ev.congr (fun k => repair_pick_eq k l _) h1, h2⟩
def fastV (v : Vt) : Bool := bif v.2.2.1 == 1 then bif Ty.beq Ty_api_Instance v.2.2.2.2.1 zIn then v.2.2.2.2.2.2.2.2 else false else false
theorem fast_at (k) (v : Vt) : repair_fast k v = some (fastV v) := by
  rw [repair_fast_eq]
  unfold fastV
  cases v.2.2.1 == 1 with
  | false => rfl
  | true =>
    show (bif Ty.beq Ty_api_Instance v.2.2.2.2.1 zIn then some v.2.2.2.2.2.2.2.2 else some false) = some (bif Ty.beq Ty_api_Instance v.2.2.2.2.1 zIn then v.2.2.2.2.2.2.2.2 else false)
    cases Ty.beq Ty_api_Instance v.2.2.2.2.1 zIn <;> rfl
theorem Fast_ex (f : Int) (i : In) (l : List Vt) (hl : fewV l) (hf : 1 ≤ f) : ∃ b, Ev (fun k => repair_Fast k f i l) b ∧ (b = true → ∃ v ∈ l, fastV v = true) := by
  obtain ⟨c, hc, hp⟩ := counted_ex l (by have := hl.1; omega)
  obtain ⟨q, hq, _⟩ := may_ex f i c.1 (fewV_part hl hp)
  have hcl := (fewV_part hl hp).1
  have : ∀ d j (n : Int), j + d = c.1.length → ∃ b, Ev (fun k => repair_Fast.c6 k f n c.1 (c.1.length : Int) (j : Int)) b ∧ (b = true → (∃ v ∈ c.1, fastV v = true) ∨ n ≥ f) := by
    intro d
    induction d with
    | zero =>
      intro j n hj
      obtain rfl : j = c.1.length := by omega
      exact ⟨decide (n ≥ f), Ev.step (f := fun _ => some (decide (n ≥ f))) (fun k => by rw [repair_Fast.c6_eq, lt_ff (Nat.lt_irrefl _)]; rfl) (Ev.some _), fun h => .inr (of_decide_eq_true h)⟩
    | succ d ih =>
      intro j n hj
      have hjl : j < c.1.length := by omega
      have hw : IntKind.wrap .i64 ((j : Int) + 1) = ((j + 1 : Nat) : Int) := wrap_at (by omega)
      have hst : ∀ k, repair_Fast.c6 (k + 1) f n c.1 (c.1.length : Int) (j : Int) = bif fastV c.1[j] then repair_Fast.c6 k f (IntKind.wrap .i64 (n + 1)) c.1 (c.1.length : Int) ((j + 1 : Nat) : Int) else repair_Fast.c6 k f n c.1 (c.1.length : Int) ((j + 1 : Nat) : Int) := fun k => by
        rw [repair_Fast.c6_eq, lt_tt hjl, inI_tt hjl, getD_at hjl, fast_at, hw]; rfl
      cases hfv : fastV c.1[j] with
      | true =>
        obtain ⟨b, hb, _⟩ := ih (j + 1) (IntKind.wrap .i64 (n + 1)) (by omega)
        exact ⟨b, Ev.step hst (Ev.bif_tt hfv hb), fun _ => .inl ⟨_, List.getElem_mem hjl, hfv⟩⟩
      | false =>
        obtain ⟨b, hb, h2⟩ := ih (j + 1) n (by omega)
        exact ⟨b, Ev.step hst (Ev.bif_ff hfv hb), h2⟩
  obtain ⟨b, hb, h2⟩ := this c.1.length 0 0 (by omega)
  let g : Bool := !(q != 0) && !decide ((Option.getD (mapGet (Ty.int IntKind.i64) (Ty.int IntKind.i64) i.1 c.2) 0) > 0)
  refine ⟨g && b, Ev.congr (fun k => repair_Fast_eq k f i l) (Ev.bind hc (Ev.bind hq ?_)), fun h => ?_⟩
  · show Ev _ ((!(q != 0) && !decide ((Option.getD (mapGet (Ty.int IntKind.i64) (Ty.int IntKind.i64) i.1 c.2) 0) > 0)) && b)
    rw [Bool.and_assoc]
    exact Ev.norr fun _ => Ev.norr fun _ => hb
  · rw [Bool.and_eq_true] at h
    rcases h2 h.2 with ⟨v, hv, h⟩ | h
    · exact ⟨v, hp.2 v hv, h⟩
    · omega
def asV (r : Rc) (s : Int) : Rc := (r.1, (s, (zIn, (zIn, (r.2.2.2.2.1, (r.2.2.2.2.2.1, (r.2.2.2.2.2.2.1, s == 1)))))))
theorem as_at (k) (r : Rc) (s : Int) (h : small r.2.2.2.2.1) : repair_as k r s = some (asV r s) := by rw [repair_as_eq, clone_at _ h]; rfl
def DecP (i : In) (l : List Vt) (r : Rc × Int) : Prop := r.2 = 0 → r.1.1 = i ∧ small r.1.2.2.2.2.1 ∧ ((r.1.2.1 == 3) = true → ∃ v ∈ l, (v.2.2.1 == 3) = true)
theorem decide_ex (f : Int) (i : In) (l : List Vt) (hl : fewV l) (hf : 1 ≤ f) : ∃ r, Ev (fun k => repair_Decide k f i l) r ∧ DecP i l r := by
  obtain ⟨c, hc, hp⟩ := counted_ex l (by have := hl.1; omega)
  obtain ⟨q, hq, hq0⟩ := may_ex f i c.1 (fewV_part hl hp)
  have hcl := fewV_part hl hp
  cases hq1 : q != 0 with
  | true =>
    refine ⟨(zRcd, q), Ev.congr (fun k => repair_Decide_eq k f i l) (Ev.bind hc (Ev.bind hq (Ev.bif_tt hq1 (Ev.some _)))), fun h => ?_⟩
    simp only at h
    rw [h] at hq1
    cases hq1
  | false =>
    have hin := hq0 (by simpa using hq1)
    have one : ∀ (v : Vt) (s : Int), v ∈ c.1 → (s == 3) = false → DecP i l (asV v.2 s, 0) := fun v s hv hs _ => ⟨hin v hv, hcl.2 v hv, fun h => by
      have h' : (s == 3) = true := h
      rw [hs] at h'; cases h'⟩
    obtain ⟨r1, e1, s1, t1⟩ := pick_ex c.1 (by have := hcl.1; omega) (fun v => v.2.2.1 == 2)
    obtain ⟨b2, e2, s2⟩ := Fast_ex f i c.1 hcl hf
    obtain ⟨r3, e3, s3, t3⟩ := pick_ex c.1 (by have := hcl.1; omega) fastV
    obtain ⟨r4, e4, s4, t4⟩ := pick_ex c.1 (by have := hcl.1; omega) (fun v => v.2.2.1 == 1)
    have hfun : ∀ k n, (repair_Decide_1 k n) = some (fun v : Vt => some (v.2.2.1 == n)) := fun k n => by
      show some _ = some _
      congr 1
      funext v
      exact repair_Decide_1_1_eq k v n
    have hfun2 : ∀ k, (fun x => repair_fast k x) = fun v : Vt => some (fastV v) := fun k => funext fun v => fast_at k v
    have hsm : ∀ (r : Rc × Bool) (pp : Vt → Bool), (r.2 = true → ∃ v ∈ c.1, pp v = true ∧ r.1 = v.2) → r.2 = true → ∃ v ∈ c.1, r.1 = v.2 := fun r pp h h2 => by
      obtain ⟨v, hv, _, e⟩ := h h2
      exact ⟨v, hv, e⟩
    have fin : ∀ z, ∃ r, Ev (fun k => repair_Decide.c7 k f c.1 c.1 (c.1.length : Int) (c.1.length : Int) i z) r ∧ DecP i l r := by
      intro z
      let A4 : Nat → Option (Rc × Int) := fun k => (accept_Know k [] i).bind fun r5 => (repair_as k (r5.1, (r5.2.1, (r5.2.2.1, (r5.2.2.2.1, (r5.2.2.2.2.1, (1, r5.2.2.2.2.2.2)))))) 2).bind fun r6 => some (r6, 0)
      let A3 : Nat → Option (Rc × Int) := fun k => (repair_pick k c.1 (fun v : Vt => some (v.2.2.1 == 1))).bind fun r4 => bif r4.2 then ((repair_as k r4.1 1).bind fun r5 => some (r5, 0)) else A4 k
      let A2 : Nat → Option (Rc × Int) := fun k => (repair_Fast k f i c.1).bind fun r2 => bif r2 then ((repair_pick k c.1 (fun v : Vt => some (fastV v))).bind fun r3 => (repair_as k r3.1 2).bind fun r4 => some (r4, 0)) else A3 k
      let A1 : Nat → Option (Rc × Int) := fun k => (repair_pick k c.1 (fun v : Vt => some (v.2.2.1 == 2))).bind fun r1 => bif r1.2 then ((repair_as k r1.1 2).bind fun r2 => some (r2, 0)) else A2 k
      have hst : ∀ k, repair_Decide.c7 (k + 1) f c.1 c.1 (c.1.length : Int) (c.1.length : Int) i z = A1 k := fun k => by
        rw [repair_Decide.c7_eq, lt_ff (Nat.lt_irrefl _)]
        simp only [hfun, hfun2, Option.bind_some]
        rfl
      have h4 : ∃ r, Ev A4 r ∧ DecP i l r := by
        have hk := know_ev [] ⟨Nat.zero_le _, fun x hx => by cases hx⟩ i
        exact ⟨(asV (i, (0, (zIn, (zIn, (zCm, (1, (Ty.zero (Ty.pair Ty_api_Deps Ty.bool)))))))) 2, 0), Ev.bind hk (Ev.bind (Ev.at_ fun k => as_at k _ 2 small_zero) (Ev.some _)), fun _ => ⟨rfl, small_zero, fun h => (by cases h)⟩⟩
      have h3 : ∃ r, Ev A3 r ∧ DecP i l r := by
        cases h : r4.2 with
        | true =>
          obtain ⟨v, hv, e⟩ := hsm _ _ s4 h
          rw [← Prod.eta r4, h, e] at e4
          exact ⟨(asV v.2 1, 0), Ev.bind e4 (Ev.bif_tt rfl (Ev.bind (Ev.at_ fun k => as_at k _ _ (hcl.2 v hv)) (Ev.some _))), one v 1 hv rfl⟩
        | false =>
          obtain ⟨r, hr, hd⟩ := h4
          exact ⟨r, Ev.bind e4 (Ev.bif_ff h hr), hd⟩
      have h2 : ∃ r, Ev A2 r ∧ DecP i l r := by
        cases h : b2 with
        | true =>
          subst h
          obtain ⟨v, hv, e⟩ := hsm _ _ s3 (t3 (s2 rfl))
          rw [← Prod.eta r3, e] at e3
          exact ⟨(asV v.2 2, 0), Ev.bind e2 (Ev.bif_tt rfl (Ev.bind e3 (Ev.bind (Ev.at_ fun k => as_at k _ _ (hcl.2 v hv)) (Ev.some _)))), one v 2 hv rfl⟩
        | false =>
          subst h
          obtain ⟨r, hr, hd⟩ := h3
          exact ⟨r, Ev.bind e2 (Ev.bif_ff rfl hr), hd⟩
      cases h : r1.2 with
      | true =>
        obtain ⟨v, hv, e⟩ := hsm _ _ s1 h
        rw [← Prod.eta r1, h, e] at e1
        exact ⟨(asV v.2 2, 0), Ev.step hst (Ev.bind e1 (Ev.bif_tt rfl (Ev.bind (Ev.at_ fun k => as_at k _ _ (hcl.2 v hv)) (Ev.some _)))), one v 2 hv rfl⟩
      | false =>
        obtain ⟨r, hr, hd⟩ := h2
        exact ⟨r, Ev.step hst (Ev.bind e1 (Ev.bif_ff h hr)), hd⟩
    have loop : ∀ d j z, j + d = c.1.length → ∃ r, Ev (fun k => repair_Decide.c7 k f c.1 c.1 (c.1.length : Int) (j : Int) i z) r ∧ DecP i l r := by
      intro d
      induction d with
      | zero =>
        intro j z hj
        obtain rfl : j = c.1.length := by omega
        exact fin z
      | succ d ih =>
        intro j z hj
        have hjl : j < c.1.length := by omega
        have hcl0 := hcl.1
        have hw : IntKind.wrap .i64 ((j : Int) + 1) = ((j + 1 : Nat) : Int) := wrap_at (by omega)
        have hst : ∀ k, repair_Decide.c7 (k + 1) f c.1 c.1 (c.1.length : Int) (j : Int) i z = bif c.1[j].2.2.1 == 3 then ((repair_as k c.1[j].2 3).bind fun r0 => some (r0, 0)) else repair_Decide.c7 k f c.1 c.1 (c.1.length : Int) ((j + 1 : Nat) : Int) i z := fun k => by
          rw [repair_Decide.c7_eq, lt_tt hjl, inI_tt hjl, getD_at hjl, hw]; rfl
        have hv : c.1[j] ∈ c.1 := List.getElem_mem hjl
        cases h3 : c.1[j].2.2.1 == 3 with
        | true =>
          exact ⟨(asV c.1[j].2 3, 0), Ev.step hst (Ev.bif_tt h3 (Ev.bind (Ev.at_ fun k => as_at k _ _ (hcl.2 _ hv)) (Ev.some _))), fun _ => ⟨hin _ hv, hcl.2 _ hv, fun _ => ⟨_, hp.2 _ hv, h3⟩⟩⟩
        | false =>
          obtain ⟨r, hr, hd⟩ := ih (j + 1) z (by omega)
          exact ⟨r, Ev.step hst (Ev.bif_ff h3 hr), hd⟩
    obtain ⟨r, hr, hd⟩ := loop c.1.length 0 (Ty.zero Ty_api_Record) (by omega)
    exact ⟨r, Ev.congr (fun k => repair_Decide_eq k f i l) (Ev.bind hc (Ev.bind hq (Ev.bif_ff hq1 hr))), hd⟩
end Go.Proofs.YtjgcmmpfaemkiaaGreat.V
end
section
namespace Go.Proofs.YtjgcmmpfaemkiaaGreat.V
open Go Go.Vm Go.Proofs.YtjgcmmpfaemkiaaGreat.Strs
set_option linter.unusedVariables false
set_option linter.unusedSimpArgs false
abbrev Ld := Ty_lead_Lead.den
abbrev Sl := Ty_lead_Step.den
abbrev slZ : Sl := Ty.zero Ty_lead_Step
theorem lown_at (k) (r : Rc) (h : small r.2.2.2.2.1) : lead_own k r = some r := by rw [lead_own_eq, clone_at _ h]; rfl
def toldV (a : Rc) (n : Int) (b : Rc) : Sl := (a, (true, (n, b)))
theorem told_at (k) (a : Rc) (n : Int) (b : Rc) (ha : small a.2.2.2.2.1) (hb : small b.2.2.2.2.1) : lead_told k a n b = some (toldV a n b) := by rw [lead_told_eq, lown_at _ _ ha, Option.bind_some, lown_at _ _ hb]; rfl
def comR (x : Ld) (kk r : Rc) : Rc := (r.1, (3, ((bif lowV kk.2.2.1 x.2.2.2.2.1 then x.2.2.2.2.1 else kk.2.2.1), (x.2.2.2.2.1, (r.2.2.2.2.1, (r.2.2.2.2.2.1, (r.2.2.2.2.2.2.1, false)))))))
def overL (x : Ld) : Ld := (x.1, (x.2.1, (4, x.2.2.2)))
def comV (x : Ld) (kk r : Rc) : Ld × Sl := (overL x, toldV (comR x kk r) 5 (comR x kk r))
theorem commit_ev (x : Ld) (kk r : Rc) (h : small r.2.2.2.2.1) : Ev (fun k => lead_Lead_commit k x kk r) (comV x kk r) := by
  refine Ev.congr (fun k => lead_Lead_commit_eq k x kk r) (Ev.bind (cmpb_ev _ _) ?_)
  rw [ord_pos]
  have c4 : ∀ (r' : Rc) (b6 : Ld) (b7 : Sl), small r'.2.2.2.2.1 → Ev (fun k => lead_Lead_commit.c4 k x r' b6 b7) (overL x, toldV r' 5 r') := fun r' b6 b7 h' =>
    Ev.step (fun k => lead_Lead_commit.c4_eq k x r' b6 b7) (Ev.bind (Ev.at_ fun k => told_at k r' 5 r' h' h') (Ev.some _))
  unfold comV comR
  show Ev _ (overL x, toldV (r.1, (3, ((bif lowP kk.2.2.1.1 kk.2.2.1.2 x.2.2.2.2.1.1 x.2.2.2.2.1.2 then x.2.2.2.2.1 else kk.2.2.1), _))) 5 (r.1, (3, ((bif lowP kk.2.2.1.1 kk.2.2.1.2 x.2.2.2.2.1.1 x.2.2.2.2.1.2 then x.2.2.2.2.1 else kk.2.2.1), _))))
  cases lowP kk.2.2.1.1 kk.2.2.1.2 x.2.2.2.2.1.1 x.2.2.2.2.1.2 with
  | true => exact Ev.bif_tt rfl (c4 _ _ _ h)
  | false => exact Ev.bif_ff rfl (c4 _ _ _ h)
def putR (x : Ld) (r : Rc) : Rc := (r.1, (2, (x.2.2.2.2.1, (x.2.2.2.2.1, (r.2.2.2.2.1, (r.2.2.2.2.2.1, (r.2.2.2.2.2.2.1, false)))))))
def lputV (x : Ld) (r : Rc) : Ld × Sl := ((x.1, (x.2.1, (2, (withQ 0 x.2.1, (x.2.2.2.2.1, (putR x r, x.2.2.2.2.2.2)))))), toldV (putR x r) 3 (putR x r))
theorem put_ev (x : Ld) (r : Rc) (h : small r.2.2.2.2.1) : Ev (fun k => lead_Lead_put k x r) (lputV x r) := by
  refine Ev.congr (fun k => lead_Lead_put_eq k x r) ?_
  simp only [with_atQ, Option.bind_some]
  exact Ev.bind (Ev.at_ fun k => lown_at k (putR x r) h) (Ev.bind (Ev.at_ fun k => told_at k (putR x r) 3 (putR x r) h h) (Ev.some _))
def allV (x : Ld) : Rc := (x.2.2.2.2.2.1.1, (x.2.2.2.2.2.1.2.1, (x.2.2.2.2.2.1.2.2.1, (x.2.2.2.2.2.1.2.2.2.1, (x.2.2.2.2.2.1.2.2.2.2.1, (x.2.2.2.2.2.2.2.1, (x.2.2.2.2.2.2.2.2.1, x.2.2.2.2.2.1.2.2.2.2.2.2.2)))))))
def joinAt (a b : Dp) (j : Nat) : Dp := (List.range j).foldl (fun d i => List.set (α := Int) d i (max (List.getD (α := Int) d i 0) (List.getD (α := Int) b i 0))) a
theorem joinAt_succ (a b : Dp) (j : Nat) : joinAt a b (j + 1) = List.set (α := Int) (joinAt a b j) j (max (List.getD (α := Int) (joinAt a b j) j 0) (List.getD (α := Int) b j 0)) := by
  unfold joinAt
  rw [List.range_succ, List.foldl_append]
  rfl
def joinD (a b : Dp) : Dp := joinAt a b 7
theorem djoin_ev (a b : Dp) : Ev (fun k => deps_Join k a b) (joinD a b) := by
  refine Ev.congr (fun k => deps_Join_eq k a b) ?_
  have : ∀ d j : Nat, j + d = 7 → ∀ z, Ev (fun k => deps_Join.c2 k b (j : Int) (joinAt a b j) z) (joinD a b) := by
    intro d
    induction d with
    | zero =>
      intro j hj z
      obtain rfl : j = 7 := by omega
      exact Ev.step (f := fun _ => some (joinD a b)) (fun k => by rw [deps_Join.c2_eq]; rfl) (Ev.some _)
    | succ d ih =>
      intro j hj z
      have hw : IntKind.wrap .i64 ((j : Int) + 1) = ((j + 1 : Nat) : Int) := wrap_at (by omega)
      refine Ev.step (fun k => ?_) (ih (j + 1) (by omega) z)
      rw [deps_Join.c2_eq, decide_eq_true (show (j : Int) < 7 by omega), inI_tt (by omega), hw, joinAt_succ, Int.toNat_natCast]
      rfl
  exact this 7 0 rfl _
def askedX (x : Ld) (r : Rc) : Ld := (x.1, (x.2.1, (x.2.2.1, (x.2.2.2.1, (x.2.2.2.2.1, (x.2.2.2.2.2.1, ((x.2.2.2.2.2.2.1 && (Ty.beq Ty_api_Instance x.2.2.2.2.1 zIn && ((r.2.2.2.2.2.1 == x.2.2.2.2.2.1.2.2.2.2.2.1) && Ty.beq Ty_api_Deps r.2.2.2.2.2.2.1 x.2.2.2.2.2.1.2.2.2.2.2.2.1))), (max x.2.2.2.2.2.2.2.1 r.2.2.2.2.2.1, (joinD x.2.2.2.2.2.2.2.2.1 r.2.2.2.2.2.2.1, x.2.2.2.2.2.2.2.2.2)))))))))
def countV (s : Int) : Int := ((mem s 7).length : Int)
def askedV (x : Ld) (kk r : Rc) : Ld × Sl :=
  bif (askedX x r).2.2.2.2.2.2.1 then (bif decide (countV x.2.2.2.1 ≥ fst_ x.1) then comV (askedX x r) kk x.2.2.2.2.2.1 else (askedX x r, slZ))
  else (bif majB x.1 x.2.2.2.1 then lputV (askedX x r) (allV (askedX x r)) else (askedX x r, slZ))
theorem asked_ev (x : Ld) (kk r : Rc) (h : small x.2.2.2.2.2.1.2.2.2.2.1) : Ev (fun k => lead_Lead_asked k x kk r) (askedV x kk r) := by
  have key : ∀ (q : Bool) (b6 : Ld) (b7 : Sl), Ev (fun k => lead_Lead_asked.c2 k (x.1, (x.2.1, (x.2.2.1, (x.2.2.2.1, (x.2.2.2.2.1, (x.2.2.2.2.2.1, (q, x.2.2.2.2.2.2.2))))))) kk r b6 b7)
      (bif q then (bif decide (countV x.2.2.2.1 ≥ fst_ x.1) then comV (x.1, (x.2.1, (x.2.2.1, (x.2.2.2.1, (x.2.2.2.2.1, (x.2.2.2.2.2.1, (q, (max x.2.2.2.2.2.2.2.1 r.2.2.2.2.2.1, (joinD x.2.2.2.2.2.2.2.2.1 r.2.2.2.2.2.2.1, x.2.2.2.2.2.2.2.2.2))))))))) kk x.2.2.2.2.2.1 else ((x.1, (x.2.1, (x.2.2.1, (x.2.2.2.1, (x.2.2.2.2.1, (x.2.2.2.2.2.1, (q, (max x.2.2.2.2.2.2.2.1 r.2.2.2.2.2.1, (joinD x.2.2.2.2.2.2.2.2.1 r.2.2.2.2.2.2.1, x.2.2.2.2.2.2.2.2.2))))))))), slZ))
        else (bif majB x.1 x.2.2.2.1 then lputV (x.1, (x.2.1, (x.2.2.1, (x.2.2.2.1, (x.2.2.2.2.1, (x.2.2.2.2.2.1, (q, (max x.2.2.2.2.2.2.2.1 r.2.2.2.2.2.1, (joinD x.2.2.2.2.2.2.2.2.1 r.2.2.2.2.2.2.1, x.2.2.2.2.2.2.2.2.2))))))))) (allV (x.1, (x.2.1, (x.2.2.1, (x.2.2.2.1, (x.2.2.2.2.1, (x.2.2.2.2.2.1, (q, (max x.2.2.2.2.2.2.2.1 r.2.2.2.2.2.1, (joinD x.2.2.2.2.2.2.2.2.1 r.2.2.2.2.2.2.1, x.2.2.2.2.2.2.2.2.2)))))))))) else ((x.1, (x.2.1, (x.2.2.1, (x.2.2.2.1, (x.2.2.2.2.1, (x.2.2.2.2.2.1, (q, (max x.2.2.2.2.2.2.2.1 r.2.2.2.2.2.1, (joinD x.2.2.2.2.2.2.2.2.1 r.2.2.2.2.2.2.1, x.2.2.2.2.2.2.2.2.2))))))))), slZ))) := by
    intro q b6 b7
    refine Ev.step (fun k => lead_Lead_asked.c2_eq k _ kk r b6 b7) (Ev.bind (djoin_ev _ _) ?_)
    generalize hx' : (x.1, (x.2.1, (x.2.2.1, (x.2.2.2.1, (x.2.2.2.2.1, (x.2.2.2.2.2.1, (q, (max x.2.2.2.2.2.2.2.1 r.2.2.2.2.2.1, (joinD x.2.2.2.2.2.2.2.2.1 r.2.2.2.2.2.2.1, x.2.2.2.2.2.2.2.2.2))))))))) = x'
    have hq : x'.2.2.2.2.2.2.1 = q := by rw [← hx']
    have hF : x'.1 = x.1 := by rw [← hx']
    have hH : x'.2.2.2.1 = x.2.2.2.1 := by rw [← hx']
    have hR : x'.2.2.2.2.2.1 = x.2.2.2.2.2.1 := by rw [← hx']
    cases q with
    | true =>
      refine Ev.bif_tt rfl (Ev.bind (count_ev _) (Ev.bind (fast_ev _) ?_))
      show Ev _ (bif decide (countV x.2.2.2.1 ≥ fst_ x.1) then comV x' kk x.2.2.2.2.2.1 else (x', slZ))
      show Ev (fun k => bif decide (countV x.2.2.2.1 ≥ fst_ x.1) then _ else _) _
      cases decide (countV x.2.2.2.1 ≥ fst_ x.1) with
      | true =>
        refine Ev.bif_tt rfl (Ev.step (fun k => lead_Lead_asked.c4_eq k _ kk b6 b7) ?_)
        rw [← hx']
        exact Ev.bind (commit_ev _ kk _ h) (Ev.some _)
      | false =>
        refine Ev.bif_ff rfl (Ev.step (f := fun _ => some (x', slZ)) (fun k => ?_) (Ev.some _))
        rw [lead_Lead_asked.c5_eq, ← hx']
        rfl
    | false =>
      refine Ev.bif_ff rfl (Ev.step (f := fun k => (quorum_Major k x.1 x.2.2.2.1).bind fun r0 => bif r0 then lead_Lead_asked.c6 k x' b6 b7 else some (x', slZ)) (fun k => by rw [lead_Lead_asked.c5_eq, ← hx']; rfl) (Ev.bind (major_ev _ _) ?_))
      show Ev _ (bif majB x.1 x.2.2.2.1 then lputV x' (allV x') else (x', slZ))
      cases majB x.1 x.2.2.2.1 with
      | true =>
        refine Ev.bif_tt rfl (Ev.step (fun k => lead_Lead_asked.c6_eq k x' b6 b7) (Ev.bind (Ev.at_ fun k => lead_Lead_all_eq k x') ?_))
        have hs : small (allV x').2.2.2.2.1 := by
          show small x'.2.2.2.2.2.1.2.2.2.2.1
          rw [hR]; exact h
        exact Ev.bind (put_ev x' (allV x') hs) (Ev.some _)
      | false => exact Ev.bif_ff rfl (Ev.some _)
  refine Ev.congr (fun k => lead_Lead_asked_eq k x kk r) ?_
  unfold askedV askedX
  cases x.2.2.2.2.2.2.1 with
  | false => exact key false _ _
  | true =>
    refine Ev.bif_tt rfl ?_
    show Ev (fun k => bif Ty.beq Ty_api_Instance x.2.2.2.2.1 zIn then _ else _) _
    cases Ty.beq Ty_api_Instance x.2.2.2.2.1 zIn with
    | false => exact key false _ _
    | true =>
      refine Ev.bif_tt rfl ?_
      cases r.2.2.2.2.2.1 == x.2.2.2.2.2.1.2.2.2.2.2.1 with
      | false => exact key false _ _
      | true => exact Ev.bif_tt rfl (key (Ty.beq Ty_api_Deps r.2.2.2.2.2.2.1 x.2.2.2.2.2.1.2.2.2.2.2.2.1) _ _)
def KeepP (x : Ld) (s : Sl) : Prop := s.2.1 = true ∧ s.1.1 = x.2.2.2.2.2.1.1 ∧ s.2.2.2.1 = x.2.2.2.2.2.1.1 ∧ lowV s.1.2.2.1 x.2.2.2.2.1 = false ∧ s.1.2.2.2.1 = x.2.2.2.2.1 ∧ s.2.2.1 > 0
def ComP (y : Ld) (s : Sl) (w : Prop) : Prop := (s.2.2.1 == 5) = true → y.2.2.1 = 4 ∧ s.1.2.1 = 3 ∧ s.2.2.2 = s.1 ∧ small s.1.2.2.2.2.1 ∧ w
theorem lt_self (n : Int) : decide (n < n) = false := decide_eq_false (Int.lt_irrefl n)
theorem isV_pos {f s : Int} (h : isV f s = true) : 1 ≤ f := by
  have := (isV_in h).1
  omega
theorem low_self (b : In) : lowV b b = false := by
  unfold lowV lowP
  rw [lt_self, lt_self, Bool.and_false]
  rfl
theorem com_keep (x : Ld) (kk r : Rc) (h : r.1 = x.2.2.2.2.2.1.1) (x' : Ld) (hx : x'.2.2.2.2.1 = x.2.2.2.2.1) : KeepP x (comV x' kk r).2 := by
  refine ⟨rfl, h, h, ?_, hx, by show (5 : Int) > 0; decide⟩
  show lowV (bif lowV kk.2.2.1 x'.2.2.2.2.1 then x'.2.2.2.2.1 else kk.2.2.1) x.2.2.2.2.1 = false
  rw [hx]
  cases hl : lowV kk.2.2.1 x.2.2.2.2.1 with
  | true => exact low_self _
  | false => exact hl
theorem put_keep (x : Ld) (r : Rc) (h : r.1 = x.2.2.2.2.2.1.1) (x' : Ld) (hx : x'.2.2.2.2.1 = x.2.2.2.2.1) : KeepP x (lputV x' r).2 := by
  refine ⟨rfl, h, h, ?_, hx, by show (3 : Int) > 0; decide⟩
  show lowV x'.2.2.2.2.1 x.2.2.2.2.1 = false
  rw [hx]; exact low_self _
def moreL (x : Ld) (m : Ms) : Ld := (x.1, (x.2.1, (x.2.2.1, (x.2.2.2.1, (x.2.2.2.2.1, (x.2.2.2.2.2.1, (x.2.2.2.2.2.2.1, (x.2.2.2.2.2.2.2.1, (x.2.2.2.2.2.2.2.2.1, (x.2.2.2.2.2.2.2.2.2 ++ [(m.2.1, m.2.2.2.2)])))))))))) 
def toldB (x : Ld) (m : Ms) : Prop := (m.2.2.2.2.2.1 == 3) = true ∨ ∃ v ∈ (x.2.2.2.2.2.2.2.2.2 : List Vt), (v.2.2.1 == 3) = true
theorem ask_ex (x : Ld) (l : List Rc) (hl : fewR l) (r : Rc) (h : small r.2.2.2.2.1) (hi : r.1 = x.2.2.2.2.2.1.1) : ∃ y s, Ev (fun k => lead_Lead_ask k x l r) (y, s) ∧ KeepP x s ∧ s.2.2.1 = 1 := by
  have c5 : ∀ (b5 b8 : Rc) (b6 : Ld) (b7 : Sl), small b5.2.2.2.2.1 → small b8.2.2.2.2.1 → Ev (fun k => lead_Lead_ask.c5 k x b5 b6 b7 b8) ((x.1, (x.2.1, (1, (withQ 0 x.2.1, (x.2.2.2.2.1, (b5, (false, (b8.2.2.2.2.2.1, (b8.2.2.2.2.2.2.1, x.2.2.2.2.2.2.2.2.2))))))))), toldV b8 1 b5) := fun b5 b8 b6 b7 h5 h8 => by
    refine Ev.step (fun k => lead_Lead_ask.c5_eq k x b5 b6 b7 b8) ?_
    simp only [with_atQ, Option.bind_some]
    exact Ev.bind (Ev.at_ fun k => lown_at k b5 h5) (Ev.bind (Ev.at_ fun k => told_at k b8 1 b5 h8 h5) (Ev.some _))
  have at_ := attrs_ev l hl r.1 _ h r.2.2.2.2.2.1 r.2.2.2.2.2.2.1
  generalize attrsV l r.1 r.2.2.2.2.1 r.2.2.2.2.2.1 r.2.2.2.2.2.2.1 = a at at_
  have kp : ∀ (b : Bool) (b5 : Rc), b5.1 = x.2.2.2.2.2.1.1 → KeepP x (toldV (r.1, (r.2.1, (x.2.2.2.2.1, (x.2.2.2.2.1, (r.2.2.2.2.1, (a.1, (a.2, b))))))) 1 b5) := fun b b5 h5 => ⟨rfl, hi, h5, low_self _, rfl, by show (1 : Int) > 0; decide⟩
  cases hq : a.1 == r.2.2.2.2.2.1 with
  | true => exact ⟨_, _, Ev.congr (fun k => lead_Lead_ask_eq k x l r) (Ev.bind at_ (Ev.bif_tt hq (c5 _ _ _ _ h h))), kp _ _ hi, rfl⟩
  | false => exact ⟨_, _, Ev.congr (fun k => lead_Lead_ask_eq k x l r) (Ev.bind at_ (Ev.bif_ff hq (c5 _ _ _ _ h h))), kp _ _ hi, rfl⟩
theorem looked_ex (x : Ld) (l : List Rc) (hl : fewR l) (kk : Rc) (m : Ms) (hm : small m.2.2.2.2.2.2.2.2.1) (hv : (x.2.2.2.2.2.2.2.2.2 : List Vt).length ≤ 50) (hs : ∀ v ∈ (x.2.2.2.2.2.2.2.2.2 : List Vt), small v.2.2.2.2.2.1) (hf : 1 ≤ x.1) :
    ∃ y s, Ev (fun k => lead_Lead_looked k x l kk m) (y, s) ∧ ((s = slZ ∧ y = moreL x m) ∨ (KeepP x s ∧ ComP y s (toldB x m))) := by
  have hvs : fewV ((x.2.2.2.2.2.2.2.2.2 : List Vt) ++ [(m.2.1, m.2.2.2.2)]) := ⟨by rw [List.length_append, List.length_singleton]; omega, fun v hv => by
    rcases List.mem_append.1 hv with h | h
    · exact hs v h
    · rw [List.mem_singleton.1 h]; exact hm⟩
  obtain ⟨r, hr, hd⟩ := decide_ex x.1 x.2.2.2.2.2.1.1 _ hvs hf
  have start : ∀ {g : Nat → Option (Ld × Sl)} {v : Ld × Sl}, (∀ k, (repair_Decide k x.1 x.2.2.2.2.2.1.1 ((x.2.2.2.2.2.2.2.2.2 : List Vt) ++ [(m.2.1, m.2.2.2.2)])).bind (fun r1 => bif (r1.2 != 0) then (some (moreL x m, slZ)) else (bif (r1.1.2.1 == 3) then ((lead_own k r1.1).bind fun r2 => ((lead_Lead_commit k (x.1, (x.2.1, (x.2.2.1, (x.2.2.2.1, (x.2.2.2.2.1, (r2, (moreL x m).2.2.2.2.2.2)))))) kk r1.1).bind fun r3 => (some (r3.1, r3.2)))) else (bif (r1.1.2.1 == 2) then ((lead_Lead_put k (moreL x m) r1.1).bind fun r2 => (some (r2.1, r2.2))) else ((lead_Lead_ask k (moreL x m) l r1.1).bind fun r2 => (some (r2.1, r2.2)))))) = g k) → Ev g v → Ev (fun k => lead_Lead_looked k x l kk m) v := by
    intro g v hg h
    refine Ev.congr (fun k => ?_) h
    rw [← hg k, lead_Lead_looked_eq, lt32 (show 0 + (x.2.2.2.2.2.2.2.2.2 : List Vt).length < 4294967296 by omega), lown_at _ _ hm, lt32 (show (x.2.2.2.2.2.2.2.2.2 : List Vt).length + 1 < 4294967296 by omega)]
    rfl
  have wrap : ∀ {v : Ld × Sl}, Ev (fun k => (repair_Decide k x.1 x.2.2.2.2.2.1.1 ((x.2.2.2.2.2.2.2.2.2 : List Vt) ++ [(m.2.1, m.2.2.2.2)])).bind (fun r1 => bif (r1.2 != 0) then (some (moreL x m, slZ)) else (bif (r1.1.2.1 == 3) then ((lead_own k r1.1).bind fun r2 => ((lead_Lead_commit k (x.1, (x.2.1, (x.2.2.1, (x.2.2.2.1, (x.2.2.2.2.1, (r2, (moreL x m).2.2.2.2.2.2)))))) kk r1.1).bind fun r3 => (some (r3.1, r3.2)))) else (bif (r1.1.2.1 == 2) then ((lead_Lead_put k (moreL x m) r1.1).bind fun r2 => (some (r2.1, r2.2))) else ((lead_Lead_ask k (moreL x m) l r1.1).bind fun r2 => (some (r2.1, r2.2))))))) v → Ev (fun k => lead_Lead_looked k x l kk m) v := fun h => start (fun k => rfl) h
  cases h0 : r.2 != 0 with
  | true => exact ⟨moreL x m, slZ, wrap (Ev.bind hr (Ev.bif_tt h0 (Ev.some _))), .inl ⟨rfl, rfl⟩⟩
  | false =>
    obtain ⟨d1, d2, d3⟩ := hd (by simpa using h0)
    have d1' : r.1.1 = x.2.2.2.2.2.1.1 := d1
    cases h3 : r.1.2.1 == 3 with
    | true =>
      refine ⟨_, _, wrap (Ev.bind hr (Ev.bif_ff h0 (Ev.bif_tt h3 (Ev.bind (Ev.at_ fun k => lown_at k _ d2) (Ev.bind (commit_ev (x.1, (x.2.1, (x.2.2.1, (x.2.2.2.1, (x.2.2.2.2.1, (r.1, (moreL x m).2.2.2.2.2.2)))))) kk r.1 d2) (Ev.some _)))))), .inr ⟨com_keep x kk r.1 d1' _ rfl, fun _ => ⟨rfl, rfl, rfl, d2, ?_⟩⟩⟩
      obtain ⟨v, hv, hv3⟩ := d3 h3
      rcases List.mem_append.1 hv with h | h
      · exact .inr ⟨v, h, hv3⟩
      · rw [List.mem_singleton.1 h] at hv3; exact .inl hv3
    | false =>
      cases h2 : r.1.2.1 == 2 with
      | true => exact ⟨_, _, wrap (Ev.bind hr (Ev.bif_ff h0 (Ev.bif_ff h3 (Ev.bif_tt h2 (Ev.bind (put_ev (moreL x m) r.1 d2) (Ev.some _)))))), .inr ⟨put_keep x r.1 d1' (moreL x m) rfl, fun h => (by cases h)⟩⟩
      | false =>
        obtain ⟨y, s, hy, hk, h1⟩ := ask_ex (moreL x m) l hl r.1 d2 d1'
        exact ⟨y, s, wrap (Ev.bind hr (Ev.bif_ff h0 (Ev.bif_ff h3 (Ev.bif_ff h2 (Ev.bind hy (Ev.some _)))))), .inr ⟨hk, fun h => by rw [h1] at h; cases h⟩⟩
def okV (x : Ld) (m : Ms) : Bool := (x.2.2.1 != 4) && (rightM m && ((m.2.2.1 == x.2.1) && ((m.2.1 != x.2.1) && (isV x.1 m.2.1 && Ty.beq Ty_api_Instance m.2.2.2.2.1 x.2.2.2.2.2.1.1))))
theorem ok_ev (x : Ld) (m : Ms) (hm : small m.2.2.2.2.2.2.2.2.1) : Ev (fun k => lead_Lead_ok k x m) (okV x m) := by
  refine Ev.congr (fun k => lead_Lead_ok_eq k x m) ?_
  exact Ev.and_ fun _ => Ev.bind (wrightM_ev m hm) (Ev.and_ fun _ => Ev.and_ fun _ => Ev.and_ fun _ => Ev.bind (is_ev _ _) (Ev.and_ fun _ => Ev.some _))
def lostV (x : Ld) (kk : Rc) : Bool := (kk.2.1 == 3) || lowV x.2.2.2.2.1 kk.2.2.1
theorem lost_ev (x : Ld) (kk : Rc) : Ev (fun k => lead_Lead_lost k x kk) (lostV x kk) := by
  refine Ev.congr (fun k => lead_Lead_lost_eq k x kk) ?_
  unfold lostV
  cases kk.2.1 == 3 with
  | true => exact Ev.some _
  | false => exact Ev.bif_ff rfl ((Ev.map_ (fun r0 : Int => decide (r0 > 0)) (cmpb_ev _ _)).to (ord_pos _ _ _ _))
def overV (x : Ld) (kk : Rc) (m : Ms) : Bool := lostV x kk || ((m.1 == 5) || ((m.1 == 8) && lowV x.2.2.2.2.1 m.2.2.2.1))
def pairV (x : Ld) (m : Ms) : Bool := ((m.1 == 2) && (x.2.2.1 == 1)) || (((m.1 == 4) && (x.2.2.1 == 2)) || ((m.1 == 7) && (x.2.2.1 == 3)))
def staleV (x : Ld) (m : Ms) : Bool := !(Ty.beq Ty_api_Instance m.2.2.2.1 x.2.2.2.2.1) || hasV x.2.2.2.1 m.2.1
def heardL (x : Ld) (m : Ms) : Ld := (x.1, (x.2.1, (x.2.2.1, (withQ x.2.2.2.1 m.2.1, x.2.2.2.2))))
def puttV (x : Ld) (kk : Rc) : Ld × Sl := bif majB x.1 x.2.2.2.1 then comV x kk x.2.2.2.2.2.1 else (x, slZ)
inductive Heard (x : Ld) (kk : Rc) (m : Ms) : Ld × Sl → Prop
  | no (h : okV x m = false) : Heard x kk m (x, slZ)
  | over (h : okV x m = true) (ho : overV x kk m = true) : Heard x kk m (overL x, slZ)
  | same (h : okV x m = true) (ho : overV x kk m = false) (hs : (staleV x m || !pairV x m) = true) : Heard x kk m (x, slZ)
  | asked (h : okV x m = true) (ho : overV x kk m = false) (hs : staleV x m = false) (hp : x.2.2.1 = 1) (hk : (m.1 == 2) = true) : Heard x kk m (askedV (heardL x m) kk m.2.2.2.2)
  | putt (h : okV x m = true) (ho : overV x kk m = false) (hs : staleV x m = false) (hp : x.2.2.1 = 2) (hk : (m.1 == 4) = true) : Heard x kk m (puttV (heardL x m) kk)
  | looked (h : okV x m = true) (ho : overV x kk m = false) (hs : staleV x m = false) (hp : x.2.2.1 = 3) (hk : (m.1 == 7) = true) (y : Ld) (s : Sl)
      (hy : (s = slZ ∧ y = moreL (heardL x m) m) ∨ (KeepP x s ∧ ComP y s (toldB x m))) : Heard x kk m (y, s)
theorem heard1_at (k) (x : Ld) (m : Ms) : lead_Lead_Hear_1 k x m = some (heardL x m, ()) := by
  unfold lead_Lead_Hear_1
  rw [with_atQ]; rfl
theorem hear_ex (x : Ld) (l : List Rc) (hl : fewR l) (m : Ms) (hm : small m.2.2.2.2.2.2.2.2.1) (hR : small x.2.2.2.2.2.1.2.2.2.2.1) (hv : (x.2.2.2.2.2.2.2.2.2 : List Vt).length ≤ 50) (hs : ∀ v ∈ (x.2.2.2.2.2.2.2.2.2 : List Vt), small v.2.2.2.2.2.1) :
    ∃ r, Ev (fun k => lead_Lead_Hear k x l m) r ∧ Heard x (knowV l x.2.2.2.2.2.1.1) m r := by
  have c20 : ∀ (x' : Ld) (b6 : Ld) (b7 : Sl), Ev (fun k => lead_Lead_Hear.c20 k x' b6 b7) (x', slZ) := fun x' b6 b7 => Ev.step (f := fun _ => some (x', slZ)) (fun k => lead_Lead_Hear.c20_eq k x' b6 b7) (Ev.some _)
  cases hok : okV x m with
  | false => exact ⟨_, Ev.congr (fun k => lead_Lead_Hear_eq k x l m) (Ev.bind ((ok_ev x m hm).to hok) (Ev.bif_tt rfl (Ev.some _))), .no hok⟩
  | true =>
    have hk := know_ev l hl x.2.2.2.2.2.1.1
    generalize knowV l x.2.2.2.2.2.1.1 = kk at hk
    have c5 : ∀ b6 b7, Ev (fun k => lead_Lead_Hear.c5 k x b6 b7) (overL x, slZ) := fun b6 b7 => Ev.step (f := fun _ => some (overL x, slZ)) (fun k => lead_Lead_Hear.c5_eq k x b6 b7) (Ev.some _)
    have hf : 1 ≤ x.1 := by
      unfold okV at hok
      simp only [Bool.and_eq_true] at hok
      exact isV_pos hok.2.2.2.2.1
    have c7 : overV x kk m = false → ∃ r, (∀ b6 b7, Ev (fun k => lead_Lead_Hear.c7 k l x m b6 b7 kk) r) ∧ Heard x kk m r := by
      intro ho
      cases hst : staleV x m with
      | true =>
        refine ⟨(x, slZ), fun b6 b7 => Ev.step (fun k => lead_Lead_Hear.c7_eq k l x m b6 b7 kk) ?_, .same hok ho (by rw [hst]; rfl)⟩
        unfold staleV at hst
        cases hb : Ty.beq Ty_api_Instance m.2.2.2.1 x.2.2.2.2.1 with
        | false => exact Ev.bif_tt rfl (Ev.some _)
        | true =>
          rw [hb] at hst
          refine Ev.bif_ff rfl (Ev.bind (Ev.at_ fun k => has_at k _ _) (Ev.bif_tt hst (Ev.some _)))
      | false =>
        have hst' := hst
        unfold staleV at hst'
        rw [Bool.or_eq_false_iff] at hst'
        have to9 : ∀ {r : Ld × Sl}, (∀ b6 b7, Ev (fun k => lead_Lead_Hear.c9 k l x m b6 b7 kk) r) → ∀ b6 b7, Ev (fun k => lead_Lead_Hear.c7 k l x m b6 b7 kk) r := fun h b6 b7 =>
          Ev.step (fun k => lead_Lead_Hear.c7_eq k l x m b6 b7 kk) (Ev.bif_ff hst'.1 (Ev.bind (Ev.at_ fun k => has_at k _ _) (Ev.bif_ff hst'.2 (h b6 b7))))
        have c17 : (m.1 == 7 && (x.2.2.1 == 3)) = false → ∀ b6 b7, Ev (fun k => lead_Lead_Hear.c17 k l x m b6 b7 kk) (x, slZ) := fun h b6 b7 => by
          refine Ev.step (fun k => lead_Lead_Hear.c17_eq k l x m b6 b7 kk) ?_
          cases h7 : m.1 == 7 with
          | false => exact Ev.bif_ff rfl (c20 x b6 b7)
          | true =>
            rw [h7, Bool.true_and] at h
            exact Ev.bif_tt rfl (Ev.bif_ff h (c20 x b6 b7))
        have to17 : ∀ {r : Ld × Sl}, (m.1 == 4 && (x.2.2.1 == 2)) = false → (∀ b6 b7, Ev (fun k => lead_Lead_Hear.c17 k l x m b6 b7 kk) r) → ∀ b6 b7, Ev (fun k => lead_Lead_Hear.c13 k l x m b6 b7 kk) r := fun h h17 b6 b7 => by
          refine Ev.step (fun k => lead_Lead_Hear.c13_eq k l x m b6 b7 kk) ?_
          cases h4 : m.1 == 4 with
          | false => exact Ev.bif_ff rfl (h17 b6 b7)
          | true =>
            rw [h4, Bool.true_and] at h
            exact Ev.bif_tt rfl (Ev.bif_ff h (h17 b6 b7))
        have to13 : ∀ {r : Ld × Sl}, (m.1 == 2 && (x.2.2.1 == 1)) = false → (∀ b6 b7, Ev (fun k => lead_Lead_Hear.c13 k l x m b6 b7 kk) r) → ∀ b6 b7, Ev (fun k => lead_Lead_Hear.c9 k l x m b6 b7 kk) r := fun h h13 b6 b7 => by
          refine Ev.step (fun k => lead_Lead_Hear.c9_eq k l x m b6 b7 kk) ?_
          cases h2 : m.1 == 2 with
          | false => exact Ev.bif_ff rfl (h13 b6 b7)
          | true =>
            rw [h2, Bool.true_and] at h
            exact Ev.bif_tt rfl (Ev.bif_ff h (h13 b6 b7))
        cases h2 : (m.1 == 2 && (x.2.2.1 == 1)) with
        | true =>
          rw [Bool.and_eq_true] at h2
          refine ⟨askedV (heardL x m) kk m.2.2.2.2, to9 fun b6 b7 => Ev.step (fun k => lead_Lead_Hear.c9_eq k l x m b6 b7 kk) (Ev.bif_tt h2.1 (Ev.bif_tt h2.2 (Ev.step (fun k => lead_Lead_Hear.c11_eq k x m b6 b7 kk) (Ev.bind (Ev.at_ fun k => heard1_at k x m) (Ev.bind (asked_ev (heardL x m) kk m.2.2.2.2 hR) (Ev.some _)))))), .asked hok ho hst (eq_of_beq h2.2) h2.1⟩
        | false =>
          cases h4 : (m.1 == 4 && (x.2.2.1 == 2)) with
          | true =>
            rw [Bool.and_eq_true] at h4
            refine ⟨puttV (heardL x m) kk, to9 (to13 h2 fun b6 b7 => Ev.step (fun k => lead_Lead_Hear.c13_eq k l x m b6 b7 kk) (Ev.bif_tt h4.1 (Ev.bif_tt h4.2 (Ev.step (fun k => lead_Lead_Hear.c14_eq k x m b6 b7 kk) (Ev.bind (Ev.at_ fun k => heard1_at k x m) (Ev.bind (major_ev _ _) ?_)))))), .putt hok ho hst (eq_of_beq h4.2) h4.1⟩
            unfold puttV
            show Ev (fun k => bif majB (heardL x m).1 (heardL x m).2.2.2.1 then _ else _) _
            cases majB (heardL x m).1 (heardL x m).2.2.2.1 with
            | true => exact Ev.bif_tt rfl (Ev.bind (commit_ev (heardL x m) kk x.2.2.2.2.2.1 hR) (Ev.some _))
            | false => exact Ev.bif_ff rfl (c20 _ _ _)
          | false =>
            cases h7 : (m.1 == 7 && (x.2.2.1 == 3)) with
            | true =>
              rw [Bool.and_eq_true] at h7
              obtain ⟨y, s, hy, hp⟩ := looked_ex (heardL x m) l hl kk m hm hv hs hf
              exact ⟨(y, s), to9 (to13 h2 (to17 h4 fun b6 b7 => Ev.step (fun k => lead_Lead_Hear.c17_eq k l x m b6 b7 kk) (Ev.bif_tt h7.1 (Ev.bif_tt h7.2 (Ev.step (fun k => lead_Lead_Hear.c18_eq k l x m b6 b7 kk) (Ev.bind (Ev.at_ fun k => heard1_at k x m) (Ev.bind hy (Ev.some _)))))))), .looked hok ho hst (eq_of_beq h7.2) h7.1 y s hp⟩
            | false => exact ⟨(x, slZ), to9 (to13 h2 (to17 h4 (c17 h7))), .same hok ho (by unfold pairV; rw [h2, h4, h7]; simp)⟩
    have start : ∀ {r : Ld × Sl}, Ev (fun k => bif lostV x kk then lead_Lead_Hear.c5 k x (Ty.zero Ty_lead_Lead) slZ else bif m.1 == 5 then lead_Lead_Hear.c5 k x (Ty.zero Ty_lead_Lead) slZ else bif m.1 == 8 then ((stamp_CompareBallots k m.2.2.2.1 x.2.2.2.2.1).bind fun r3 => bif decide (r3 > 0) then lead_Lead_Hear.c5 k x (Ty.zero Ty_lead_Lead) slZ else lead_Lead_Hear.c7 k l x m (Ty.zero Ty_lead_Lead) slZ kk) else lead_Lead_Hear.c7 k l x m (Ty.zero Ty_lead_Lead) slZ kk) r → Ev (fun k => lead_Lead_Hear k x l m) r := fun h =>
      Ev.congr (fun k => lead_Lead_Hear_eq k x l m) (Ev.bind ((ok_ev x m hm).to hok) (Ev.bif_ff rfl (Ev.bind hk (Ev.bind (lost_ev x kk) h))))
    cases ho : overV x kk m with
    | true =>
      refine ⟨(overL x, slZ), start ?_, .over hok ho⟩
      unfold overV at ho
      cases hlo : lostV x kk with
      | true => exact Ev.bif_tt rfl (c5 _ _)
      | false =>
        rw [hlo, Bool.false_or] at ho
        refine Ev.bif_ff rfl ?_
        cases h5 : m.1 == 5 with
        | true => exact Ev.bif_tt rfl (c5 _ _)
        | false =>
          rw [h5, Bool.false_or, Bool.and_eq_true] at ho
          exact Ev.bif_ff rfl (Ev.bif_tt ho.1 (Ev.bind (cmpb_ev _ _) (Ev.bif_tt ((ord_pos _ _ _ _).trans ho.2) (c5 _ _))))
    | false =>
      obtain ⟨r, hr, hh⟩ := c7 ho
      refine ⟨r, start ?_, hh⟩
      unfold overV at ho
      rw [Bool.or_eq_false_iff, Bool.or_eq_false_iff] at ho
      refine Ev.bif_ff ho.1 (Ev.bif_ff ho.2.1 ?_)
      cases h8 : m.1 == 8 with
      | false => exact Ev.bif_ff rfl (hr _ _)
      | true =>
        have h3 := ho.2.2
        rw [h8, Bool.true_and] at h3
        exact Ev.bif_tt rfl (Ev.bind (cmpb_ev _ _) (Ev.bif_ff ((ord_pos _ _ _ _).trans h3) (hr _ _)))
end Go.Proofs.YtjgcmmpfaemkiaaGreat.V
end
section
namespace Go.Proofs.YtjgcmmpfaemkiaaGreat.V
open Go Go.Vm Go.Proofs.YtjgcmmpfaemkiaaGreat.Strs
set_option linter.unusedVariables false
set_option linter.unusedSimpArgs false
def slotStep (self : Int) (n : Int) (x : Rc) : Int := bif x.1.1 == self then max n (min x.1.2 1048576) else n
def slotF (l : List Rc) (self : Int) : Int := l.foldl (slotStep self) 0
theorem slotStep_in (self n : Int) (x : Rc) (h : 0 ≤ n ∧ n ≤ 1048576) : 0 ≤ slotStep self n x ∧ slotStep self n x ≤ 1048576 := by
  obtain ⟨⟨p, q⟩, rest⟩ := x
  have e : slotStep self n (((p, q), rest) : Rc) = bif p == self then max n (min q 1048576) else n := rfl
  rw [e]
  cases p == self with
  | false => exact h
  | true => exact ⟨by show (0 : Int) ≤ max n (min q 1048576); omega, by show max n (min q 1048576) ≤ 1048576; omega⟩
theorem slotFold_in (self : Int) : ∀ (l : List Rc) (n : Int), 0 ≤ n ∧ n ≤ 1048576 → 0 ≤ l.foldl (slotStep self) n ∧ l.foldl (slotStep self) n ≤ 1048576
  | [], n, h => h
  | x :: l, n, h => slotFold_in self l _ (slotStep_in self n x h)
theorem slotF_in (l : List Rc) (self : Int) : 0 ≤ slotF l self ∧ slotF l self ≤ 1048576 := slotFold_in self l 0 (by omega)
theorem slot_ev (l : List Rc) (hl : l.length ≤ 1000) (self : Int) : Ev (fun k => index_Slot k l self) (slotF l self + 1) := by
  refine Ev.congr (fun k => index_Slot_eq k l self) ?_
  have h0 := Ev.fold0 l (fun k s j => index_Slot.c3 k self s l (l.length : Int) j) (slotStep self) (fun n => IntKind.wrap .i64 (n + 1)) (fun _ _ => True) (0 : Int) trivial
    (fun s _ => Ev.step (f := fun _ => some (IntKind.wrap .i64 (s + 1))) (fun k => by rw [index_Slot.c3_eq, lt_ff (Nat.lt_irrefl _)]; rfl) (Ev.some _))
    (fun j s hj _ => ⟨trivial, fun r hr => by
      refine Ev.step (f := fun k => bif l[j].1.1 == self then index_Slot.c3 k self (max s (min l[j].1.2 1048576)) l (l.length : Int) ((j + 1 : Nat) : Int) else index_Slot.c3 k self s l (l.length : Int) ((j + 1 : Nat) : Int)) (fun k => by
        rw [index_Slot.c3_eq, lt_tt hj, inI_tt hj, getD_at hj, wrap_at (by omega)]; rfl) ?_
      unfold slotStep at hr
      cases hb : l[j].1.1 == self with
      | true => rw [hb] at hr; exact hr
      | false => rw [hb] at hr; exact hr⟩)
  have hi := slotF_in l self
  exact h0.to (wrap_id (by show _ ≤ slotF l self + 1; omega) (by show slotF l self + 1 ≤ _; omega))
theorem mm1 {q n : Int} (h : q > n) : max (min n 1048576) (min q 1048576) = min q 1048576 := by omega
theorem mm2 {q n : Int} (h : ¬ q > n) : max (min n 1048576) (min q 1048576) = min n 1048576 := by omega
theorem mm3 {q n : Int} (h : q > n) (h0 : 0 ≤ n) : 0 ≤ q := by omega
theorem mm4 {q : Int} (n : Int) (h : q ≤ 1048576) : q ≤ max n (min q 1048576) := by omega
def rslotStep (self : Int) (n : Int) (x : Rc) : Int := bif x.1.1 == self then (bif decide (x.1.2 > n) then x.1.2 else n) else n
theorem rslot_rel (self : Int) : ∀ (l : List Rc) (n : Int), 0 ≤ n → 0 ≤ l.foldl (rslotStep self) n ∧ l.foldl (slotStep self) (min n 1048576) = min (l.foldl (rslotStep self) n) 1048576
  | [], n, h => ⟨h, rfl⟩
  | x :: l, n, h => by
    obtain ⟨⟨p, q⟩, rest⟩ := x
    have e1 : slotStep self (min n 1048576) (((p, q), rest) : Rc) = bif p == self then max (min n 1048576) (min q 1048576) else min n 1048576 := rfl
    have e2 : rslotStep self n (((p, q), rest) : Rc) = bif p == self then (bif decide (q > n) then q else n) else n := rfl
    rw [List.foldl_cons, List.foldl_cons, e1, e2]
    cases p == self with
    | false => exact rslot_rel self l n h
    | true =>
      by_cases hq : q > n
      · have := rslot_rel self l q (mm3 hq h)
        rw [decide_eq_true hq]
        show _ ∧ l.foldl (slotStep self) (max (min n 1048576) (min q 1048576)) = _
        rw [mm1 hq]
        exact this
      · have := rslot_rel self l n h
        rw [decide_eq_false hq]
        show _ ∧ l.foldl (slotStep self) (max (min n 1048576) (min q 1048576)) = _
        rw [mm2 hq]
        exact this
theorem rslot_ev (l : List Rc) (hl : l.length ≤ 1000) (self : Int) : Ev (fun k => althingref11_Slot k l self) (slotF l self + 1) := by
  refine Ev.congr (fun k => althingref11_Slot_eq k l self) ?_
  have h0 := Ev.fold0 l (fun k s j => althingref11_Slot.c3 k l self s j) (rslotStep self) (fun n => bif decide (n > 1048576) then IntKind.wrap .i64 (1048576 + 1) else IntKind.wrap .i64 (n + 1)) (fun _ _ => True) (0 : Int) trivial
    (fun s _ => by
      refine Ev.step (fun k => by rw [althingref11_Slot.c3_eq, lt_ff (Nat.lt_irrefl _)]; rfl) (?_ : Ev (fun _ => bif decide (s > 1048576) then some (IntKind.wrap .i64 (1048576 + 1)) else some (IntKind.wrap .i64 (s + 1))) _)
      cases decide (s > 1048576) <;> exact Ev.some _)
    (fun j s hj _ => ⟨trivial, fun r hr => by
      have h4 : ∀ n, n = rslotStep self s l[j] → Ev (fun k => althingref11_Slot.c4 k l self n (j : Int)) r := fun n hn => by
        subst hn
        exact Ev.step (fun k => by rw [althingref11_Slot.c4_eq, wrap_at (by omega)]) hr
      refine Ev.step (f := fun k => bif l[j].1.1 == self then (bif decide (l[j].1.2 > s) then althingref11_Slot.c6 k l self (j : Int) else althingref11_Slot.c4 k l self s (j : Int)) else althingref11_Slot.c4 k l self s (j : Int)) (fun k => by
        rw [althingref11_Slot.c3_eq, lt_tt hj, inI_tt hj, getD_at hj]; rfl) ?_
      unfold rslotStep at h4
      cases hb : l[j].1.1 == self with
      | false => rw [hb] at h4; exact h4 s rfl
      | true =>
        rw [hb] at h4
        refine Ev.bif_tt rfl ?_
        cases hc : decide (l[j].1.2 > s) with
        | false => rw [hc] at h4; exact h4 s rfl
        | true =>
          rw [hc] at h4
          exact Ev.step (f := fun k => althingref11_Slot.c4 k l self l[j].1.2 (j : Int)) (fun k => by rw [althingref11_Slot.c6_eq, inI_tt hj, getD_at hj]; rfl) (h4 _ rfl)⟩)
  refine h0.to ?_
  have hr := rslot_rel self l 0 (Int.le_refl _)
  have hs : slotF l self = min (l.foldl (rslotStep self) 0) 1048576 := hr.2
  rw [hs]
  have h1 := hr.1
  generalize l.foldl (rslotStep self) 0 = n at h1 ⊢
  by_cases hn : n > 1048576
  · rw [decide_eq_true hn, show min n 1048576 = (1048576 : Int) by omega]; rfl
  · rw [decide_eq_false hn, show min n 1048576 = n by omega]
    exact wrap_id (by omega) (by omega)
theorem slot_above (self : Int) : ∀ (l : List Rc) (n : Int), n ≤ 1048576 → n ≤ l.foldl (slotStep self) n ∧ ∀ x ∈ l, @Eq Int x.1.1 self → x.1.2 ≤ 1048576 → x.1.2 ≤ l.foldl (slotStep self) n
  | [], n, h => ⟨Int.le_refl _, fun x hx => by cases hx⟩
  | y :: l, n, h => by
    obtain ⟨⟨p, q⟩, rest⟩ := y
    have e1 : slotStep self n (((p, q), rest) : Rc) = bif p == self then max n (min q 1048576) else n := rfl
    rw [List.foldl_cons, e1]
    by_cases hp : p = self
    · have hb : (p == self) = true := beq_iff_eq.2 hp
      rw [hb]
      have ih := slot_above self l (max n (min q 1048576)) (by omega)
      refine ⟨Int.le_trans (Int.le_max_left _ _) ih.1, fun x hx hs hm => ?_⟩
      rcases List.mem_cons.1 hx with rfl | hx
      · exact Int.le_trans (mm4 n hm) ih.1
      · exact ih.2 x hx hs hm
    · have hb : (p == self) = false := beq_eq_false_iff_ne.2 hp
      rw [hb]
      have ih := slot_above self l n h
      refine ⟨ih.1, fun x hx hs hm => ?_⟩
      rcases List.mem_cons.1 hx with rfl | hx
      · exact absurd hs hp
      · exact ih.2 x hx hs hm
abbrev zRec : Rc := Ty.zero Ty_api_Record
def begunV (l : List Rc) (self : Int) (c : Cm) : Rc :=
  let a := attrsV l (self, slotF l self + 1) c 1 [0, 0, 0, 0, 0, 0, 0]
  ((self, slotF l self + 1), (1, (zIn, (zIn, (c, (a.1, (a.2, true)))))))
def beginV (l : List Rc) (self : Int) (c : Cm) : Rc × Int :=
  bif decide (self < 0) then (zRec, 1) else bif decide (self ≥ 7) then (zRec, 1) else bif !rightC c then (zRec, 1) else
  bif decide (slotF l self + 1 > 1048576) then (zRec, 2) else (begunV l self c, 0)
theorem begin_ev (l : List Rc) (hl : fewR l) (self : Int) (c : Cm) (hc : small c) : Ev (fun k => accept_Begin k l self c) (beginV l self c) := by
  refine Ev.congr (fun k => accept_Begin_eq k l self c) ?_
  have h1 := hl.1
  unfold beginV
  cases decide (self < 0) with
  | true => exact Ev.some _
  | false =>
    refine Ev.bif_ff rfl ?_
    cases decide (self ≥ 7) with
    | true => exact Ev.some _
    | false =>
      refine Ev.bif_ff rfl (Ev.bind (cright_ev c hc) ?_)
      cases rightC c with
      | false => exact Ev.some _
      | true =>
        refine Ev.bif_ff rfl (Ev.step (fun k => accept_Begin.c3_eq k l self c (Ty.zero Ty_api_Record)) (Ev.bind (slot_ev l (by omega) self) ?_))
        cases decide (slotF l self + 1 > 1048576) with
        | true => exact Ev.some _
        | false => exact Ev.bif_ff rfl (Ev.bind (attrs_ev l hl _ c hc 1 _) (Ev.bind (Ev.at_ fun k => own_at k (begunV l self c) hc) (Ev.some _)))
theorem rbegin_ev (l : List Rc) (hl : fewR l) (self : Int) (c : Cm) (hc : small c) : Ev (fun k => althingref12_Begin k l self c) (beginV l self c) := by
  refine Ev.congr (fun k => althingref12_Begin_eq k l self c) ?_
  have h1 := hl.1
  unfold beginV
  cases decide (self < 0) with
  | true => exact Ev.some _
  | false =>
    refine Ev.bif_ff rfl ?_
    rw [show decide (self > 6) = decide (self ≥ 7) from decide_eq_decide.2 (by omega)]
    cases decide (self ≥ 7) with
    | true => exact Ev.some _
    | false =>
      refine Ev.bif_ff rfl (Ev.bind (rright_ev c hc) ?_)
      cases rightC c with
      | false => exact Ev.some _
      | true =>
        refine Ev.bif_ff rfl (Ev.step (fun k => althingref12_Begin.c3_eq k l self c (Ty.zero Ty_api_Record)) (Ev.bind (rslot_ev l (by omega) self) ?_))
        cases decide (slotF l self + 1 > 1048576) with
        | true => exact Ev.some _
        | false => exact Ev.bif_ff rfl (Ev.bind (rattrs_ev l hl _ c hc 1 _) (Ev.some _))
theorem begin_small (l : List Rc) (self : Int) (c : Cm) (hc : small c) : small (beginV l self c).1.2.2.2.2.1 := by
  unfold beginV
  cases decide (self < 0) with
  | true => exact small_zero
  | false =>
    cases decide (self ≥ 7) with
    | true => exact small_zero
    | false =>
      cases rightC c with
      | false => exact small_zero
      | true =>
        cases decide (slotF l self + 1 > 1048576) with
        | true => exact small_zero
        | false => exact hc
end Go.Proofs.YtjgcmmpfaemkiaaGreat.V
end
section
namespace Go.Proofs.YtjgcmmpfaemkiaaGreat.V
open Go Go.Vm Go.Proofs.YtjgcmmpfaemkiaaGreat.Strs
set_option linter.unusedVariables false
set_option linter.unusedSimpArgs false
abbrev votes (x : Ld) : List Vt := x.2.2.2.2.2.2.2.2.2
def smallL (x : Ld) : Prop := small x.2.2.2.2.2.1.2.2.2.2.1 ∧ ∀ v ∈ votes x, small v.2.2.2.2.2.1
theorem few14_c (x : Ld) (l : List Rc) (m : Ms) : ∀ d i, i + d = min (votes x).length 10 → ∃ q, Ev (fun k => althinglaw14_few.c2 k l (i : Int) x m) q ∧
    (q = true → (votes x).length ≤ 9 ∧ (∀ v ∈ (votes x).drop i, small v.2.2.2.2.2.1) ∧ small x.2.2.2.2.2.1.2.2.2.2.1 ∧ small m.2.2.2.2.2.2.2.2.1 ∧ fewR l)
  | 0, i, hi => by
    obtain ⟨q5, h5, p5⟩ := few5_ex [x.2.2.2.2.2.1.2.2.2.2.1, m.2.2.2.2.2.2.2.2.1] (by simp)
    obtain ⟨q11, h11, p11⟩ := few11_ex l
    have c6 : Ev (fun k => althinglaw14_few.c6 k l x m) (decide (((votes x).length : Int) ≤ 9) && (q5 && q11)) :=
      Ev.step (fun k => althinglaw14_few.c6_eq k l x m) (Ev.and_ fun _ => Ev.bind h5 (Ev.and_ fun _ => Ev.ret h11))
    refine ⟨decide (((votes x).length : Int) ≤ 9) && (q5 && q11), Ev.step (fun k => ?_) c6, fun h => ?_⟩
    · rw [althinglaw14_few.c2_eq]
      by_cases hlt : (i : Int) < ((votes x).length : Int)
      · rw [decide_eq_true hlt, decide_eq_false (show ¬ (i : Int) ≤ 9 by omega)]; rfl
      · rw [decide_eq_false hlt]; rfl
    · rw [Bool.and_eq_true, Bool.and_eq_true, decide_eq_true_eq] at h
      obtain ⟨h1, h2, h3⟩ := h
      have hd : (votes x).drop i = [] := List.drop_eq_nil_of_le (by omega)
      have := p5 h2
      exact ⟨by omega, fun v hv => (by rw [hd] at hv; cases hv), this _ List.mem_cons_self, this _ (List.mem_cons_of_mem _ List.mem_cons_self), (p11 h3).2⟩
  | d + 1, i, hi => by
    have hil : i < (votes x).length := by omega
    obtain ⟨q, hq, hp⟩ := few14_c x l m d (i + 1) (by omega)
    obtain ⟨q5, h5, p5⟩ := few5_ex [(votes x)[i].2.2.2.2.2.1] (by simp)
    have hw : IntKind.wrap .i64 ((i : Int) + 1) = ((i + 1 : Nat) : Int) := wrap_at (by omega)
    have c4 : Ev (fun k => althinglaw14_few.c4 k l (i : Int) x m) (q5 && q) := by
      refine Ev.step (f := fun k => (althinglaw05_Few k [(votes x)[i].2.2.2.2.2.1]).bind fun r0 => bif !r0 then some false else althinglaw14_few.c2 k l ((i + 1 : Nat) : Int) x m) (fun k => by
        rw [althinglaw14_few.c4_eq, inI_tt hil, getD_at hil, hw]; rfl) (Ev.bind h5 (Ev.nand_ fun _ => hq))
    refine ⟨q5 && q, Ev.step (fun k => ?_) c4, fun h => ?_⟩
    · rw [althinglaw14_few.c2_eq, decide_eq_true (show (i : Int) < ((votes x).length : Int) by omega), decide_eq_true (show (i : Int) ≤ 9 by omega)]; rfl
    · rw [Bool.and_eq_true] at h
      obtain ⟨p1, p2, p3⟩ := hp h.2
      refine ⟨p1, fun v hv => ?_, p3⟩
      rw [drop_at hil] at hv
      rcases List.mem_cons.1 hv with rfl | hv
      · exact p5 h.1 _ List.mem_cons_self
      · exact p2 v hv
theorem few14_ex (x : Ld) (l : List Rc) (m : Ms) : ∃ q, Ev (fun k => althinglaw14_few k x l m) q ∧ (q = true → (votes x).length ≤ 9 ∧ smallL x ∧ small m.2.2.2.2.2.2.2.2.1 ∧ fewR l) := by
  obtain ⟨q, hq, hp⟩ := few14_c x l m (min (votes x).length 10) 0 (by omega)
  refine ⟨q, Ev.congr (fun k => althinglaw14_few_eq k x l m) hq, fun h => ?_⟩
  obtain ⟨h1, h2, h3, h4, h5⟩ := hp h
  exact ⟨h1, ⟨h3, by simpa using h2⟩, h4, h5⟩
theorem given_ev (x : Ld) (h : (votes x).length ≤ 1000) : Ev (fun k => althinglaw14_given k x) x := by
  refine Ev.congr (fun k => althinglaw14_given_eq k x) ?_
  have : ∀ d j, j + d = (votes x).length → ∀ z b3, Ev (fun k => althinglaw14_given.c3 k (votes x) ((votes x).length : Int) (j : Int) z ((votes x).take j) b3) (b3.1, (b3.2.1, (b3.2.2.1, (b3.2.2.2.1, (b3.2.2.2.2.1, (b3.2.2.2.2.2.1, (b3.2.2.2.2.2.2.1, (b3.2.2.2.2.2.2.2.1, (b3.2.2.2.2.2.2.2.2.1, votes x))))))))) := by
    intro d
    induction d with
    | zero =>
      intro j hj z b3
      obtain rfl : j = (votes x).length := by omega
      refine Ev.step (f := fun _ => some _) (fun k => ?_) (Ev.some _)
      rw [althinglaw14_given.c3_eq, lt_ff (Nat.lt_irrefl _), List.take_length]
      rfl
    | succ d ih =>
      intro j hj z b3
      have hjl : j < (votes x).length := by omega
      have hw : IntKind.wrap .i64 ((j : Int) + 1) = ((j + 1 : Nat) : Int) := wrap_at (by omega)
      refine Ev.step (fun k => ?_) (ih (j + 1) (by omega) z b3)
      rw [althinglaw14_given.c3_eq, lt_tt hjl, inI_tt hjl, getD_at hjl, lt32 (show ((votes x).take j).length + 1 < 4294967296 by rw [List.length_take]; omega), hw, List.take_succ_eq_append_getElem hjl]
      rfl
  exact this (votes x).length 0 (by omega) _ _
theorem view_ev (x : Ld) (h : (votes x).length ≤ 1000) : Ev (fun k => althinglaw14_view k x) x := by
  refine Ev.congr (fun k => althinglaw14_view_eq k x) ?_
  have : ∀ d j, j + d = (votes x).length → ∀ z b3, Ev (fun k => althinglaw14_view.c3 k (votes x) ((votes x).length : Int) (j : Int) z ((votes x).take j) b3) (b3.1, (b3.2.1, (b3.2.2.1, (b3.2.2.2.1, (b3.2.2.2.2.1, (b3.2.2.2.2.2.1, (b3.2.2.2.2.2.2.1, (b3.2.2.2.2.2.2.2.1, (b3.2.2.2.2.2.2.2.2.1, votes x))))))))) := by
    intro d
    induction d with
    | zero =>
      intro j hj z b3
      obtain rfl : j = (votes x).length := by omega
      refine Ev.step (f := fun _ => some _) (fun k => ?_) (Ev.some _)
      rw [althinglaw14_view.c3_eq, lt_ff (Nat.lt_irrefl _), List.take_length]
      rfl
    | succ d ih =>
      intro j hj z b3
      have hjl : j < (votes x).length := by omega
      have hw : IntKind.wrap .i64 ((j : Int) + 1) = ((j + 1 : Nat) : Int) := wrap_at (by omega)
      refine Ev.step (fun k => ?_) (ih (j + 1) (by omega) z b3)
      rw [althinglaw14_view.c3_eq, lt_tt hjl, inI_tt hjl, getD_at hjl, lt32 (show ((votes x).take j).length + 1 < 4294967296 by rw [List.length_take]; omega), hw, List.take_succ_eq_append_getElem hjl]
      rfl
  exact this (votes x).length 0 (by omega) _ _
theorem bne_self (n : Int) : (n != n) = false := by simp
theorem same14_ev (x : Ld) (h : (votes x).length ≤ 1000) (hs : smallL x) : Ev (fun k => althingref14_Same k x x) true := by
  refine Ev.congr (fun k => althingref14_Same_eq k x x) ?_
  simp only [bne_self, inst_refl, bool_refl, deps_same]
  have : ∀ d j, j + d = (votes x).length → Ev (fun k => althingref14_Same.c4 k (j : Int) x x) true := by
    intro d
    induction d with
    | zero =>
      intro j hj
      obtain rfl : j = (votes x).length := by omega
      exact Ev.step (f := fun k => (althingref07_Same k x.2.2.2.2.2.1 x.2.2.2.2.2.1).bind fun r0 => some r0) (fun k => by rw [althingref14_Same.c4_eq, lt_ff (Nat.lt_irrefl _)]; rfl) (Ev.ret ((rsameR_ev _ _ hs.1).to (sameR_refl _)))
    | succ d ih =>
      intro j hj
      have hjl : j < (votes x).length := by omega
      have hw : IntKind.wrap .i64 ((j : Int) + 1) = ((j + 1 : Nat) : Int) := wrap_at (by omega)
      refine Ev.step (f := fun k => (althingref07_Same k (votes x)[j].2 (votes x)[j].2).bind fun r0 => bif !r0 then some false else althingref14_Same.c4 k ((j + 1 : Nat) : Int) x x) (fun k => ?_) (Ev.bind ((rsameR_ev _ _ (hs.2 _ (List.getElem_mem hjl))).to (sameR_refl _)) (Ev.bif_ff rfl (ih (j + 1) (by omega))))
      rw [althingref14_Same.c4_eq, lt_tt hjl, inI_tt hjl, getD_at hjl, bne_self, hw]
      rfl
  exact Ev.bif_ff rfl (Ev.bif_ff rfl (Ev.bif_ff rfl (Ev.bif_ff rfl (Ev.bif_ff rfl (Ev.bif_ff rfl (Ev.bif_ff rfl (Ev.bif_ff rfl (Ev.bif_ff rfl (this (votes x).length 0 (by omega))))))))))
theorem sameS_ev (s : Sl) (h1 : small s.1.2.2.2.2.1) (h2 : small s.2.2.2.2.2.2.2.1) : Ev (fun k => althingref14_SameStep k s s) true := by
  refine Ev.congr (fun k => althingref14_SameStep_eq k s s) ?_
  exact Ev.bif_tt (bool_refl _) (Ev.bif_tt (by simp) (Ev.bind ((rsameR_ev _ _ h1).to (sameR_refl _)) (Ev.bif_tt rfl (Ev.ret ((rsameR_ev _ _ h2).to (sameR_refl _))))))
abbrev ldZ : Ld := Ty.zero Ty_lead_Lead
def startV (f s : Int) (l : List Rc) (c : Cm) : Ld × (Sl × Int) :=
  bif isV f s then
    bif (beginV l s c).2 != 0 then (ldZ, (slZ, (beginV l s c).2))
    else ((f, (s, (1, (withQ 0 s, (zIn, ((beginV l s c).1, (true, ((beginV l s c).1.2.2.2.2.2.1, ((beginV l s c).1.2.2.2.2.2.2.1, []))))))))), (toldV (beginV l s c).1 1 (beginV l s c).1, 0))
  else (ldZ, (slZ, 1))
theorem start_ev (f s : Int) (l : List Rc) (hl : fewR l) (c : Cm) (hc : small c) : Ev (fun k => lead_Start k f s l c) (startV f s l c) := by
  refine Ev.congr (fun k => lead_Start_eq k f s l c) (Ev.bind (is_ev f s) ?_)
  unfold startV
  cases isV f s with
  | false => exact Ev.some _
  | true =>
    refine Ev.bif_ff rfl (Ev.bind (begin_ev l hl s c hc) ?_)
    have hb := begin_small l s c hc
    generalize beginV l s c = b at hb
    show Ev _ (bif b.2 != 0 then _ else _)
    cases b.2 != 0 with
    | true => exact Ev.some _
    | false =>
      refine Ev.bif_ff rfl ?_
      simp only [with_atQ, Option.bind_some]
      exact Ev.bind (Ev.at_ fun k => lown_at k b.1 hb) (Ev.bind (Ev.at_ fun k => told_at k b.1 1 b.1 hb hb) (Ev.some _))
theorem ris_at (k) (f s : Int) : althingref14_is k f s = some (isV f s) := by rw [althingref14_is_eq, rsize_at, Option.bind_some, cs]; rfl
theorem power_ev (n : Nat) (hn : n < 7) : Ev (fun k => althingref01_power k (n : Int)) (2 ^ n) := by
  refine Ev.congr (fun k => althingref01_power_eq k (n : Int)) ?_
  have : ∀ d j, j + d = n → Ev (fun k => althingref01_power.c3 k (n : Int) (2 ^ j) (j : Int)) (2 ^ n) := by
    intro d
    induction d with
    | zero =>
      intro j hj
      obtain rfl : j = n := by omega
      exact Ev.step (f := fun _ => some (2 ^ j)) (fun k => by rw [althingref01_power.c3_eq, decide_eq_false (by omega)]; rfl) (Ev.some _)
    | succ d ih =>
      intro j hj
      have hw : IntKind.wrap .i64 ((j : Int) + 1) = ((j + 1 : Nat) : Int) := wrap_at (by omega)
      have h2 : ∀ j : Nat, j < 7 → IntKind.wrap .i64 ((2 : Int) ^ j * 2) = 2 ^ (j + 1) := by decide
      refine Ev.step (fun k => ?_) (ih (j + 1) (by omega))
      rw [althingref01_power.c3_eq, decide_eq_true (show (j : Int) < (n : Int) by omega), hw, h2 j (by omega)]
      rfl
  exact this n 0 (by omega)
theorem one_ev (s : Int) (h : 0 ≤ s ∧ s < 7) : Ev (fun k => althingref14_one k s) (withQ 0 s) := by
  obtain ⟨n, rfl⟩ : ∃ n : Nat, s = (n : Int) := ⟨s.toNat, by omega⟩
  have hn : n < 7 := by omega
  refine Ev.congr (fun k => althingref14_one_eq k (n : Int)) (Ev.ret (Ev.congr (fun k => althingref01_With_eq k 0 (n : Int)) ?_))
  refine Ev.bif_ff (decide_eq_false (by omega)) (Ev.bif_ff (decide_eq_false (by omega)) (Ev.bind ((rhas_ev 0 (n : Int)).to (show hasV 0 (n : Int) = false by unfold hasV; rw [Int.toNat_natCast, tb_zero n hn, Bool.and_false])) (Ev.bif_ff rfl (Ev.bind (power_ev n hn) ?_))))
  refine (Ev.some _).to ?_
  unfold withQ
  rw [if_pos h, Int.toNat_natCast]
  have : ∀ j : Nat, j < 7 → IntKind.wrap .i64 (0 + (2 : Int) ^ j) = bitsI .or .i64 0 (2 ^ j) := by decide
  exact this n hn
theorem rstart_ev (f s : Int) (l : List Rc) (hl : fewR l) (c : Cm) (hc : small c) : Ev (fun k => althingref14_Start k f s l c) (startV f s l c) := by
  refine Ev.congr (fun k => althingref14_Start_eq k f s l c) ?_
  simp only [ris_at, Option.bind_some]
  unfold startV
  cases hi : isV f s with
  | false => exact Ev.some _
  | true =>
    refine Ev.bif_ff rfl (Ev.bind (rbegin_ev l hl s c hc) ?_)
    generalize beginV l s c = b
    show Ev _ (bif b.2 != 0 then _ else _)
    cases b.2 != 0 with
    | true => exact Ev.some _
    | false => exact Ev.bif_ff rfl (Ev.bind (one_ev s (isV_in hi).2) (Ev.some _))
def awC : Cm := (1, ((0, 1), ((1, 0), (1, ([], ([((⟨#[97]⟩ : ByteArray), (⟨#[]⟩ : ByteArray))], false))))))
theorem awC_small : small awC := ⟨Nat.zero_le _, by decide, fun x hx => (by cases hx), fun x hx => by
  rw [List.mem_singleton.1 hx]
  exact ⟨by decide, by decide⟩⟩
def awS : Ld × (Sl × Int) := startV 1 0 [] awC
def awMs : Ms := (2, (1, (0, (zIn, awS.2.1.2.2.2))))
def awH : Ld × Sl := askedV (heardL awS.1 awMs) (knowV [awS.2.1.1] awS.1.2.2.2.2.2.1.1) awMs.2.2.2.2
theorem aw_ok : okV awS.1 awMs = true := by kernel_rfl
theorem aw_over : overV awS.1 (knowV [awS.2.1.1] awS.1.2.2.2.2.2.1.1) awMs = false := by kernel_rfl
theorem aw_stale : (staleV awS.1 awMs || !pairV awS.1 awMs) = false := by kernel_rfl
theorem aw_phase : awS.1.2.2.1 = (1 : Int) := by kernel_rfl
theorem aw_end : ((awS.2.2 == 0) && ((awS.2.1.2.2.1 == 1) && ((awH.1.2.2.1 == 4) && ((awH.2.2.2.1 == 5) && (awH.2.2.1 && (awH.2.1.2.1 == 3)))))) = true := by kernel_rfl
theorem aw_start : small awS.2.1.1.2.2.2.2.1 ∧ small awS.1.2.2.2.2.2.1.2.2.2.2.1 ∧ votes awS.1 = [] ∧ small awMs.2.2.2.2.2.2.2.2.1 := by
  have h1 : awS.2.1.1.2.2.2.2.1 = awC := by kernel_rfl
  have h2 : awS.1.2.2.2.2.2.1.2.2.2.2.1 = awC := by kernel_rfl
  have h3 : awMs.2.2.2.2.2.2.2.2.1 = awC := by kernel_rfl
  exact ⟨by rw [h1]; exact awC_small, by rw [h2]; exact awC_small, by kernel_rfl, by rw [h3]; exact awC_small⟩
theorem aw14_ev : Ev (fun k => althinglaw14_awake k) true := by
  obtain ⟨s1, s2, s3, s4⟩ := aw_start
  have hl : fewR [awS.2.1.1] := ⟨by simp, fun x hx => by rw [List.mem_singleton.1 hx]; exact s1⟩
  obtain ⟨r, hr, hh⟩ := hear_ex awS.1 [awS.2.1.1] hl awMs s4 s2 (by show (votes awS.1).length ≤ 50; rw [s3]; exact Nat.zero_le _) (fun v hv => by
    have hv' : v ∈ votes awS.1 := hv
    rw [s3] at hv'; cases hv')
  have hrr : r = awH := by
    cases hh with
    | no h => rw [aw_ok] at h; cases h
    | over h ho => rw [aw_over] at ho; cases ho
    | same h ho hs => rw [aw_stale] at hs; cases hs
    | asked h ho hs hp hk => rfl
    | putt h ho hs hp hk => rw [aw_phase] at hp; cases hp
    | looked h ho hs hp hk y s hy => rw [aw_phase] at hp; cases hp
  rw [hrr] at hr
  have nf : fewR [] := ⟨Nat.zero_le _, fun x hx => by cases hx⟩
  refine Ev.congr (fun k => althinglaw14_awake_eq k) (Ev.bind (Ev.at_ fun k => althinglaw14_some_eq k 1) (Ev.bind (start_ev 1 0 [] nf awC awC_small) (Ev.bind hr ?_)))
  have he := aw_end
  simp only [Bool.and_eq_true] at he
  obtain ⟨e1, e2, e3, e4, e5, e6⟩ := he
  exact Ev.bif_tt e1 (Ev.bif_tt e2 (Ev.bif_tt e3 (Ev.bif_tt e4 (Ev.bif_tt e5 ((Ev.some _).to e6)))))
theorem aw14_then : Ev (fun k => (althinglaw14_awake k).bind fun r => some r) true := Ev.ret aw14_ev
end Go.Proofs.YtjgcmmpfaemkiaaGreat.V
end
section
namespace Go.Proofs.YtjgcmmpfaemkiaaGreat.V
open Go Go.Vm Go.Proofs.YtjgcmmpfaemkiaaGreat.Strs
set_option linter.unusedVariables false
set_option linter.unusedSimpArgs false
def nextV (b : In) (s : Int) : In × Int := bif rbV b && inR s 0 6 then (bif b.1 == 1099511627776 then (zIn, 2) else ((IntKind.wrap .i64 (b.1 + 1), s), 0)) else (zIn, 1)
theorem next_ev (b : In) (s : Int) : Ev (fun k => stamp_NextBallot k b s) (nextV b s) := by
  refine Ev.congr (fun k => stamp_NextBallot_eq k b s) ?_
  simp only [srb_at, Option.bind_some]
  unfold nextV
  have h2 : rbV b = true → rbV (b.1, s) = inR s 0 6 := fun h => by
    unfold rbV at h ⊢
    rw [Bool.and_eq_true] at h
    show (inR b.1 0 big40 && inR s 0 6) = _
    rw [h.1, Bool.true_and]
  cases hb : rbV b with
  | false => exact Ev.some _
  | true =>
    rw [h2 hb]
    refine Ev.bif_ff rfl ?_
    cases inR s 0 6 with
    | false => exact Ev.some _
    | true =>
      refine Ev.bif_ff rfl (Ev.step (fun k => stamp_NextBallot.c4_eq k b _ (b.1, s)) ?_)
      show Ev _ (bif b.1 == 1099511627776 then _ else _)
      cases b.1 == 1099511627776 with
      | true => exact Ev.some _
      | false => exact Ev.some _
theorem rnext_ev (b : In) (s : Int) : Ev (fun k => althingref02_NextBallot k b s) (nextV b s) := by
  refine Ev.congr (fun k => althingref02_NextBallot_eq k b s) ?_
  simp only [rrb_at, Option.bind_some]
  unfold nextV
  cases hb : rbV b with
  | false => exact Ev.some _
  | true =>
    refine Ev.bif_ff rfl ?_
    unfold inR
    by_cases h0 : s < 0
    · rw [decide_eq_false (show ¬ s ≥ 0 by omega)]
      exact Ev.bif_tt (decide_eq_true h0) (Ev.some _)
    by_cases h6 : s > 6
    · rw [decide_eq_true (show s ≥ 0 by omega), decide_eq_false (show ¬ s ≤ 6 by omega)]
      exact Ev.bif_ff (decide_eq_false h0) (Ev.bif_tt (decide_eq_true h6) (Ev.some _))
    rw [decide_eq_true (show s ≥ 0 by omega), decide_eq_true (show s ≤ 6 by omega)]
    refine Ev.bif_ff (decide_eq_false h0) (Ev.bif_ff (decide_eq_false h6) (Ev.step (fun k => althingref02_NextBallot.c3_eq k s b _) ?_))
    show Ev _ (bif b.1 == 1099511627776 then _ else _)
    cases b.1 == 1099511627776 with
    | true => exact Ev.some _
    | false => exact Ev.some _
def takeV (f s : Int) (l : List Rc) (i : In) : Ld × (Sl × Int) :=
  bif isV f s && (instV i && isV f i.1) then
    bif (knowV l i).2.1 == 3 then (ldZ, (slZ, 11))
    else bif (nextV (knowV l i).2.2.1 s).2 != 0 then (ldZ, (slZ, (nextV (knowV l i).2.2.1 s).2))
    else ((f, (s, (3, (withQ 0 s, ((nextV (knowV l i).2.2.1 s).1, ((i, (Ty.zero (Ty.pair Ty.i64 (Ty.pair Ty_api_Instance (Ty.pair Ty_api_Instance (Ty.pair Ty_api_Command (Ty.pair Ty.i64 (Ty.pair Ty_api_Deps Ty.bool)))))))), (false, (0, (Ty.zero Ty_api_Deps, [(s, ((knowV l i).1, ((knowV l i).2.1, ((nextV (knowV l i).2.2.1 s).1, (knowV l i).2.2.2))))]))))))))),
      (toldV ((knowV l i).1, ((knowV l i).2.1, ((nextV (knowV l i).2.2.1 s).1, (knowV l i).2.2.2))) 6 ((knowV l i).1, ((knowV l i).2.1, ((nextV (knowV l i).2.2.1 s).1, (knowV l i).2.2.2))), 0))
  else (ldZ, (slZ, 1))
theorem take_ev (f s : Int) (l : List Rc) (hl : fewR l) (i : In) : Ev (fun k => lead_Take k f s l i) (takeV f s l i) := by
  refine Ev.congr (fun k => lead_Take_eq k f s l i) (Ev.bind (is_ev f s) ?_)
  unfold takeV
  cases isV f s with
  | false => exact Ev.some _
  | true =>
    refine Ev.bif_ff rfl ?_
    simp only [sinst_at, Option.bind_some]
    cases instV i with
    | false => exact Ev.some _
    | true =>
      refine Ev.bif_ff rfl (Ev.bind (is_ev f i.1) ?_)
      cases isV f i.1 with
      | false => exact Ev.some _
      | true =>
        refine Ev.bif_ff rfl (Ev.step (fun k => lead_Take.c3_eq k f s l i _ _) (Ev.bind (know_ev l hl i) ?_))
        have hk := knowV_small hl i
        generalize knowV l i = kk at hk
        show Ev _ (bif kk.2.1 == 3 then _ else _)
        cases kk.2.1 == 3 with
        | true => exact Ev.some _
        | false =>
          refine Ev.bif_ff rfl (Ev.bind (next_ev kk.2.2.1 s) ?_)
          generalize nextV kk.2.2.1 s = b
          show Ev _ (bif b.2 != 0 then _ else _)
          cases b.2 != 0 with
          | true => exact Ev.some _
          | false =>
            refine Ev.bif_ff rfl ?_
            simp only [with_atQ, Option.bind_some]
            exact Ev.bind (Ev.at_ fun k => lown_at k (kk.1, (kk.2.1, (b.1, kk.2.2.2))) hk) (Ev.bind (Ev.at_ fun k => told_at k (kk.1, (kk.2.1, (b.1, kk.2.2.2))) 6 (kk.1, (kk.2.1, (b.1, kk.2.2.2))) hk hk) (Ev.some _))
theorem rtake_ev (f s : Int) (l : List Rc) (hl : fewR l) (i : In) : Ev (fun k => althingref14_Take k f s l i) (takeV f s l i) := by
  refine Ev.congr (fun k => althingref14_Take_eq k f s l i) ?_
  simp only [ris_at, rinst_at, Option.bind_some]
  unfold takeV
  cases hi : isV f s with
  | false => exact Ev.some _
  | true =>
    refine Ev.bif_ff rfl ?_
    cases instV i with
    | false => exact Ev.some _
    | true =>
      refine Ev.bif_ff rfl ?_
      cases isV f i.1 with
      | false => exact Ev.some _
      | true =>
        have hl' := hl.1
        refine Ev.bif_ff rfl (Ev.step (fun k => althingref14_Take.c3_eq k f s l i _ _) (Ev.bind (rknow_ev l (by omega) i) ?_))
        generalize knowV l i = kk
        show Ev _ (bif kk.2.1 == 3 then _ else _)
        cases kk.2.1 == 3 with
        | true => exact Ev.some _
        | false =>
          refine Ev.bif_ff rfl (Ev.bind (rnext_ev kk.2.2.1 s) ?_)
          generalize nextV kk.2.2.1 s = b
          show Ev _ (bif b.2 != 0 then _ else _)
          cases b.2 != 0 with
          | true => exact Ev.some _
          | false => exact Ev.bif_ff rfl (Ev.bind (one_ev s (isV_in hi).2) (Ev.some _))
def fineP (r : Ld × (Sl × Int)) : Prop := (votes r.1).length ≤ 9 ∧ smallL r.1 ∧ small r.2.1.1.2.2.2.2.1 ∧ small r.2.1.2.2.2.2.2.2.2.1
theorem fine_zero (e : Int) : fineP (ldZ, (slZ, e)) := ⟨Nat.zero_le _, ⟨small_zero, fun v hv => by cases hv⟩, small_zero, small_zero⟩
theorem start_fine (f s : Int) (l : List Rc) (c : Cm) (hc : small c) : fineP (startV f s l c) := by
  unfold startV
  cases isV f s with
  | false => exact fine_zero _
  | true =>
    have hb := begin_small l s c hc
    generalize beginV l s c = b at hb
    show fineP (bif b.2 != 0 then _ else _)
    cases b.2 != 0 with
    | true => exact fine_zero _
    | false => exact ⟨Nat.zero_le _, ⟨hb, fun v hv => by cases hv⟩, hb, hb⟩
theorem take_fine (f s : Int) (l : List Rc) (hl : fewR l) (i : In) : fineP (takeV f s l i) := by
  unfold takeV
  cases isV f s && (instV i && isV f i.1) with
  | false => exact fine_zero _
  | true =>
    have hk := knowV_small hl i
    generalize knowV l i = kk at hk
    show fineP (bif kk.2.1 == 3 then _ else _)
    cases kk.2.1 == 3 with
    | true => exact fine_zero _
    | false =>
      show fineP (bif (nextV kk.2.2.1 s).2 != 0 then _ else _)
      cases (nextV kk.2.2.1 s).2 != 0 with
      | true => exact fine_zero _
      | false => exact ⟨by show 1 ≤ 9; decide, ⟨small_zero, fun v hv => by rw [List.mem_singleton.1 hv]; exact hk⟩, hk, hk⟩
theorem begins_ev (f s : Int) (l : List Rc) (c : Cm) (i : In) : Ev (fun k => althinglaw14_LeadBegins k f s l c i) true := by
  refine Ev.congr (fun k => althinglaw14_LeadBegins_eq k f s l c i) ?_
  obtain ⟨q, hq, hp⟩ := few11_ex l
  refine Ev.bind hq ?_
  cases q with
  | false => exact Ev.bif_tt rfl aw14_then
  | true =>
    obtain ⟨_, hl⟩ := hp rfl
    refine Ev.bif_ff rfl ?_
    obtain ⟨q5, h5, p5⟩ := few5_ex [c] (by simp)
    refine Ev.bind h5 ?_
    cases q5 with
    | false => exact Ev.bif_tt rfl aw14_then
    | true =>
      have hc := p5 rfl c List.mem_cons_self
      have fs := start_fine f s l c hc
      have ft := take_fine f s l hl i
      refine Ev.bif_ff rfl (Ev.step (fun k => althinglaw14_LeadBegins.c3_eq k f s l c i) ?_)
      refine Ev.bind (start_ev f s l hl c hc) (Ev.bind (rstart_ev f s l hl c hc) (Ev.bind (take_ev f s l hl i) (Ev.bind (rtake_ev f s l hl i) ?_)))
      generalize startV f s l c = a at fs
      generalize takeV f s l i = b at ft
      refine Ev.bind (view_ev a.1 (by have := fs.1; omega)) (Ev.bind (same14_ev a.1 (by have := fs.1; omega) fs.2.1) (Ev.bif_tt rfl (Ev.bind (Ev.at_ fun k => althinglaw14_step_eq k a.2.1) (Ev.bind (sameS_ev a.2.1 fs.2.2.1 fs.2.2.2) (Ev.bif_tt rfl (Ev.bif_tt (by simp) ?_))))))
      exact Ev.bind (view_ev b.1 (by have := ft.1; omega)) (Ev.bind (same14_ev b.1 (by have := ft.1; omega) ft.2.1) (Ev.bif_tt rfl (Ev.bind (Ev.at_ fun k => althinglaw14_step_eq k b.2.1) (Ev.bind (sameS_ev b.2.1 ft.2.2.1 ft.2.2.2) (Ev.bif_tt rfl (Ev.bif_tt (by simp) aw14_then))))))
theorem pure_LeadBegins : ∀ zs : dens ([Ty.i64, Ty.i64, .sl 37 Ty_api_Record, Ty_api_Command, Ty_api_Instance].map PK.val), WfAll _ zs → ∃ k, app _ (althinglaw14_LeadBegins k) zs = some true := fun zs _ => (begins_ev zs.1 zs.2.1 zs.2.2.1 zs.2.2.2.1 zs.2.2.2.2.1).out
end Go.Proofs.YtjgcmmpfaemkiaaGreat.V
end
