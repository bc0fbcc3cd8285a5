/- What the claim CLO leans on: texts joined by bundle.py, a program of ours; the words cut down to what is used. -/
import Derived.Test.YtnjeeedndnfglaaBCLO4
import Derived.Lib.RuneCountTail
import Derived.Lib.TrimU
import Derived.Lib.OthersKept
section
namespace Go.Proofs.Ytnjeeedndnfglaa.X
open Go.RowKit Go.Proofs.YtnjeeedndnfglaaW.PrintWords Go.Proofs.YtnjeeedndnfglaaW.PrintLast Go.Proofs.YtnjeeedndnfglaaW.PrintMore
attribute [local go_sem] max2_int min2_int max_two min_two max_three min_three max_four min_four   -- for this text's walks alone
set_option linter.unusedVariables false
set_option linter.unusedSimpArgs false
/-! ### althinglaw05_CommandClones: function 3 -/
mutual
def althinglaw05_CommandClones.l0 : Nat → Int → Int → Int → Int → Int → Int → Int → Int → List (S38) → List (S40) → Bool → Int → Int → Int → Int → Int → Int → List (S38) → List (S40) → Bool → Int → Int → Int → Int → Int → Int → List (S38) → List (S40) → Bool → Int → Int → Int → Int → Int → Int → List (S38) → List (S40) → Bool → Int → Int → Int → Int → Int → Int → List (S38) → List (S40) → Bool → Option (Bool)
 | 0, _, _, _, _, _, _, _, _, _, _, _, _, _, _, _, _, _, _, _, _, _, _, _, _, _, _, _, _, _, _, _, _, _, _, _, _, _, _, _, _, _, _, _, _, _, _, _ => none
 | k + 1, x42, x43, x303000, x303001, x303002, x303003, x303004, x303005, x303006, x303007, x303008, x309000, x309001, x309002, x309003, x309004, x309005, x309006, x309007, x309008, x335000, x335001, x335002, x335003, x335004, x335005, x335006, x335007, x335008, x350000, x350001, x350002, x350003, x350004, x350005, x350006, x350007, x350008, x365000, x365001, x365002, x365003, x365004, x365005, x365006, x365007, x365008 => if x43 < x42 then (if 0 ≤ x43 then (if x43 < (x365006.length : Int) then (if ((rd_T38 x365006 x43).f0).size + 1 ≤ 9223372036854775807 then (althinglaw05_CommandClones.l0 k x42 (wrap64 (x43 + 1)) x303000 x303001 x303002 x303003 x303004 x303005 x303006 x303007 x303008 x309000 x309001 x309002 x309003 x309004 x309005 x309006 x309007 x309008 x335000 x335001 x335002 x335003 x335004 x335005 x335006 x335007 x335008 x350000 x350001 x350002 x350003 x350004 x350005 x350006 x350007 x350008 x365000 x365001 x365002 x365003 x365004 x365005 (x365006.set (x43 : Int).toNat (⟨((rd_T38 x365006 x43).f0) ++ (⟨#[120]⟩ : ByteArray), (⟨(rd_T38 x365006 x43).f1.f0, (rd_T38 x365006 x43).f1.f1⟩ : S25)⟩ : S38)) x365007 x365008) else (none)) else (none)) else (none)) else (althinglaw05_CommandClones.l1 k (x350007.length : Int) 0 x303000 x303001 x303002 x303003 x303004 x303005 x303006 x303007 x303008 x309000 x309001 x309002 x309003 x309004 x309005 x309006 x309007 x309008 x335000 x335001 x335002 x335003 x335004 x335005 x335006 x335007 x335008 x350000 x350001 x350002 x350003 x350004 x350005 x350006 x350007 x350008)
def althinglaw05_CommandClones.l1 : Nat → Int → Int → Int → Int → Int → Int → Int → Int → List (S38) → List (S40) → Bool → Int → Int → Int → Int → Int → Int → List (S38) → List (S40) → Bool → Int → Int → Int → Int → Int → Int → List (S38) → List (S40) → Bool → Int → Int → Int → Int → Int → Int → List (S38) → List (S40) → Bool → Option (Bool)
 | 0, _, _, _, _, _, _, _, _, _, _, _, _, _, _, _, _, _, _, _, _, _, _, _, _, _, _, _, _, _, _, _, _, _, _, _, _, _, _ => none
 | k + 1, x58, x59, x303000, x303001, x303002, x303003, x303004, x303005, x303006, x303007, x303008, x309000, x309001, x309002, x309003, x309004, x309005, x309006, x309007, x309008, x335000, x335001, x335002, x335003, x335004, x335005, x335006, x335007, x335008, x350000, x350001, x350002, x350003, x350004, x350005, x350006, x350007, x350008 => if x59 < x58 then (if 0 ≤ x59 then (if x59 < (x350007.length : Int) then (if ((rd_T40 x350007 x59).f1).size + 1 ≤ 9223372036854775807 then (althinglaw05_CommandClones.l1 k x58 (wrap64 (x59 + 1)) x303000 x303001 x303002 x303003 x303004 x303005 x303006 x303007 x303008 x309000 x309001 x309002 x309003 x309004 x309005 x309006 x309007 x309008 x335000 x335001 x335002 x335003 x335004 x335005 x335006 x335007 x335008 x350000 x350001 x350002 x350003 x350004 x350005 x350006 (x350007.set (x59 : Int).toNat (⟨(rd_T40 x350007 x59).f0, ((rd_T40 x350007 x59).f1) ++ (⟨#[120]⟩ : ByteArray)⟩ : S40)) x350008) else (none)) else (none)) else (none)) else (althinglaw05_CommandClones.l2 k (x350006.length : Int) 0 x303000 x303001 x303002 x303003 x303004 x303005 x303006 x303007 x303008 x309000 x309001 x309002 x309003 x309004 x309005 x309006 x309007 x309008 x335000 x335001 x335002 x335003 x335004 x335005 x335006 x335007 x335008 x350000 x350001 x350002 x350003 x350004 x350005 x350006 x350007 x350008)
def althinglaw05_CommandClones.l2 : Nat → Int → Int → Int → Int → Int → Int → Int → Int → List (S38) → List (S40) → Bool → Int → Int → Int → Int → Int → Int → List (S38) → List (S40) → Bool → Int → Int → Int → Int → Int → Int → List (S38) → List (S40) → Bool → Int → Int → Int → Int → Int → Int → List (S38) → List (S40) → Bool → Option (Bool)
 | 0, _, _, _, _, _, _, _, _, _, _, _, _, _, _, _, _, _, _, _, _, _, _, _, _, _, _, _, _, _, _, _, _, _, _, _, _, _, _ => none
 | k + 1, x74, x75, x303000, x303001, x303002, x303003, x303004, x303005, x303006, x303007, x303008, x309000, x309001, x309002, x309003, x309004, x309005, x309006, x309007, x309008, x335000, x335001, x335002, x335003, x335004, x335005, x335006, x335007, x335008, x350000, x350001, x350002, x350003, x350004, x350005, x350006, x350007, x350008 => if x75 < x74 then (if 0 ≤ x75 then (if x75 < (x350006.length : Int) then (if ((rd_T38 x350006 x75).f0).size + 1 ≤ 9223372036854775807 then (althinglaw05_CommandClones.l2 k x74 (wrap64 (x75 + 1)) x303000 x303001 x303002 x303003 x303004 x303005 x303006 x303007 x303008 x309000 x309001 x309002 x309003 x309004 x309005 x309006 x309007 x309008 x335000 x335001 x335002 x335003 x335004 x335005 x335006 x335007 x335008 x350000 x350001 x350002 x350003 x350004 x350005 (x350006.set (x75 : Int).toNat (⟨((rd_T38 x350006 x75).f0) ++ (⟨#[121]⟩ : ByteArray), (⟨(rd_T38 x350006 x75).f1.f0, (rd_T38 x350006 x75).f1.f1⟩ : S25)⟩ : S38)) x350007 x350008) else (none)) else (none)) else (none)) else ((althingref05_Same.f k x335000 x335001 x335002 x335003 x335004 x335005 x335006 x335007 x335008 x303000 x303001 x303002 x303003 x303004 x303005 x303006 x303007 x303008).bind fun t371 => (if t371 = true then ((althingref05_Same.f k x309000 x309001 x309002 x309003 x309004 x309005 x309006 x309007 x309008 x303000 x303001 x303002 x303003 x303004 x303005 x303006 x303007 x303008).bind fun t372 => (if t372 = true then ((althinglaw05_awake.f k).bind fun t373 => (some t373)) else (none))) else (none)))
end
def althinglaw05_CommandClones.f (k : Nat) (a0_0 : Int) (a0_1 : Int) (a0_2 : Int) (a0_3 : Int) (a0_4 : Int) (a0_5 : Int) (l0_6 : List (S38)) (l0_7 : List (S40)) (a0_8 : Bool) : Option (Bool) := (althinglaw05_Few.f k (([(⟨a0_0, (⟨a0_1, a0_2⟩ : S23), (⟨a0_3, a0_4⟩ : S25), a0_5, l0_6, l0_7, a0_8⟩ : S29)] : List (S29)))).bind fun t306 => (if t306 = true then ((some (([] : List (S38)) : List (S38))).bind fun y309 => (if y309.length + l0_6.length < 4398046511104 then ((some (y309 ++ l0_6 : List (S38))).bind fun y312 => ((some (([] : List (S40)) : List (S40))).bind fun y315 => (if y315.length + l0_7.length < 4398046511104 then ((some (y315 ++ l0_7 : List (S40))).bind fun y318 => ((command_Clone.f a0_0 a0_1 a0_2 a0_3 a0_4 a0_5 y312 y318 a0_8).bind fun bt321 => ((althingref05_Same.f k bt321.1 bt321.2.1 bt321.2.2.1 bt321.2.2.2.1 bt321.2.2.2.2.1 bt321.2.2.2.2.2.1 bt321.2.2.2.2.2.2.1 bt321.2.2.2.2.2.2.2.1 bt321.2.2.2.2.2.2.2.2 a0_0 a0_1 a0_2 a0_3 a0_4 a0_5 l0_6 l0_7 a0_8).bind fun t335 => (if t335 = true then ((command_Clone.f bt321.1 bt321.2.1 bt321.2.2.1 bt321.2.2.2.1 bt321.2.2.2.2.1 bt321.2.2.2.2.2.1 bt321.2.2.2.2.2.2.1 bt321.2.2.2.2.2.2.2.1 bt321.2.2.2.2.2.2.2.2).bind fun bt336 => ((command_Decided.f k bt336.1 bt336.2.1 bt336.2.2.1 bt336.2.2.2.1 bt336.2.2.2.2.1 bt336.2.2.2.2.2.1 bt336.2.2.2.2.2.2.1 bt336.2.2.2.2.2.2.2.1 bt336.2.2.2.2.2.2.2.2 true).bind fun bt350 => (althinglaw05_CommandClones.l0 k (bt350.2.2.2.2.2.2.1.length : Int) 0 a0_0 a0_1 a0_2 a0_3 a0_4 a0_5 l0_6 l0_7 a0_8 a0_0 a0_1 a0_2 a0_3 a0_4 a0_5 y312 y318 a0_8 bt321.1 bt321.2.1 bt321.2.2.1 bt321.2.2.2.1 bt321.2.2.2.2.1 bt321.2.2.2.2.2.1 bt321.2.2.2.2.2.2.1 bt321.2.2.2.2.2.2.2.1 bt321.2.2.2.2.2.2.2.2 bt336.1 bt336.2.1 bt336.2.2.1 bt336.2.2.2.1 bt336.2.2.2.2.1 bt336.2.2.2.2.2.1 bt336.2.2.2.2.2.2.1 bt336.2.2.2.2.2.2.2.1 bt336.2.2.2.2.2.2.2.2 bt350.1 bt350.2.1 bt350.2.2.1 bt350.2.2.2.1 bt350.2.2.2.2.1 bt350.2.2.2.2.2.1 bt350.2.2.2.2.2.2.1 bt350.2.2.2.2.2.2.2.1 bt350.2.2.2.2.2.2.2.2.1))) else (none))))) else (none)))) else (none))) else ((althinglaw05_awake.f k).bind fun t307 => (some t307)))
def althinglaw05_CommandClones.T4 : Bool × List (List Nat × List Nat) := (true, [([], []), ([], []), ([1], [1]), ([0, 2], [0, 2]), ([], []), ([], []), ([5], [5]), ([4, 6, 3], [4, 6]), ([0, 1, 2, 3], []), ([8, 3, 7, 0, 1, 2, 3], [3, 8]), ([0, 1, 2, 3, 4, 5, 6, 7, 8, 9], []), ([10, 7, 9, 0, 1, 2, 3, 4, 5, 6, 7, 8, 9], [7, 10])])
def althinglaw05_CommandClones.B4 : List Nat := [0, 0, 2, 7, 0, 0, 32, 127, 15, 511, 1023, 2047]
theorem althinglaw05_CommandClones.tab4 : rtab .any (opsOf Try.f3 4) = althinglaw05_CommandClones.T4 := by kernel_rfl
theorem althinglaw05_CommandClones.bits4 : waitsOk althinglaw05_CommandClones.T4.2 althinglaw05_CommandClones.B4 = true := by kernel_rfl
set_option maxHeartbeats 8000000 in
set_option maxRecDepth 100000 in
theorem althinglaw05_CommandClones.calls (k : Nat) (a0_0 : Int) (a0_1 : Int) (a0_2 : Int) (a0_3 : Int) (a0_4 : Int) (a0_5 : Int) (P0_6_ : Nat → Prop) (A0_6 : Option Addr) (c0_6 : Nat) (l0_6 : List (S38)) (P0_7_ : Nat → Prop) (A0_7 : Option Addr) (c0_7 : Nat) (l0_7 : List (S40)) (a0_8 : Bool) (r : Bool) (w : World) (hs0_6 : Kd.V k38 38 w w.heap.size (fun k_ => P0_6_ k_) (.slice A0_6 l0_6.length c0_6) l0_6) (hs0_7 : Kd.V k40 40 w w.heap.size (fun k_ => P0_7_ k_) (.slice A0_7 l0_7.length c0_7) l0_7) (h : althinglaw05_CommandClones.f k a0_0 a0_1 a0_2 a0_3 a0_4 a0_5 l0_6 l0_7 a0_8 = some r) :
 Calls Try.prog 3 #[.agg #[.int .i64 a0_0, .int .i64 a0_1, .int .i64 a0_2, .int .i64 a0_3, .int .i64 a0_4, .int .i64 a0_5, .slice A0_6 l0_6.length c0_6, .slice A0_7 l0_7.length c0_7, .bool a0_8]] w fun e w' => e = .returned (.bool r) ∧ Below w.heap.size w w' := by
 have hu29 := Try.underlying29
 have HO0_6 := Aside0.mk (show Kd.V k38 38 w w.heap.size (fun k_ => ((P0_6_ k_ ∨ P0_7_ k_) ∨ w.heap.size ≤ k_)) (.slice A0_6 l0_6.length c0_6) l0_6 from Kd.V_mono hs0_6 (fun k_ hk => .inl (.inl hk)))
 have HO0_7 := Aside0.mk (show Kd.V k40 40 w w.heap.size (fun k_ => ((P0_6_ k_ ∨ P0_7_ k_) ∨ w.heap.size ≤ k_)) (.slice A0_7 l0_7.length c0_7) l0_7 from Kd.V_mono hs0_7 (fun k_ hk => .inl (.inr hk)))
 have HB := Aside0.mk (Below.refl w.heap.size w)
 have H : ((althinglaw05_Few.f k (([(⟨a0_0, (⟨a0_1, a0_2⟩ : S23), (⟨a0_3, a0_4⟩ : S25), a0_5, l0_6, l0_7, a0_8⟩ : S29)] : List (S29)))).bind fun t306 => (if t306 = true then ((some (([] : List (S38)) : List (S38))).bind fun y309 => (if y309.length + l0_6.length < 4398046511104 then ((some (y309 ++ l0_6 : List (S38))).bind fun y312 => ((some (([] : List (S40)) : List (S40))).bind fun y315 => (if y315.length + l0_7.length < 4398046511104 then ((some (y315 ++ l0_7 : List (S40))).bind fun y318 => ((command_Clone.f a0_0 a0_1 a0_2 a0_3 a0_4 a0_5 y312 y318 a0_8).bind fun bt321 => ((althingref05_Same.f k bt321.1 bt321.2.1 bt321.2.2.1 bt321.2.2.2.1 bt321.2.2.2.2.1 bt321.2.2.2.2.2.1 bt321.2.2.2.2.2.2.1 bt321.2.2.2.2.2.2.2.1 bt321.2.2.2.2.2.2.2.2 a0_0 a0_1 a0_2 a0_3 a0_4 a0_5 l0_6 l0_7 a0_8).bind fun t335 => (if t335 = true then ((command_Clone.f bt321.1 bt321.2.1 bt321.2.2.1 bt321.2.2.2.1 bt321.2.2.2.2.1 bt321.2.2.2.2.2.1 bt321.2.2.2.2.2.2.1 bt321.2.2.2.2.2.2.2.1 bt321.2.2.2.2.2.2.2.2).bind fun bt336 => ((command_Decided.f k bt336.1 bt336.2.1 bt336.2.2.1 bt336.2.2.2.1 bt336.2.2.2.2.1 bt336.2.2.2.2.2.1 bt336.2.2.2.2.2.2.1 bt336.2.2.2.2.2.2.2.1 bt336.2.2.2.2.2.2.2.2 true).bind fun bt350 => (althinglaw05_CommandClones.l0 k (bt350.2.2.2.2.2.2.1.length : Int) 0 a0_0 a0_1 a0_2 a0_3 a0_4 a0_5 l0_6 l0_7 a0_8 a0_0 a0_1 a0_2 a0_3 a0_4 a0_5 y312 y318 a0_8 bt321.1 bt321.2.1 bt321.2.2.1 bt321.2.2.2.1 bt321.2.2.2.2.1 bt321.2.2.2.2.2.1 bt321.2.2.2.2.2.2.1 bt321.2.2.2.2.2.2.2.1 bt321.2.2.2.2.2.2.2.2 bt336.1 bt336.2.1 bt336.2.2.1 bt336.2.2.2.1 bt336.2.2.2.2.1 bt336.2.2.2.2.2.1 bt336.2.2.2.2.2.2.1 bt336.2.2.2.2.2.2.2.1 bt336.2.2.2.2.2.2.2.2 bt350.1 bt350.2.1 bt350.2.2.1 bt350.2.2.2.1 bt350.2.2.2.2.1 bt350.2.2.2.2.2.1 bt350.2.2.2.2.2.2.1 bt350.2.2.2.2.2.2.2.1 bt350.2.2.2.2.2.2.2.2.1))) else (none))))) else (none)))) else (none))) else ((althinglaw05_awake.f k).bind fun t307 => (some t307)))) = some r := h
 clear h
 obtain ⟨y303, hy303⟩ : ∃ y_ : List (S29), y_ = (([(⟨a0_0, (⟨a0_1, a0_2⟩ : S23), (⟨a0_3, a0_4⟩ : S25), a0_5, l0_6, l0_7, a0_8⟩ : S29)] : List (S29))) := ⟨_, rfl⟩
 replace H : ((althinglaw05_Few.f k y303).bind fun t306 => (if t306 = true then ((some (([] : List (S38)) : List (S38))).bind fun y309 => (if y309.length + l0_6.length < 4398046511104 then ((some (y309 ++ l0_6 : List (S38))).bind fun y312 => ((some (([] : List (S40)) : List (S40))).bind fun y315 => (if y315.length + l0_7.length < 4398046511104 then ((some (y315 ++ l0_7 : List (S40))).bind fun y318 => ((command_Clone.f a0_0 a0_1 a0_2 a0_3 a0_4 a0_5 y312 y318 a0_8).bind fun bt321 => ((althingref05_Same.f k bt321.1 bt321.2.1 bt321.2.2.1 bt321.2.2.2.1 bt321.2.2.2.2.1 bt321.2.2.2.2.2.1 bt321.2.2.2.2.2.2.1 bt321.2.2.2.2.2.2.2.1 bt321.2.2.2.2.2.2.2.2 a0_0 a0_1 a0_2 a0_3 a0_4 a0_5 l0_6 l0_7 a0_8).bind fun t335 => (if t335 = true then ((command_Clone.f bt321.1 bt321.2.1 bt321.2.2.1 bt321.2.2.2.1 bt321.2.2.2.2.1 bt321.2.2.2.2.2.1 bt321.2.2.2.2.2.2.1 bt321.2.2.2.2.2.2.2.1 bt321.2.2.2.2.2.2.2.2).bind fun bt336 => ((command_Decided.f k bt336.1 bt336.2.1 bt336.2.2.1 bt336.2.2.2.1 bt336.2.2.2.2.1 bt336.2.2.2.2.2.1 bt336.2.2.2.2.2.2.1 bt336.2.2.2.2.2.2.2.1 bt336.2.2.2.2.2.2.2.2 true).bind fun bt350 => (althinglaw05_CommandClones.l0 k (bt350.2.2.2.2.2.2.1.length : Int) 0 a0_0 a0_1 a0_2 a0_3 a0_4 a0_5 l0_6 l0_7 a0_8 a0_0 a0_1 a0_2 a0_3 a0_4 a0_5 y312 y318 a0_8 bt321.1 bt321.2.1 bt321.2.2.1 bt321.2.2.2.1 bt321.2.2.2.2.1 bt321.2.2.2.2.2.1 bt321.2.2.2.2.2.2.1 bt321.2.2.2.2.2.2.2.1 bt321.2.2.2.2.2.2.2.2 bt336.1 bt336.2.1 bt336.2.2.1 bt336.2.2.2.1 bt336.2.2.2.2.1 bt336.2.2.2.2.2.1 bt336.2.2.2.2.2.2.1 bt336.2.2.2.2.2.2.2.1 bt336.2.2.2.2.2.2.2.2 bt350.1 bt350.2.1 bt350.2.2.1 bt350.2.2.2.1 bt350.2.2.2.2.1 bt350.2.2.2.2.2.1 bt350.2.2.2.2.2.2.1 bt350.2.2.2.2.2.2.2.1 bt350.2.2.2.2.2.2.2.2.1))) else (none))))) else (none)))) else (none))) else ((althinglaw05_awake.f k).bind fun t307 => (some t307)))) = some r := by first | (rw [hy303]; with_reducible exact H) | (have H2_ := (Option.bind_some _ _).symm.trans H; rw [hy303]; with_reducible exact H2_) | (have H2_ := (Option.bind_some _ _).symm.trans H; with_reducible exact H2_) | with_reducible exact H | (rw [hy303]; exact H) | exact H
 have Ny303 := Aside0.mk hy303
 clear hy303
 obtain ⟨t306, A2, H⟩ := bs_ H
 by_cases c3 : t306 = true
 · subst c3
   rw [if_pos rfl] at H
   obtain ⟨y309, hy309⟩ : ∃ y_ : List (S38), y_ = (([] : List (S38))) := ⟨_, rfl⟩
   replace H : (if y309.length + l0_6.length < 4398046511104 then ((some (y309 ++ l0_6 : List (S38))).bind fun y312 => ((some (([] : List (S40)) : List (S40))).bind fun y315 => (if y315.length + l0_7.length < 4398046511104 then ((some (y315 ++ l0_7 : List (S40))).bind fun y318 => ((command_Clone.f a0_0 a0_1 a0_2 a0_3 a0_4 a0_5 y312 y318 a0_8).bind fun bt321 => ((althingref05_Same.f k bt321.1 bt321.2.1 bt321.2.2.1 bt321.2.2.2.1 bt321.2.2.2.2.1 bt321.2.2.2.2.2.1 bt321.2.2.2.2.2.2.1 bt321.2.2.2.2.2.2.2.1 bt321.2.2.2.2.2.2.2.2 a0_0 a0_1 a0_2 a0_3 a0_4 a0_5 l0_6 l0_7 a0_8).bind fun t335 => (if t335 = true then ((command_Clone.f bt321.1 bt321.2.1 bt321.2.2.1 bt321.2.2.2.1 bt321.2.2.2.2.1 bt321.2.2.2.2.2.1 bt321.2.2.2.2.2.2.1 bt321.2.2.2.2.2.2.2.1 bt321.2.2.2.2.2.2.2.2).bind fun bt336 => ((command_Decided.f k bt336.1 bt336.2.1 bt336.2.2.1 bt336.2.2.2.1 bt336.2.2.2.2.1 bt336.2.2.2.2.2.1 bt336.2.2.2.2.2.2.1 bt336.2.2.2.2.2.2.2.1 bt336.2.2.2.2.2.2.2.2 true).bind fun bt350 => (althinglaw05_CommandClones.l0 k (bt350.2.2.2.2.2.2.1.length : Int) 0 a0_0 a0_1 a0_2 a0_3 a0_4 a0_5 l0_6 l0_7 a0_8 a0_0 a0_1 a0_2 a0_3 a0_4 a0_5 y312 y318 a0_8 bt321.1 bt321.2.1 bt321.2.2.1 bt321.2.2.2.1 bt321.2.2.2.2.1 bt321.2.2.2.2.2.1 bt321.2.2.2.2.2.2.1 bt321.2.2.2.2.2.2.2.1 bt321.2.2.2.2.2.2.2.2 bt336.1 bt336.2.1 bt336.2.2.1 bt336.2.2.2.1 bt336.2.2.2.2.1 bt336.2.2.2.2.2.1 bt336.2.2.2.2.2.2.1 bt336.2.2.2.2.2.2.2.1 bt336.2.2.2.2.2.2.2.2 bt350.1 bt350.2.1 bt350.2.2.1 bt350.2.2.2.1 bt350.2.2.2.2.1 bt350.2.2.2.2.2.1 bt350.2.2.2.2.2.2.1 bt350.2.2.2.2.2.2.2.1 bt350.2.2.2.2.2.2.2.2.1))) else (none))))) else (none)))) else (none)) = some r := by first | (rw [hy309]; with_reducible exact H) | (have H2_ := (Option.bind_some _ _).symm.trans H; rw [hy309]; with_reducible exact H2_) | (have H2_ := (Option.bind_some _ _).symm.trans H; with_reducible exact H2_) | with_reducible exact H | (rw [hy309]; exact H) | exact H
   have Ny309 := Aside0.mk hy309
   clear hy309
   by_cases c4 : y309.length + l0_6.length < 4398046511104
   · rw [if_pos c4] at H
     have LMc4 := Aside0.mk c4
     clear c4
     obtain ⟨y312, hy312⟩ : ∃ y_ : List (S38), y_ = (y309 ++ l0_6) := ⟨_, rfl⟩
     replace H : ((some (([] : List (S40)) : List (S40))).bind fun y315 => (if y315.length + l0_7.length < 4398046511104 then ((some (y315 ++ l0_7 : List (S40))).bind fun y318 => ((command_Clone.f a0_0 a0_1 a0_2 a0_3 a0_4 a0_5 y312 y318 a0_8).bind fun bt321 => ((althingref05_Same.f k bt321.1 bt321.2.1 bt321.2.2.1 bt321.2.2.2.1 bt321.2.2.2.2.1 bt321.2.2.2.2.2.1 bt321.2.2.2.2.2.2.1 bt321.2.2.2.2.2.2.2.1 bt321.2.2.2.2.2.2.2.2 a0_0 a0_1 a0_2 a0_3 a0_4 a0_5 l0_6 l0_7 a0_8).bind fun t335 => (if t335 = true then ((command_Clone.f bt321.1 bt321.2.1 bt321.2.2.1 bt321.2.2.2.1 bt321.2.2.2.2.1 bt321.2.2.2.2.2.1 bt321.2.2.2.2.2.2.1 bt321.2.2.2.2.2.2.2.1 bt321.2.2.2.2.2.2.2.2).bind fun bt336 => ((command_Decided.f k bt336.1 bt336.2.1 bt336.2.2.1 bt336.2.2.2.1 bt336.2.2.2.2.1 bt336.2.2.2.2.2.1 bt336.2.2.2.2.2.2.1 bt336.2.2.2.2.2.2.2.1 bt336.2.2.2.2.2.2.2.2 true).bind fun bt350 => (althinglaw05_CommandClones.l0 k (bt350.2.2.2.2.2.2.1.length : Int) 0 a0_0 a0_1 a0_2 a0_3 a0_4 a0_5 l0_6 l0_7 a0_8 a0_0 a0_1 a0_2 a0_3 a0_4 a0_5 y312 y318 a0_8 bt321.1 bt321.2.1 bt321.2.2.1 bt321.2.2.2.1 bt321.2.2.2.2.1 bt321.2.2.2.2.2.1 bt321.2.2.2.2.2.2.1 bt321.2.2.2.2.2.2.2.1 bt321.2.2.2.2.2.2.2.2 bt336.1 bt336.2.1 bt336.2.2.1 bt336.2.2.2.1 bt336.2.2.2.2.1 bt336.2.2.2.2.2.1 bt336.2.2.2.2.2.2.1 bt336.2.2.2.2.2.2.2.1 bt336.2.2.2.2.2.2.2.2 bt350.1 bt350.2.1 bt350.2.2.1 bt350.2.2.2.1 bt350.2.2.2.2.1 bt350.2.2.2.2.2.1 bt350.2.2.2.2.2.2.1 bt350.2.2.2.2.2.2.2.1 bt350.2.2.2.2.2.2.2.2.1))) else (none))))) else (none))) = some r := by first | (rw [hy312]; with_reducible exact H) | (have H2_ := (Option.bind_some _ _).symm.trans H; rw [hy312]; with_reducible exact H2_) | (have H2_ := (Option.bind_some _ _).symm.trans H; with_reducible exact H2_) | with_reducible exact H | (rw [hy312]; exact H) | exact H
     have Ny312 := Aside0.mk hy312
     clear hy312
     obtain ⟨y315, hy315⟩ : ∃ y_ : List (S40), y_ = (([] : List (S40))) := ⟨_, rfl⟩
     replace H : (if y315.length + l0_7.length < 4398046511104 then ((some (y315 ++ l0_7 : List (S40))).bind fun y318 => ((command_Clone.f a0_0 a0_1 a0_2 a0_3 a0_4 a0_5 y312 y318 a0_8).bind fun bt321 => ((althingref05_Same.f k bt321.1 bt321.2.1 bt321.2.2.1 bt321.2.2.2.1 bt321.2.2.2.2.1 bt321.2.2.2.2.2.1 bt321.2.2.2.2.2.2.1 bt321.2.2.2.2.2.2.2.1 bt321.2.2.2.2.2.2.2.2 a0_0 a0_1 a0_2 a0_3 a0_4 a0_5 l0_6 l0_7 a0_8).bind fun t335 => (if t335 = true then ((command_Clone.f bt321.1 bt321.2.1 bt321.2.2.1 bt321.2.2.2.1 bt321.2.2.2.2.1 bt321.2.2.2.2.2.1 bt321.2.2.2.2.2.2.1 bt321.2.2.2.2.2.2.2.1 bt321.2.2.2.2.2.2.2.2).bind fun bt336 => ((command_Decided.f k bt336.1 bt336.2.1 bt336.2.2.1 bt336.2.2.2.1 bt336.2.2.2.2.1 bt336.2.2.2.2.2.1 bt336.2.2.2.2.2.2.1 bt336.2.2.2.2.2.2.2.1 bt336.2.2.2.2.2.2.2.2 true).bind fun bt350 => (althinglaw05_CommandClones.l0 k (bt350.2.2.2.2.2.2.1.length : Int) 0 a0_0 a0_1 a0_2 a0_3 a0_4 a0_5 l0_6 l0_7 a0_8 a0_0 a0_1 a0_2 a0_3 a0_4 a0_5 y312 y318 a0_8 bt321.1 bt321.2.1 bt321.2.2.1 bt321.2.2.2.1 bt321.2.2.2.2.1 bt321.2.2.2.2.2.1 bt321.2.2.2.2.2.2.1 bt321.2.2.2.2.2.2.2.1 bt321.2.2.2.2.2.2.2.2 bt336.1 bt336.2.1 bt336.2.2.1 bt336.2.2.2.1 bt336.2.2.2.2.1 bt336.2.2.2.2.2.1 bt336.2.2.2.2.2.2.1 bt336.2.2.2.2.2.2.2.1 bt336.2.2.2.2.2.2.2.2 bt350.1 bt350.2.1 bt350.2.2.1 bt350.2.2.2.1 bt350.2.2.2.2.1 bt350.2.2.2.2.2.1 bt350.2.2.2.2.2.2.1 bt350.2.2.2.2.2.2.2.1 bt350.2.2.2.2.2.2.2.2.1))) else (none))))) else (none)) = some r := by first | (rw [hy315]; with_reducible exact H) | (have H2_ := (Option.bind_some _ _).symm.trans H; rw [hy315]; with_reducible exact H2_) | (have H2_ := (Option.bind_some _ _).symm.trans H; with_reducible exact H2_) | with_reducible exact H | (rw [hy315]; exact H) | exact H
     have Ny315 := Aside0.mk hy315
     clear hy315
     by_cases c5 : y315.length + l0_7.length < 4398046511104
     · rw [if_pos c5] at H
       have LMc5 := Aside0.mk c5
       clear c5
       obtain ⟨y318, hy318⟩ : ∃ y_ : List (S40), y_ = (y315 ++ l0_7) := ⟨_, rfl⟩
       replace H : ((command_Clone.f a0_0 a0_1 a0_2 a0_3 a0_4 a0_5 y312 y318 a0_8).bind fun bt321 => ((althingref05_Same.f k bt321.1 bt321.2.1 bt321.2.2.1 bt321.2.2.2.1 bt321.2.2.2.2.1 bt321.2.2.2.2.2.1 bt321.2.2.2.2.2.2.1 bt321.2.2.2.2.2.2.2.1 bt321.2.2.2.2.2.2.2.2 a0_0 a0_1 a0_2 a0_3 a0_4 a0_5 l0_6 l0_7 a0_8).bind fun t335 => (if t335 = true then ((command_Clone.f bt321.1 bt321.2.1 bt321.2.2.1 bt321.2.2.2.1 bt321.2.2.2.2.1 bt321.2.2.2.2.2.1 bt321.2.2.2.2.2.2.1 bt321.2.2.2.2.2.2.2.1 bt321.2.2.2.2.2.2.2.2).bind fun bt336 => ((command_Decided.f k bt336.1 bt336.2.1 bt336.2.2.1 bt336.2.2.2.1 bt336.2.2.2.2.1 bt336.2.2.2.2.2.1 bt336.2.2.2.2.2.2.1 bt336.2.2.2.2.2.2.2.1 bt336.2.2.2.2.2.2.2.2 true).bind fun bt350 => (althinglaw05_CommandClones.l0 k (bt350.2.2.2.2.2.2.1.length : Int) 0 a0_0 a0_1 a0_2 a0_3 a0_4 a0_5 l0_6 l0_7 a0_8 a0_0 a0_1 a0_2 a0_3 a0_4 a0_5 y312 y318 a0_8 bt321.1 bt321.2.1 bt321.2.2.1 bt321.2.2.2.1 bt321.2.2.2.2.1 bt321.2.2.2.2.2.1 bt321.2.2.2.2.2.2.1 bt321.2.2.2.2.2.2.2.1 bt321.2.2.2.2.2.2.2.2 bt336.1 bt336.2.1 bt336.2.2.1 bt336.2.2.2.1 bt336.2.2.2.2.1 bt336.2.2.2.2.2.1 bt336.2.2.2.2.2.2.1 bt336.2.2.2.2.2.2.2.1 bt336.2.2.2.2.2.2.2.2 bt350.1 bt350.2.1 bt350.2.2.1 bt350.2.2.2.1 bt350.2.2.2.2.1 bt350.2.2.2.2.2.1 bt350.2.2.2.2.2.2.1 bt350.2.2.2.2.2.2.2.1 bt350.2.2.2.2.2.2.2.2.1))) else (none)))) = some r := by first | (rw [hy318]; with_reducible exact H) | (have H2_ := (Option.bind_some _ _).symm.trans H; rw [hy318]; with_reducible exact H2_) | (have H2_ := (Option.bind_some _ _).symm.trans H; with_reducible exact H2_) | with_reducible exact H | (rw [hy318]; exact H) | exact H
       have Ny318 := Aside0.mk hy318
       clear hy318
       replace H := Option.bind_eq_some_iff.mp H
       obtain ⟨⟨t321, t322, t323, t324, t325, t326, t327, t330, t333⟩, A60, H⟩ := H
       replace H : ((althingref05_Same.f k t321 t322 t323 t324 t325 t326 t327 t330 t333 a0_0 a0_1 a0_2 a0_3 a0_4 a0_5 l0_6 l0_7 a0_8).bind fun t335 => (if t335 = true then ((command_Clone.f t321 t322 t323 t324 t325 t326 t327 t330 t333).bind fun bt336 => ((command_Decided.f k bt336.1 bt336.2.1 bt336.2.2.1 bt336.2.2.2.1 bt336.2.2.2.2.1 bt336.2.2.2.2.2.1 bt336.2.2.2.2.2.2.1 bt336.2.2.2.2.2.2.2.1 bt336.2.2.2.2.2.2.2.2 true).bind fun bt350 => (althinglaw05_CommandClones.l0 k (bt350.2.2.2.2.2.2.1.length : Int) 0 a0_0 a0_1 a0_2 a0_3 a0_4 a0_5 l0_6 l0_7 a0_8 a0_0 a0_1 a0_2 a0_3 a0_4 a0_5 y312 y318 a0_8 t321 t322 t323 t324 t325 t326 t327 t330 t333 bt336.1 bt336.2.1 bt336.2.2.1 bt336.2.2.2.1 bt336.2.2.2.2.1 bt336.2.2.2.2.2.1 bt336.2.2.2.2.2.2.1 bt336.2.2.2.2.2.2.2.1 bt336.2.2.2.2.2.2.2.2 bt350.1 bt350.2.1 bt350.2.2.1 bt350.2.2.2.1 bt350.2.2.2.2.1 bt350.2.2.2.2.2.1 bt350.2.2.2.2.2.2.1 bt350.2.2.2.2.2.2.2.1 bt350.2.2.2.2.2.2.2.2.1))) else (none))) = some r := H
       have A6 := Aside0.mk A60
       clear A60
       obtain ⟨t335, A7, H⟩ := bs_ H
       by_cases c8 : t335 = true
       · subst c8
         rw [if_pos rfl] at H
         replace H := Option.bind_eq_some_iff.mp H
         obtain ⟨⟨t336, t337, t338, t339, t340, t341, t342, t345, t348⟩, A90, H⟩ := H
         replace H : ((command_Decided.f k t336 t337 t338 t339 t340 t341 t342 t345 t348 true).bind fun bt350 => (althinglaw05_CommandClones.l0 k (bt350.2.2.2.2.2.2.1.length : Int) 0 a0_0 a0_1 a0_2 a0_3 a0_4 a0_5 l0_6 l0_7 a0_8 a0_0 a0_1 a0_2 a0_3 a0_4 a0_5 y312 y318 a0_8 t321 t322 t323 t324 t325 t326 t327 t330 t333 t336 t337 t338 t339 t340 t341 t342 t345 t348 bt350.1 bt350.2.1 bt350.2.2.1 bt350.2.2.2.1 bt350.2.2.2.2.1 bt350.2.2.2.2.2.1 bt350.2.2.2.2.2.2.1 bt350.2.2.2.2.2.2.2.1 bt350.2.2.2.2.2.2.2.2.1)) = some r := H
         have A9 := Aside0.mk A90
         clear A90
         replace H := Option.bind_eq_some_iff.mp H
         obtain ⟨⟨t350, t351, t352, t353, t354, t355, t356, t359, t362, t363⟩, A100, H⟩ := H
         replace H : (althinglaw05_CommandClones.l0 k (t356.length : Int) 0 a0_0 a0_1 a0_2 a0_3 a0_4 a0_5 l0_6 l0_7 a0_8 a0_0 a0_1 a0_2 a0_3 a0_4 a0_5 y312 y318 a0_8 t321 t322 t323 t324 t325 t326 t327 t330 t333 t336 t337 t338 t339 t340 t341 t342 t345 t348 t350 t351 t352 t353 t354 t355 t356 t359 t362) = some r := H
         have A10 := Aside0.mk A100
         clear A100
         have H' := Aside0.mk H
         clear H
         go_enter Try.func3, Try.ntmps3
         try go_wp2_with (first | ((with_reducible refine gate_dst (N := 1) rfl ?_); refine box_event ?hg (N := 1) ?hd (cs := #[.int .i64 a0_0, .int .i64 a0_1, .int .i64 a0_2, .int .i64 a0_3, .int .i64 a0_4, .int .i64 a0_5, .slice A0_6 l0_6.length c0_6, .slice A0_7 l0_7.length c0_7, .bool a0_8]) (t := 29) ?hr ?_; (case hd => rfl); (case hg => rfl); (case hr => first | (go_simp; done) | (go_simp; rfl)); intro gb302 hg w11 hbox hb; have n0_ := Aside0.mk (Kd.V_below (Kd.V_elderB (kv_ HO0_6.out) gb302 (Nat.le_of_eq hg.symm)) hb); have n1_ := Aside0.mk (Kd.V_below (Kd.V_elderB (kv_ HO0_7.out) gb302 (Nat.le_of_eq hg.symm)) hb); have n2_ := Aside0.mk (below_step lb_ hb); have n3_ := Aside0.mk (hbox); have n4_ := Aside0.mk ((by rw [hg]; exact (below_size lb_) : w.heap.size ≤ gb302)); have n5_ := Aside0.mk ((by rw [hg]; exact (below_size lb_) : w.heap.size ≤ gb302)); clear HO0_6; clear HO0_7; clear HB; have HO0_6 := n0_; have HO0_7 := n1_; have HB := n2_; have BK302 := n3_; have GW302 := n4_; have GE302 := n5_; clear n0_ n1_ n2_ n3_ n4_ n5_; clear hb hbox hg) | ((with_reducible refine gate_dst (N := 11) rfl ?_); refine blk_load_event ?lg (N := 11) ?ld (t := 29) (x := ?lxxz12) ?lo (g := gb302) ?lx (cs := _) BK302.out ?lD ?lt ?_; (case lg => rfl); (case ld => rfl); (case lo => rfl); (case lx => first | rfl | (go_simp; done) | (go_simp; rfl)); (case lD => exact ⟨_, Try.underlying29, rfl⟩); (case lt => kernel_rfl)) | ((with_reducible refine gate_dst (N := 12) rfl ?_); refine Kd.N_lit k29 _ 29 ?hg (N' := 12) ?hd (xs := ([(⟨a0_0, (⟨a0_1, a0_2⟩ : S23), (⟨a0_3, a0_4⟩ : S25), a0_5, l0_6, l0_7, a0_8⟩ : S29)] : List (S29))) (inner := [.int .i64 a0_0, .int .i64 a0_1, .int .i64 a0_2, .int .i64 a0_3, .int .i64 a0_4, .int .i64 a0_5, .slice A0_6 l0_6.length c0_6, .slice A0_7 l0_7.length c0_7, .bool a0_8]) (ok := (fun k_ => ((P0_6_ k_ ∨ P0_7_ k_) ∨ w.heap.size ≤ k_) ∧ k_ ≠ gb302)) (okp := (fun k_ => ((P0_6_ k_ ∨ P0_7_ k_) ∨ w.heap.size ≤ k_) ∧ k_ ≠ gb302)) ?hr ?hp (fun _ hk => hk) ((show ∀ k_, w11.heap.size ≤ k_ → (fun k_ => ((P0_6_ k_ ∨ P0_7_ k_) ∨ w.heap.size ≤ k_) ∧ k_ ≠ gb302) k_ from fun k_ hk => ⟨(.inr (Nat.le_trans (below_size (by repeat (first | (with_reducible first | exact HB.out | apply below_alloc | apply pw_below_drewN | apply below_drew1 | refine below_set ?_ GE302.out) | exact HB.out))) hk)), Kd.freshB (g := gb302) (o := .cells #[.int .i64 a0_0, .int .i64 a0_1, .int .i64 a0_2, .int .i64 a0_3, .int .i64 a0_4, .int .i64 a0_5, .slice A0_6 l0_6.length c0_6, .slice A0_7 l0_7.length c0_7, .bool a0_8] 29 (0, 0)) (kb_ BK302.out) k_ hk⟩) _ (Nat.le_refl _)) (Below.refl _ _) (Nat.le_refl _) (by simp) ?_; (case hd => rfl); (case hg => rfl); (case hr => first | (go_simp; done) | (go_simp; rfl)); (case hp => exact (Reps.c9 (show Kd.FK k29 _ _ (⟨a0_0, (⟨a0_1, a0_2⟩ : S23), (⟨a0_3, a0_4⟩ : S25), a0_5, l0_6, l0_7, a0_8⟩ : S29) [.int .i64 a0_0, .int .i64 a0_1, .int .i64 a0_2, .int .i64 a0_3, .int .i64 a0_4, .int .i64 a0_5, .slice A0_6 l0_6.length c0_6, .slice A0_7 l0_7.length c0_7, .bool a0_8] from (k29_mkF _ _ (⟨a0_0, (⟨a0_1, a0_2⟩ : S23), (⟨a0_3, a0_4⟩ : S25), a0_5, l0_6, l0_7, a0_8⟩ : S29) (Kd.V_reads' (Kd.V_mono (ok' := (fun k_ => ((P0_6_ k_ ∨ P0_7_ k_) ∨ w.heap.size ≤ k_) ∧ k_ ≠ gb302)) (HO0_6.out) (fun k_ hk => ⟨hk.1, hk.2⟩))).2.1 (Kd.V_F (Kd.V_mono (ok' := (fun k_ => ((P0_6_ k_ ∨ P0_7_ k_) ∨ w.heap.size ≤ k_) ∧ k_ ≠ gb302)) (HO0_6.out) (fun k_ hk => ⟨hk.1, hk.2⟩))) (Kd.V_reads' (Kd.V_mono (ok' := (fun k_ => ((P0_6_ k_ ∨ P0_7_ k_) ∨ w.heap.size ≤ k_) ∧ k_ ≠ gb302)) (HO0_7.out) (fun k_ hk => ⟨hk.1, hk.2⟩))).2.1 (Kd.V_F (Kd.V_mono (ok' := (fun k_ => ((P0_6_ k_ ∨ P0_7_ k_) ∨ w.heap.size ≤ k_) ∧ k_ ≠ gb302)) (HO0_7.out) (fun k_ hk => ⟨hk.1, hk.2⟩))))) (Reps.none _ _))); intro v304 w13 ho14 hb hg_ hnew_; clear hg_ hnew_; (first | rw [← Ny303.out] at ho14 | (simp only [Int.reduceToNat] at ho14; rw [← Ny303.out] at ho14)); have n0_ := Aside0.mk (Kd.V_elder' (kv_ HO0_6.out) (Kd.N_base ho14) hb); have n1_ := Aside0.mk (Kd.V_elder' (kv_ HO0_7.out) (Kd.N_base ho14) hb); have n2_ := Aside0.mk (Kd.N_lower ho14 (below_size (by repeat (first | (with_reducible first | exact HB.out | apply below_alloc | apply pw_below_drewN | apply below_drew1 | refine below_set ?_ GE302.out) | exact HB.out)))); have n3_ := Aside0.mk (blk_below (kb_ BK302.out) hb); have n4_ := Aside0.mk (below_step (by repeat (first | (with_reducible first | exact HB.out | apply below_alloc | apply pw_below_drewN | apply below_drew1 | refine below_set ?_ GE302.out) | exact HB.out)) hb); clear HO0_6; clear HO0_7; clear BK302; clear HB; have HO0_6 := n0_; have HO0_7 := n1_; have HO305 := n2_; have BK302 := n3_; have HB := n4_; clear n0_ n1_ n2_ n3_ n4_; clear hb ho14; obtain ⟨Ao15, co15, eo15⟩ := Kd.N_slice HO305.out; subst eo15) | ((with_reducible refine gate_callee (f := 8) rfl ?_); refine goesL_ (some 13) rfl rfl Try.func8 (by kernel_rfl) rfl #[.slice Ao15 y303.length co15] rfl (by (try simp only [List.map_toArray, List.map_cons, List.map_nil]); first | done | rfl | (simp only [List.length_drop, List.length_take]; rfl)) ?_; (with_reducible refine (althinglaw05_Few.calls k _ _ y303 true _ ?side1 ?side2 A2.out).mono ?_); (case side1 => repeat (first | exact (Kd.N_reads' HO305.out).2.2 | (with_reducible refine Kd.C_alloc ?_ _) | (with_reducible refine Kd.C_drewN ?_ _) | (with_reducible refine Kd.C_drew ?_))); (case side2 => exact (Kd.N_reads' HO305.out).2.1); rintro e w16 ⟨rfl, hb⟩; refine ⟨_, rfl, ?_⟩; have n0_ := Aside0.mk (Kd.V_below (kv_ HO0_6.out) hb); have n1_ := Aside0.mk (Kd.V_below (kv_ HO0_7.out) hb); have n2_ := Aside0.mk (Kd.N_below (kn_ HO305.out) hb); have n3_ := Aside0.mk (blk_below (kb_ BK302.out) hb); have n4_ := Aside0.mk (below_step (by repeat (first | (with_reducible first | exact HB.out | apply below_alloc | apply pw_below_drewN | apply below_drew1 | refine below_set ?_ GE302.out) | exact HB.out)) hb); clear HO0_6; clear HO0_7; clear HO305; clear BK302; clear HB; have HO0_6 := n0_; have HO0_7 := n1_; have HO305 := n2_; have BK302 := n3_; have HB := n4_; clear n0_ n1_ n2_ n3_ n4_; (try clear hb); (try clear hb2); (try clear hk); (try clear hi)) | ((with_reducible refine gate_dst (N := 16) rfl ?_); refine blk_load_event ?lg (N := 16) ?ld (t := 29) (x := ?lxxz17) ?lo (g := gb302) ?lx (cs := _) BK302.out ?lD ?lt ?_; (case lg => rfl); (case ld => rfl); (case lo => rfl); (case lx => first | rfl | (go_simp; done) | (go_simp; rfl)); (case lD => exact ⟨_, Try.underlying29, rfl⟩); (case lt => kernel_rfl)) | ((with_reducible refine gate_dst (N := 3) rfl ?_); refine alloc_store_event ?hg1 (N := 3) ?hd1 ?hg2 ?hd2 ?ho2 (cs0 := #[.int .i64 0, .int .i64 0, .int .i64 0, .int .i64 0, .int .i64 0, .int .i64 0, .slice none 0 0, .slice none 0 0, .bool false]) (cs := #[.int .i64 a0_0, .int .i64 a0_1, .int .i64 a0_2, .int .i64 a0_3, .int .i64 a0_4, .int .i64 a0_5, .slice A0_6 l0_6.length c0_6, .slice A0_7 l0_7.length c0_7, .bool a0_8]) (t := 29) (x := ?xxw18) ?hr ?hp ?hx ?hs ?h1 ?ht ?_; (case hg1 => rfl); (case hd1 => rfl); (case hg2 => rfl); (case hd2 => rfl); (case ho2 => rfl); (case hr => first | (go_simp; done) | (go_simp; rfl)); (case hp => rfl); (case hx => rfl); (case hs => rfl); (case h1 => rfl); (case ht => kernel_rfl); intro gb308 hg w18 hbox hb; have n0_ := Aside0.mk (Kd.V_below (Kd.V_elderB (kv_ HO0_6.out) gb308 (Nat.le_of_eq hg.symm)) hb); have n1_ := Aside0.mk (Kd.V_below (Kd.V_elderB (kv_ HO0_7.out) gb308 (Nat.le_of_eq hg.symm)) hb); have n2_ := Aside0.mk (Kd.N_below (Kd.N_elderB (kn_ HO305.out) gb308 (Nat.le_of_eq hg.symm)) hb); have n3_ := Aside0.mk (blk_below (kb_ BK302.out) hb); have n4_ := Aside0.mk (below_step (by repeat (first | (with_reducible first | exact HB.out | apply below_alloc | apply pw_below_drewN | apply below_drew1 | refine below_set ?_ GE302.out) | exact HB.out)) hb); have n5_ := Aside0.mk (hbox); have n6_ := Aside0.mk ((by rw [hg]; exact (below_size (by repeat (first | (with_reducible first | exact HB.out | apply below_alloc | apply pw_below_drewN | apply below_drew1 | refine below_set ?_ GE302.out) | exact HB.out))) : w.heap.size ≤ gb308)); have n7_ := Aside0.mk ((by rw [hg]; exact (below_size (by repeat (first | (with_reducible first | exact HB.out | apply below_alloc | apply pw_below_drewN | apply below_drew1 | refine below_set ?_ GE302.out) | exact HB.out))) : w.heap.size ≤ gb308)); have n8_ := Aside0.mk ((by rw [hg]; exact Nat.ne_of_lt (blk_lt (kb_ BK302.out)) : gb302 ≠ gb308)); have n9_ := Aside0.mk ((by rw [hg]; exact Nat.ne_of_gt (blk_lt (kb_ BK302.out)) : gb308 ≠ gb302)); clear HO0_6; clear HO0_7; clear HO305; clear BK302; clear HB; have HO0_6 := n0_; have HO0_7 := n1_; have HO305 := n2_; have BK302 := n3_; have HB := n4_; have BK308 := n5_; have GW308 := n6_; have GE308 := n7_; have NB302_308 := n8_; have NB308_302 := n9_; clear n0_ n1_ n2_ n3_ n4_ n5_ n6_ n7_ n8_ n9_; clear hb hbox hg))
         have n0_ := Aside0.mk (Kd.V_drew HO0_6.out)
         have n1_ := Aside0.mk (Kd.V_drew HO0_7.out)
         have n2_ := Aside0.mk (Kd.N_drew HO305.out)
         have n3_ := Aside0.mk (blk_drew BK302.out)
         have n4_ := Aside0.mk (blk_drew BK308.out)
         have n5_ := Aside0.mk (below_drew1 HB.out)
         clear HO0_6
         clear HO0_7
         clear HO305
         clear BK302
         clear BK308
         clear HB
         have HO0_6 := n0_
         have HO0_7 := n1_
         have HO305 := n2_
         have BK302 := n3_
         have BK308 := n4_
         have HB := n5_
         clear n0_ n1_ n2_ n3_ n4_ n5_
         refine start_ (n := 12) (S := fun w' => w'.cell? ⟨gb302, 0, none⟩ = some (.int .i64 a0_0) ∧ w'.cell? ⟨gb302, 1, none⟩ = some (.int .i64 a0_1) ∧ w'.cell? ⟨gb302, 2, none⟩ = some (.int .i64 a0_2) ∧ w'.cell? ⟨gb302, 3, none⟩ = some (.int .i64 a0_3) ∧ w'.cell? ⟨gb302, 4, none⟩ = some (.int .i64 a0_4) ∧ w'.cell? ⟨gb302, 5, none⟩ = some (.int .i64 a0_5) ∧ w'.cell? ⟨gb302, 6, none⟩ = some (.slice A0_6 l0_6.length c0_6) ∧ w'.cell? ⟨gb302, 7, none⟩ = some (.slice A0_7 l0_7.length c0_7) ∧ w'.cell? ⟨gb302, 8, none⟩ = some (.bool a0_8)) (ds := []) #[false, false, false, false, false, false, false, false, false, false, false, false] (by kernel_rfl) rfl rfl ⟨(blk_cell BK302.out 0).trans rfl, (blk_cell BK302.out 1).trans rfl, (blk_cell BK302.out 2).trans rfl, (blk_cell BK302.out 3).trans rfl, (blk_cell BK302.out 4).trans rfl, (blk_cell BK302.out 5).trans rfl, (blk_cell BK302.out 6).trans rfl, (blk_cell BK302.out 7).trans rfl, (blk_cell BK302.out 8).trans rfl⟩ (fun hHeld => ?_); refine with_tabW althinglaw05_CommandClones.tab4 althinglaw05_CommandClones.bits4 (fun HT_ HW_ => ?_)
         generalize w18.drew = w19 at HO0_6 HO0_7 HO305 BK302 BK308 HB hHeld ⊢
         refine pure_ (i := 1) (N := some 18) (v := ?_) (a' := ?_) #[false, true, false, false, false, false, false, false, false, false, false, false] rfl rfl (any_of HT_.out (by kernel_rfl)) (fun _ _ _ h => h) (Or.inl ⟨by rfl, ?_⟩) ?_ ?_
         rotate_left
         · intro w'
           go_simp
           with_reducible rfl
         rotate_left
         · simp only [Act.put, List.setIfInBounds_toArray, List.set_cons_zero, List.set_cons_succ, i64_w, i32_w]
           rfl
         refine pure_ (i := 5) (N := some 22) (v := ?_) (a' := ?_) #[false, true, false, false, false, true, false, false, false, false, false, false] rfl rfl (any_of HT_.out (by kernel_rfl)) (fun _ _ _ h => h) (Or.inl ⟨by rfl, ?_⟩) ?_ ?_
         rotate_left
         · intro w'
           go_simp
           with_reducible rfl
         rotate_left
         · simp only [Act.put, List.setIfInBounds_toArray, List.set_cons_zero, List.set_cons_succ, i64_w, i32_w]
           rfl
         refine take_ (i := 2) (N := some 19) (v := ?_) (a' := ?_) #[false, true, true, false, false, true, false, false, false, false, false, false] rfl rfl (take_ofW HT_.out HW_.out (by kernel_rfl)) (fun _ _ _ h => h) (Or.inl ⟨by rfl, ?_⟩) hHeld ?_ ?_
         rotate_left
         · rintro w' ⟨s0, s1, s2, s3, s4, s5, s6, s7, s8⟩
           go_simp
           with_reducible rfl
         rotate_left
         · simp only [Act.put, List.setIfInBounds_toArray, List.set_cons_zero, List.set_cons_succ, i64_w, i32_w]
           rfl
         refine take_ (i := 6) (N := some 23) (v := ?_) (a' := ?_) #[false, true, true, false, false, true, true, false, false, false, false, false] rfl rfl (take_ofW HT_.out HW_.out (by kernel_rfl)) (fun _ _ _ h => h) (Or.inl ⟨by rfl, ?_⟩) hHeld ?_ ?_
         rotate_left
         · rintro w' ⟨s0, s1, s2, s3, s4, s5, s6, s7, s8⟩
           go_simp
           with_reducible rfl
         rotate_left
         · simp only [Act.put, List.setIfInBounds_toArray, List.set_cons_zero, List.set_cons_succ, i64_w, i32_w]
           rfl
         refine join_ (σ := Value × Value × Value) 4 #[true, true, true, true, true, true, true, false, true, false, false, false] (fun s_ => [(17, s_.1), (20, s_.2.1), (21, s_.2.2), (25, .pointer (some ⟨gb308, 6, none⟩))]) (fun s_ w' => (w'.cell? ⟨gb302, 0, none⟩ = some (.int .i64 a0_0) ∧ w'.cell? ⟨gb302, 1, none⟩ = some (.int .i64 a0_1) ∧ w'.cell? ⟨gb302, 2, none⟩ = some (.int .i64 a0_2) ∧ w'.cell? ⟨gb302, 3, none⟩ = some (.int .i64 a0_3) ∧ w'.cell? ⟨gb302, 4, none⟩ = some (.int .i64 a0_4) ∧ w'.cell? ⟨gb302, 5, none⟩ = some (.int .i64 a0_5) ∧ w'.cell? ⟨gb302, 6, none⟩ = some (.slice A0_6 l0_6.length c0_6) ∧ w'.cell? ⟨gb302, 7, none⟩ = some (.slice A0_7 l0_7.length c0_7) ∧ w'.cell? ⟨gb302, 8, none⟩ = some (.bool a0_8)) ∧ (Kd.V k38 38 w' w.heap.size (fun k_ => ((P0_6_ k_ ∨ P0_7_ k_) ∨ w.heap.size ≤ k_) ∧ some k_ ≠ (.slice Ao15 y303.length co15 : Value).ownBlock ∧ some k_ ≠ (s_.2.1 : Value).ownBlock ∧ some k_ ≠ (s_.2.2 : Value).ownBlock ∧ k_ ≠ gb302 ∧ k_ ≠ gb308) (.slice A0_6 l0_6.length c0_6) l0_6) ∧ (Kd.V k40 40 w' w.heap.size (fun k_ => ((P0_6_ k_ ∨ P0_7_ k_) ∨ w.heap.size ≤ k_) ∧ some k_ ≠ (.slice Ao15 y303.length co15 : Value).ownBlock ∧ some k_ ≠ (s_.2.1 : Value).ownBlock ∧ some k_ ≠ (s_.2.2 : Value).ownBlock ∧ k_ ≠ gb302 ∧ k_ ≠ gb308) (.slice A0_7 l0_7.length c0_7) l0_7) ∧ (Kd.N k29 29 w' w.heap.size (fun k_ => ((P0_6_ k_ ∨ P0_7_ k_) ∨ w.heap.size ≤ k_) ∧ some k_ ≠ (s_.2.1 : Value).ownBlock ∧ some k_ ≠ (s_.2.2 : Value).ownBlock ∧ k_ ≠ gb302 ∧ k_ ≠ gb308) (.slice Ao15 y303.length co15) y303) ∧ (Kd.R k38 38 w' w.heap.size (fun k_ => (w.heap.size ≤ k_)) s_.2.1 y312) ∧ (Kd.R k40 40 w' w.heap.size (fun k_ => (w.heap.size ≤ k_)) s_.2.2 y315) ∧ (w'.heap[gb302]? = some (.cells #[.int .i64 a0_0, .int .i64 a0_1, .int .i64 a0_2, .int .i64 a0_3, .int .i64 a0_4, .int .i64 a0_5, .slice A0_6 l0_6.length c0_6, .slice A0_7 l0_7.length c0_7, .bool a0_8] 29 (0, 0))) ∧ (w'.heap[gb308]? = some (.cells #[.int .i64 a0_0, .int .i64 a0_1, .int .i64 a0_2, .int .i64 a0_3, .int .i64 a0_4, .int .i64 a0_5, .slice A0_6 l0_6.length c0_6, .slice A0_7 l0_7.length c0_7, .bool a0_8] 29 (0, 0))) ∧ (Below w.heap.size w w')) ?_ ?_
         rotate_left
         · intro hCont
           refine two_ (i := 0) (j := 4) (Ni := some 17) (Nj := some 21) #[true, true, true, false, false, true, true, false, false, false, false, false] #[false, true, true, false, true, true, true, false, false, false, false, false] rfl rfl rfl rfl (two_of HT_.out (by kernel_rfl)) (by decide) (by decide) (fun K hK => ?_) (fun K hK => ?_)
           · skip
             refine Kd.R_lit_step k38 _ 38 ?hg (N := 17) ?hd (xs := ([] : List (S38))) (inner := []) (ok := fun _ => True) (okp := fun _ => True) ?hr ?hp (fun _ hk => hk) trivial (Below.refl _ _) (Nat.le_refl _) (by simp) ?_; (case hd => rfl); (case hg => rfl); (case hr => first | (go_simp; done) | (go_simp; rfl)); (case hp => exact (Reps.none _ _))
             intro v310 w20 ho21 hb hg_ hnew_
             clear hg_ hnew_
             (first | rw [← Ny309.out] at ho21 | (simp only [Int.reduceToNat] at ho21; rw [← Ny309.out] at ho21))
             have n0_ := Aside0.mk (Kd.V_elder' (kv_ HO0_6.out) (Kd.R_base ho21) hb)
             have n1_ := Aside0.mk (Kd.V_elder' (kv_ HO0_7.out) (Kd.R_base ho21) hb)
             have n2_ := Aside0.mk (Kd.N_elder' (kn_ HO305.out) (Kd.R_base ho21) hb)
             have n3_ := Aside0.mk (Kd.R_lower (Kd.R_newM (M := fun k_ => (w.heap.size ≤ k_)) ho21 (below_size (by repeat (first | (with_reducible first | exact HB.out | apply below_alloc | apply pw_below_drewN | apply below_drew1 | refine below_set ?_ GE302.out | refine below_set ?_ GE308.out) | exact HB.out))) (fun k_ h_ => h_)) (below_size (by repeat (first | (with_reducible first | exact HB.out | apply below_alloc | apply pw_below_drewN | apply below_drew1 | refine below_set ?_ GE302.out | refine below_set ?_ GE308.out) | exact HB.out))))
             have n4_ := Aside0.mk (blk_below (kb_ BK302.out) hb)
             have n5_ := Aside0.mk (blk_below (kb_ BK308.out) hb)
             have n6_ := Aside0.mk (below_step (by repeat (first | (with_reducible first | exact HB.out | apply below_alloc | apply pw_below_drewN | apply below_drew1 | refine below_set ?_ GE302.out | refine below_set ?_ GE308.out) | exact HB.out)) hb)
             clear HO0_6
             clear HO0_7
             clear HO305
             clear BK302
             clear BK308
             clear HB
             have HO0_6 := n0_
             have HO0_7 := n1_
             have HO305 := n2_
             have HO311 := n3_
             have BK302 := n4_
             have BK308 := n5_
             have HB := n6_
             clear n0_ n1_ n2_ n3_ n4_ n5_ n6_
             clear hb ho21
             refine hK.out _ _ ⟨(blk_cell BK302.out 0).trans rfl, (blk_cell BK302.out 1).trans rfl, (blk_cell BK302.out 2).trans rfl, (blk_cell BK302.out 3).trans rfl, (blk_cell BK302.out 4).trans rfl, (blk_cell BK302.out 5).trans rfl, (blk_cell BK302.out 6).trans rfl, (blk_cell BK302.out 7).trans rfl, (blk_cell BK302.out 8).trans rfl⟩ (fun hHeld => ?_)
             clear hK K
             refine norm_ (a' := ?_) ?_ ?_
             rotate_left
             · show Act.put _ (some 17) _ = _
               simp only [Act.put, List.setIfInBounds_toArray, List.set_cons_zero, List.set_cons_succ, i64_w, i32_w]
               rfl
             refine two_ (i := 3) (j := 4) (Ni := some 20) (Nj := some 21) #[true, true, true, true, false, true, true, false, false, false, false, false] #[true, true, true, false, true, true, true, false, false, false, false, false] rfl rfl rfl rfl (two_of HT_.out (by kernel_rfl)) (by decide) (by decide) (fun K hK => ?_) (fun K hK => ?_)
             · skip
               refine Kd.R_append_rows_step k38 (w0 := w) w.heap.size (by rfl) (.tmp 17) (.tmp 19) 26 38 (.agg #[(.string ⟨#[]⟩), (.int .i64 0), (.int .i64 0)]) 32 rfl Try.underlying26 info38 rfl (by decide) (by omega) v310 y309 l0_6 _ _ _ (fun k_ => (w.heap.size ≤ k_)) (fun _ => False) rfl rfl ?aO ?aR (fun _ _ h => h) (fun _ h => h.elim) ?aF ?aB ?aS ?aL ?_
               (case aR => repeat (first | exact (Kd.V_reads' HO0_6.out).2.2 | (with_reducible refine Kd.C_alloc ?_ _) | (with_reducible refine Kd.C_drewN ?_ _) | (with_reducible refine Kd.C_drew ?_)))
               (case aB => exact (by repeat (first | (with_reducible first | exact HB.out | apply below_alloc | apply pw_below_drewN | apply below_drew1 | refine below_set ?_ GE302.out | refine below_set ?_ GE308.out) | exact HB.out)))
               (case aF => exact (fun k_ hk => (Nat.le_trans (below_size (by repeat (first | (with_reducible first | exact HB.out | apply below_alloc | apply pw_below_drewN | apply below_drew1 | refine below_set ?_ GE302.out | refine below_set ?_ GE308.out) | exact HB.out))) hk)))
               (case aO => exact (by (with_reducible repeat (first | apply Kd.R_alloc | apply Kd.R_drewN | apply Kd.R_drew)); exact Kd.R_mono HO311.out (fun _ hk => hk.1)))
               (case aS => exact (below_size (by repeat (first | (with_reducible first | exact HB.out | apply below_alloc | apply pw_below_drewN | apply below_drew1 | refine below_set ?_ GE302.out | refine below_set ?_ GE308.out) | exact HB.out))))
               (case aL => have := LMc4.out; omega)
               intro v313 w22 ho hb hg hat
               rw [← Ny312.out] at ho
               have n0_ := Aside0.mk (Kd.V_afterv (ok := (fun k_ => ((P0_6_ k_ ∨ P0_7_ k_) ∨ w.heap.size ≤ k_) ∧ some k_ ≠ (.slice Ao15 y303.length co15 : Value).ownBlock ∧ k_ ≠ gb302 ∧ k_ ≠ gb308)) (by (with_reducible repeat (first | apply Kd.V_alloc | apply Kd.V_drewN | apply Kd.V_drew)); exact Kd.V_mono HO0_6.out (fun _ hk => ⟨⟨hk.1.1.1.1, ⟨hk.1.1.2, ⟨hk.1.1.1.2, hk.1.2⟩⟩⟩, hk.2⟩)) hg hat)
               have n1_ := Aside0.mk (Kd.V_afterv (ok := (fun k_ => ((P0_6_ k_ ∨ P0_7_ k_) ∨ w.heap.size ≤ k_) ∧ some k_ ≠ (.slice Ao15 y303.length co15 : Value).ownBlock ∧ k_ ≠ gb302 ∧ k_ ≠ gb308)) (by (with_reducible repeat (first | apply Kd.V_alloc | apply Kd.V_drewN | apply Kd.V_drew)); exact Kd.V_mono HO0_7.out (fun _ hk => ⟨⟨hk.1.1.1.1, ⟨hk.1.1.2, ⟨hk.1.1.1.2, hk.1.2⟩⟩⟩, hk.2⟩)) hg hat)
               have n2_ := Aside0.mk (blk_grown (kb_ BK302.out) hg (Kd.R_ne HO311.out BK302.out (by decide)))
               have n3_ := Aside0.mk (Kd.N_afterv (ok := (fun k_ => ((P0_6_ k_ ∨ P0_7_ k_) ∨ w.heap.size ≤ k_) ∧ k_ ≠ gb302 ∧ k_ ≠ gb308)) (by (with_reducible repeat (first | apply Kd.N_alloc | apply Kd.N_drewN | apply Kd.N_drew)); exact Kd.N_mono HO305.out (fun _ hk => ⟨⟨hk.1.1.1, ⟨hk.1.1.2, hk.1.2⟩⟩, hk.2⟩)) hg hat)
               have n4_ := Aside0.mk (blk_grown (kb_ BK308.out) hg (Kd.R_ne HO311.out BK308.out (by decide)))
               have n5_ := Aside0.mk (hb)
               have n6_ := Aside0.mk (ho)
               clear HO0_6
               clear HO0_7
               clear BK302
               clear HO305
               clear BK308
               clear HB
               clear HO311
               have HO0_6 := n0_
               have HO0_7 := n1_
               have BK302 := n2_
               have HO305 := n3_
               have BK308 := n4_
               have HB := n5_
               have HO314 := n6_
               clear n0_ n1_ n2_ n3_ n4_ n5_ n6_
               clear ho hb hg hat
               refine hK.out _ _ ⟨(blk_cell BK302.out 0).trans rfl, (blk_cell BK302.out 1).trans rfl, (blk_cell BK302.out 2).trans rfl, (blk_cell BK302.out 3).trans rfl, (blk_cell BK302.out 4).trans rfl, (blk_cell BK302.out 5).trans rfl, (blk_cell BK302.out 6).trans rfl, (blk_cell BK302.out 7).trans rfl, (blk_cell BK302.out 8).trans rfl⟩ (fun hHeld => ?_)
               clear hK K
               refine norm_ (a' := ?_) ?_ ?_
               rotate_left
               · show Act.put _ (some 20) _ = _
                 simp only [Act.put, List.setIfInBounds_toArray, List.set_cons_zero, List.set_cons_succ, i64_w, i32_w]
                 rfl
               refine pure_ (i := 8) (N := some 25) (v := ?_) (a' := ?_) #[true, true, true, true, false, true, true, false, true, false, false, false] rfl rfl (any_of HT_.out (by kernel_rfl)) (fun _ _ _ h => h) (Or.inl ⟨by rfl, ?_⟩) ?_ ?_
               rotate_left
               · intro w'
                 go_simp
                 with_reducible rfl
               rotate_left
               · simp only [Act.put, List.setIfInBounds_toArray, List.set_cons_zero, List.set_cons_succ, i64_w, i32_w]
                 rfl
               refine one_ (i := 4) (N := some 21) #[true, true, true, true, true, true, true, false, true, false, false, false] rfl rfl (one_of HT_.out (by kernel_rfl)) (by decide) (fun K hK => ?_)
               refine Kd.R_lit_step k40 _ 40 ?hg (N := 21) ?hd (xs := ([] : List (S40))) (inner := []) (ok := fun _ => True) (okp := fun _ => True) ?hr ?hp (fun _ hk => hk) trivial (Below.refl _ _) (Nat.le_refl _) (by simp) ?_; (case hd => rfl); (case hg => rfl); (case hr => first | (go_simp; done) | (go_simp; rfl)); (case hp => exact (Reps.none _ _))
               intro v316 w23 ho24 hb hg_ hnew_
               clear hg_ hnew_
               (first | rw [← Ny315.out] at ho24 | (simp only [Int.reduceToNat] at ho24; rw [← Ny315.out] at ho24))
               have n0_ := Aside0.mk (Kd.V_elder' (kv_ HO0_6.out) (Kd.R_base ho24) hb)
               have n1_ := Aside0.mk (Kd.V_elder' (kv_ HO0_7.out) (Kd.R_base ho24) hb)
               have n2_ := Aside0.mk (Kd.N_elder' (kn_ HO305.out) (Kd.R_base ho24) hb)
               have n3_ := Aside0.mk (Kd.R_below (kr_ HO314.out) hb)
               have n4_ := Aside0.mk (Kd.R_lower (Kd.R_newM (M := fun k_ => (w.heap.size ≤ k_)) ho24 (below_size (by repeat (first | (with_reducible first | exact HB.out | apply below_alloc | apply pw_below_drewN | apply below_drew1 | refine below_set ?_ GE302.out | refine below_set ?_ GE308.out) | exact HB.out))) (fun k_ h_ => h_)) (below_size (by repeat (first | (with_reducible first | exact HB.out | apply below_alloc | apply pw_below_drewN | apply below_drew1 | refine below_set ?_ GE302.out | refine below_set ?_ GE308.out) | exact HB.out))))
               have n5_ := Aside0.mk (blk_below (kb_ BK302.out) hb)
               have n6_ := Aside0.mk (blk_below (kb_ BK308.out) hb)
               have n7_ := Aside0.mk (below_step (by repeat (first | (with_reducible first | exact HB.out | apply below_alloc | apply pw_below_drewN | apply below_drew1 | refine below_set ?_ GE302.out | refine below_set ?_ GE308.out) | exact HB.out)) hb)
               clear HO0_6
               clear HO0_7
               clear HO305
               clear HO314
               clear BK302
               clear BK308
               clear HB
               have HO0_6 := n0_
               have HO0_7 := n1_
               have HO305 := n2_
               have HO314 := n3_
               have HO317 := n4_
               have BK302 := n5_
               have BK308 := n6_
               have HB := n7_
               clear n0_ n1_ n2_ n3_ n4_ n5_ n6_ n7_
               clear hb ho24
               refine hK.out _ _ ⟨(blk_cell BK302.out 0).trans rfl, (blk_cell BK302.out 1).trans rfl, (blk_cell BK302.out 2).trans rfl, (blk_cell BK302.out 3).trans rfl, (blk_cell BK302.out 4).trans rfl, (blk_cell BK302.out 5).trans rfl, (blk_cell BK302.out 6).trans rfl, (blk_cell BK302.out 7).trans rfl, (blk_cell BK302.out 8).trans rfl⟩ (fun hHeld => ?_)
               clear hK K
               refine norm_ (a' := ?_) ?_ ?_
               rotate_left
               · show Act.put _ (some 21) _ = _
                 simp only [Act.put, List.setIfInBounds_toArray, List.set_cons_zero, List.set_cons_succ, i64_w, i32_w]
                 rfl
               exact norm_ (by simp only [putAll, Act.put, List.setIfInBounds_toArray, List.set_cons_zero, List.set_cons_succ]) (hCont (v310, v313, v316) _ ⟨hHeld, (by (with_reducible repeat (first | apply Kd.V_alloc | apply Kd.V_drewN | apply Kd.V_drew)); exact Kd.V_mono HO0_6.out (fun _ hk => ⟨hk.1.1.1, ⟨hk.1.1.2.1, ⟨hk.1.2, ⟨hk.2, ⟨hk.1.1.2.2.1, hk.1.1.2.2.2⟩⟩⟩⟩⟩)), (by (with_reducible repeat (first | apply Kd.V_alloc | apply Kd.V_drewN | apply Kd.V_drew)); exact Kd.V_mono HO0_7.out (fun _ hk => ⟨hk.1.1.1, ⟨hk.1.1.2.1, ⟨hk.1.2, ⟨hk.2, ⟨hk.1.1.2.2.1, hk.1.1.2.2.2⟩⟩⟩⟩⟩)), (by (with_reducible repeat (first | apply Kd.N_alloc | apply Kd.N_drewN | apply Kd.N_drew)); exact Kd.N_mono HO305.out (fun _ hk => ⟨hk.1.1.1, ⟨hk.1.2, ⟨hk.2, ⟨hk.1.1.2.1, hk.1.1.2.2⟩⟩⟩⟩)), (kr_ HO314.out), (by (with_reducible repeat (first | apply Kd.R_alloc | apply Kd.R_drewN | apply Kd.R_drew)); exact Kd.R_mono HO317.out (fun _ hk => hk.1)), (kb_ BK302.out), (kb_ BK308.out), (by repeat (first | (with_reducible first | exact HB.out | apply below_alloc | apply pw_below_drewN | apply below_drew1 | refine below_set ?_ GE302.out | refine below_set ?_ GE308.out) | exact HB.out))⟩)
             · skip
               refine Kd.R_lit_step k40 _ 40 ?hg (N := 21) ?hd (xs := ([] : List (S40))) (inner := []) (ok := fun _ => True) (okp := fun _ => True) ?hr ?hp (fun _ hk => hk) trivial (Below.refl _ _) (Nat.le_refl _) (by simp) ?_; (case hd => rfl); (case hg => rfl); (case hr => first | (go_simp; done) | (go_simp; rfl)); (case hp => exact (Reps.none _ _))
               intro v316 w22 ho23 hb hg_ hnew_
               clear hg_ hnew_
               (first | rw [← Ny315.out] at ho23 | (simp only [Int.reduceToNat] at ho23; rw [← Ny315.out] at ho23))
               have n0_ := Aside0.mk (Kd.V_elder' (kv_ HO0_6.out) (Kd.R_base ho23) hb)
               have n1_ := Aside0.mk (Kd.V_elder' (kv_ HO0_7.out) (Kd.R_base ho23) hb)
               have n2_ := Aside0.mk (Kd.N_elder' (kn_ HO305.out) (Kd.R_base ho23) hb)
               have n3_ := Aside0.mk (Kd.R_below (kr_ HO311.out) hb)
               have n4_ := Aside0.mk (Kd.R_lower (Kd.R_newM (M := fun k_ => (w.heap.size ≤ k_)) ho23 (below_size (by repeat (first | (with_reducible first | exact HB.out | apply below_alloc | apply pw_below_drewN | apply below_drew1 | refine below_set ?_ GE302.out | refine below_set ?_ GE308.out) | exact HB.out))) (fun k_ h_ => h_)) (below_size (by repeat (first | (with_reducible first | exact HB.out | apply below_alloc | apply pw_below_drewN | apply below_drew1 | refine below_set ?_ GE302.out | refine below_set ?_ GE308.out) | exact HB.out))))
               have n5_ := Aside0.mk (blk_below (kb_ BK302.out) hb)
               have n6_ := Aside0.mk (blk_below (kb_ BK308.out) hb)
               have n7_ := Aside0.mk (below_step (by repeat (first | (with_reducible first | exact HB.out | apply below_alloc | apply pw_below_drewN | apply below_drew1 | refine below_set ?_ GE302.out | refine below_set ?_ GE308.out) | exact HB.out)) hb)
               clear HO0_6
               clear HO0_7
               clear HO305
               clear HO311
               clear BK302
               clear BK308
               clear HB
               have HO0_6 := n0_
               have HO0_7 := n1_
               have HO305 := n2_
               have HO311 := n3_
               have HO317 := n4_
               have BK302 := n5_
               have BK308 := n6_
               have HB := n7_
               clear n0_ n1_ n2_ n3_ n4_ n5_ n6_ n7_
               clear hb ho23
               refine hK.out _ _ ⟨(blk_cell BK302.out 0).trans rfl, (blk_cell BK302.out 1).trans rfl, (blk_cell BK302.out 2).trans rfl, (blk_cell BK302.out 3).trans rfl, (blk_cell BK302.out 4).trans rfl, (blk_cell BK302.out 5).trans rfl, (blk_cell BK302.out 6).trans rfl, (blk_cell BK302.out 7).trans rfl, (blk_cell BK302.out 8).trans rfl⟩ (fun hHeld => ?_)
               clear hK K
               refine norm_ (a' := ?_) ?_ ?_
               rotate_left
               · show Act.put _ (some 21) _ = _
                 simp only [Act.put, List.setIfInBounds_toArray, List.set_cons_zero, List.set_cons_succ, i64_w, i32_w]
                 rfl
               refine one_ (i := 3) (N := some 20) #[true, true, true, true, true, true, true, false, false, false, false, false] rfl rfl (one_of HT_.out (by kernel_rfl)) (by decide) (fun K hK => ?_)
               refine Kd.R_append_rows_step k38 (w0 := w) w.heap.size (by rfl) (.tmp 17) (.tmp 19) 26 38 (.agg #[(.string ⟨#[]⟩), (.int .i64 0), (.int .i64 0)]) 32 rfl Try.underlying26 info38 rfl (by decide) (by omega) v310 y309 l0_6 _ _ _ (fun k_ => (w.heap.size ≤ k_)) (fun _ => False) rfl rfl ?aO ?aR (fun _ _ h => h) (fun _ h => h.elim) ?aF ?aB ?aS ?aL ?_
               (case aR => repeat (first | exact (Kd.V_reads' HO0_6.out).2.2 | (with_reducible refine Kd.C_alloc ?_ _) | (with_reducible refine Kd.C_drewN ?_ _) | (with_reducible refine Kd.C_drew ?_)))
               (case aB => exact (by repeat (first | (with_reducible first | exact HB.out | apply below_alloc | apply pw_below_drewN | apply below_drew1 | refine below_set ?_ GE302.out | refine below_set ?_ GE308.out) | exact HB.out)))
               (case aF => exact (fun k_ hk => (Nat.le_trans (below_size (by repeat (first | (with_reducible first | exact HB.out | apply below_alloc | apply pw_below_drewN | apply below_drew1 | refine below_set ?_ GE302.out | refine below_set ?_ GE308.out) | exact HB.out))) hk)))
               (case aO => exact (by (with_reducible repeat (first | apply Kd.R_alloc | apply Kd.R_drewN | apply Kd.R_drew)); exact Kd.R_mono HO311.out (fun _ hk => hk.1)))
               (case aS => exact (below_size (by repeat (first | (with_reducible first | exact HB.out | apply below_alloc | apply pw_below_drewN | apply below_drew1 | refine below_set ?_ GE302.out | refine below_set ?_ GE308.out) | exact HB.out))))
               (case aL => have := LMc4.out; omega)
               intro v313 w24 ho hb hg hat
               rw [← Ny312.out] at ho
               have n0_ := Aside0.mk (Kd.V_afterv (ok := (fun k_ => ((P0_6_ k_ ∨ P0_7_ k_) ∨ w.heap.size ≤ k_) ∧ some k_ ≠ (.slice Ao15 y303.length co15 : Value).ownBlock ∧ some k_ ≠ (v316 : Value).ownBlock ∧ k_ ≠ gb302 ∧ k_ ≠ gb308)) (by (with_reducible repeat (first | apply Kd.V_alloc | apply Kd.V_drewN | apply Kd.V_drew)); exact Kd.V_mono HO0_6.out (fun _ hk => ⟨⟨hk.1.1.1.1.1, ⟨hk.1.1.1.2, ⟨hk.2, ⟨hk.1.1.1.1.2, hk.1.1.2⟩⟩⟩⟩, hk.1.2⟩)) hg hat)
               have n1_ := Aside0.mk (Kd.V_afterv (ok := (fun k_ => ((P0_6_ k_ ∨ P0_7_ k_) ∨ w.heap.size ≤ k_) ∧ some k_ ≠ (.slice Ao15 y303.length co15 : Value).ownBlock ∧ some k_ ≠ (v316 : Value).ownBlock ∧ k_ ≠ gb302 ∧ k_ ≠ gb308)) (by (with_reducible repeat (first | apply Kd.V_alloc | apply Kd.V_drewN | apply Kd.V_drew)); exact Kd.V_mono HO0_7.out (fun _ hk => ⟨⟨hk.1.1.1.1.1, ⟨hk.1.1.1.2, ⟨hk.2, ⟨hk.1.1.1.1.2, hk.1.1.2⟩⟩⟩⟩, hk.1.2⟩)) hg hat)
               have n2_ := Aside0.mk (blk_grown (kb_ BK302.out) hg (Kd.R_ne HO311.out BK302.out (by decide)))
               have n3_ := Aside0.mk (Kd.N_afterv (ok := (fun k_ => ((P0_6_ k_ ∨ P0_7_ k_) ∨ w.heap.size ≤ k_) ∧ some k_ ≠ (v316 : Value).ownBlock ∧ k_ ≠ gb302 ∧ k_ ≠ gb308)) (by (with_reducible repeat (first | apply Kd.N_alloc | apply Kd.N_drewN | apply Kd.N_drew)); exact Kd.N_mono HO305.out (fun _ hk => ⟨⟨hk.1.1.1.1, ⟨hk.2, ⟨hk.1.1.1.2, hk.1.1.2⟩⟩⟩, hk.1.2⟩)) hg hat)
               have n4_ := Aside0.mk (blk_grown (kb_ BK308.out) hg (Kd.R_ne HO311.out BK308.out (by decide)))
               have n5_ := Aside0.mk (Kd.R_over' (kr_ HO317.out) (Kd.R_typed (kr_ HO311.out)) (by decide) hg)
               have n6_ := Aside0.mk (hb)
               have n7_ := Aside0.mk (ho)
               clear HO0_6
               clear HO0_7
               clear BK302
               clear HO305
               clear BK308
               clear HO317
               clear HB
               clear HO311
               have HO0_6 := n0_
               have HO0_7 := n1_
               have BK302 := n2_
               have HO305 := n3_
               have BK308 := n4_
               have HO317 := n5_
               have HB := n6_
               have HO314 := n7_
               clear n0_ n1_ n2_ n3_ n4_ n5_ n6_ n7_
               clear ho hb hg hat
               refine hK.out _ _ ⟨(blk_cell BK302.out 0).trans rfl, (blk_cell BK302.out 1).trans rfl, (blk_cell BK302.out 2).trans rfl, (blk_cell BK302.out 3).trans rfl, (blk_cell BK302.out 4).trans rfl, (blk_cell BK302.out 5).trans rfl, (blk_cell BK302.out 6).trans rfl, (blk_cell BK302.out 7).trans rfl, (blk_cell BK302.out 8).trans rfl⟩ (fun hHeld => ?_)
               clear hK K
               refine norm_ (a' := ?_) ?_ ?_
               rotate_left
               · show Act.put _ (some 20) _ = _
                 simp only [Act.put, List.setIfInBounds_toArray, List.set_cons_zero, List.set_cons_succ, i64_w, i32_w]
                 rfl
               refine pure_ (i := 8) (N := some 25) (v := ?_) (a' := ?_) #[true, true, true, true, true, true, true, false, true, false, false, false] rfl rfl (any_of HT_.out (by kernel_rfl)) (fun _ _ _ h => h) (Or.inl ⟨by rfl, ?_⟩) ?_ ?_
               rotate_left
               · intro w'
                 go_simp
                 with_reducible rfl
               rotate_left
               · simp only [Act.put, List.setIfInBounds_toArray, List.set_cons_zero, List.set_cons_succ, i64_w, i32_w]
                 rfl
               exact norm_ (by simp only [putAll, Act.put, List.setIfInBounds_toArray, List.set_cons_zero, List.set_cons_succ]) (hCont (v310, v313, v316) _ ⟨hHeld, (by (with_reducible repeat (first | apply Kd.V_alloc | apply Kd.V_drewN | apply Kd.V_drew)); exact Kd.V_mono HO0_6.out (fun _ hk => ⟨hk.1.1, ⟨hk.1.2.1, ⟨hk.2, ⟨hk.1.2.2.1, ⟨hk.1.2.2.2.1, hk.1.2.2.2.2⟩⟩⟩⟩⟩)), (by (with_reducible repeat (first | apply Kd.V_alloc | apply Kd.V_drewN | apply Kd.V_drew)); exact Kd.V_mono HO0_7.out (fun _ hk => ⟨hk.1.1, ⟨hk.1.2.1, ⟨hk.2, ⟨hk.1.2.2.1, ⟨hk.1.2.2.2.1, hk.1.2.2.2.2⟩⟩⟩⟩⟩)), (by (with_reducible repeat (first | apply Kd.N_alloc | apply Kd.N_drewN | apply Kd.N_drew)); exact Kd.N_mono HO305.out (fun _ hk => ⟨hk.1.1, ⟨hk.2, ⟨hk.1.2.1, ⟨hk.1.2.2.1, hk.1.2.2.2⟩⟩⟩⟩)), (kr_ HO314.out), (by (with_reducible repeat (first | apply Kd.R_alloc | apply Kd.R_drewN | apply Kd.R_drew)); exact Kd.R_mono HO317.out (fun _ hk => hk.1)), (kb_ BK302.out), (kb_ BK308.out), (by repeat (first | (with_reducible first | exact HB.out | apply below_alloc | apply pw_below_drewN | apply below_drew1 | refine below_set ?_ GE302.out | refine below_set ?_ GE308.out) | exact HB.out))⟩)
           · skip
             refine Kd.R_lit_step k40 _ 40 ?hg (N := 21) ?hd (xs := ([] : List (S40))) (inner := []) (ok := fun _ => True) (okp := fun _ => True) ?hr ?hp (fun _ hk => hk) trivial (Below.refl _ _) (Nat.le_refl _) (by simp) ?_; (case hd => rfl); (case hg => rfl); (case hr => first | (go_simp; done) | (go_simp; rfl)); (case hp => exact (Reps.none _ _))
             intro v316 w20 ho21 hb hg_ hnew_
             clear hg_ hnew_
             (first | rw [← Ny315.out] at ho21 | (simp only [Int.reduceToNat] at ho21; rw [← Ny315.out] at ho21))
             have n0_ := Aside0.mk (Kd.V_elder' (kv_ HO0_6.out) (Kd.R_base ho21) hb)
             have n1_ := Aside0.mk (Kd.V_elder' (kv_ HO0_7.out) (Kd.R_base ho21) hb)
             have n2_ := Aside0.mk (Kd.N_elder' (kn_ HO305.out) (Kd.R_base ho21) hb)
             have n3_ := Aside0.mk (Kd.R_lower (Kd.R_newM (M := fun k_ => (w.heap.size ≤ k_)) ho21 (below_size (by repeat (first | (with_reducible first | exact HB.out | apply below_alloc | apply pw_below_drewN | apply below_drew1 | refine below_set ?_ GE302.out | refine below_set ?_ GE308.out) | exact HB.out))) (fun k_ h_ => h_)) (below_size (by repeat (first | (with_reducible first | exact HB.out | apply below_alloc | apply pw_below_drewN | apply below_drew1 | refine below_set ?_ GE302.out | refine below_set ?_ GE308.out) | exact HB.out))))
             have n4_ := Aside0.mk (blk_below (kb_ BK302.out) hb)
             have n5_ := Aside0.mk (blk_below (kb_ BK308.out) hb)
             have n6_ := Aside0.mk (below_step (by repeat (first | (with_reducible first | exact HB.out | apply below_alloc | apply pw_below_drewN | apply below_drew1 | refine below_set ?_ GE302.out | refine below_set ?_ GE308.out) | exact HB.out)) hb)
             clear HO0_6
             clear HO0_7
             clear HO305
             clear BK302
             clear BK308
             clear HB
             have HO0_6 := n0_
             have HO0_7 := n1_
             have HO305 := n2_
             have HO317 := n3_
             have BK302 := n4_
             have BK308 := n5_
             have HB := n6_
             clear n0_ n1_ n2_ n3_ n4_ n5_ n6_
             clear hb ho21
             refine hK.out _ _ ⟨(blk_cell BK302.out 0).trans rfl, (blk_cell BK302.out 1).trans rfl, (blk_cell BK302.out 2).trans rfl, (blk_cell BK302.out 3).trans rfl, (blk_cell BK302.out 4).trans rfl, (blk_cell BK302.out 5).trans rfl, (blk_cell BK302.out 6).trans rfl, (blk_cell BK302.out 7).trans rfl, (blk_cell BK302.out 8).trans rfl⟩ (fun hHeld => ?_)
             clear hK K
             refine norm_ (a' := ?_) ?_ ?_
             rotate_left
             · show Act.put _ (some 21) _ = _
               simp only [Act.put, List.setIfInBounds_toArray, List.set_cons_zero, List.set_cons_succ, i64_w, i32_w]
               rfl
             refine one_ (i := 0) (N := some 17) #[true, true, true, false, true, true, true, false, false, false, false, false] rfl rfl (one_of HT_.out (by kernel_rfl)) (by decide) (fun K hK => ?_)
             refine Kd.R_lit_step k38 _ 38 ?hg (N := 17) ?hd (xs := ([] : List (S38))) (inner := []) (ok := fun _ => True) (okp := fun _ => True) ?hr ?hp (fun _ hk => hk) trivial (Below.refl _ _) (Nat.le_refl _) (by simp) ?_; (case hd => rfl); (case hg => rfl); (case hr => first | (go_simp; done) | (go_simp; rfl)); (case hp => exact (Reps.none _ _))
             intro v310 w22 ho23 hb hg_ hnew_
             clear hg_ hnew_
             (first | rw [← Ny309.out] at ho23 | (simp only [Int.reduceToNat] at ho23; rw [← Ny309.out] at ho23))
             have n0_ := Aside0.mk (Kd.V_elder' (kv_ HO0_6.out) (Kd.R_base ho23) hb)
             have n1_ := Aside0.mk (Kd.V_elder' (kv_ HO0_7.out) (Kd.R_base ho23) hb)
             have n2_ := Aside0.mk (Kd.N_elder' (kn_ HO305.out) (Kd.R_base ho23) hb)
             have n3_ := Aside0.mk (Kd.R_below (kr_ HO317.out) hb)
             have n4_ := Aside0.mk (Kd.R_lower (Kd.R_newM (M := fun k_ => (w.heap.size ≤ k_)) ho23 (below_size (by repeat (first | (with_reducible first | exact HB.out | apply below_alloc | apply pw_below_drewN | apply below_drew1 | refine below_set ?_ GE302.out | refine below_set ?_ GE308.out) | exact HB.out))) (fun k_ h_ => h_)) (below_size (by repeat (first | (with_reducible first | exact HB.out | apply below_alloc | apply pw_below_drewN | apply below_drew1 | refine below_set ?_ GE302.out | refine below_set ?_ GE308.out) | exact HB.out))))
             have n5_ := Aside0.mk (blk_below (kb_ BK302.out) hb)
             have n6_ := Aside0.mk (blk_below (kb_ BK308.out) hb)
             have n7_ := Aside0.mk (below_step (by repeat (first | (with_reducible first | exact HB.out | apply below_alloc | apply pw_below_drewN | apply below_drew1 | refine below_set ?_ GE302.out | refine below_set ?_ GE308.out) | exact HB.out)) hb)
             clear HO0_6
             clear HO0_7
             clear HO305
             clear HO317
             clear BK302
             clear BK308
             clear HB
             have HO0_6 := n0_
             have HO0_7 := n1_
             have HO305 := n2_
             have HO317 := n3_
             have HO311 := n4_
             have BK302 := n5_
             have BK308 := n6_
             have HB := n7_
             clear n0_ n1_ n2_ n3_ n4_ n5_ n6_ n7_
             clear hb ho23
             refine hK.out _ _ ⟨(blk_cell BK302.out 0).trans rfl, (blk_cell BK302.out 1).trans rfl, (blk_cell BK302.out 2).trans rfl, (blk_cell BK302.out 3).trans rfl, (blk_cell BK302.out 4).trans rfl, (blk_cell BK302.out 5).trans rfl, (blk_cell BK302.out 6).trans rfl, (blk_cell BK302.out 7).trans rfl, (blk_cell BK302.out 8).trans rfl⟩ (fun hHeld => ?_)
             clear hK K
             refine norm_ (a' := ?_) ?_ ?_
             rotate_left
             · show Act.put _ (some 17) _ = _
               simp only [Act.put, List.setIfInBounds_toArray, List.set_cons_zero, List.set_cons_succ, i64_w, i32_w]
               rfl
             refine one_ (i := 3) (N := some 20) #[true, true, true, true, true, true, true, false, false, false, false, false] rfl rfl (one_of HT_.out (by kernel_rfl)) (by decide) (fun K hK => ?_)
             refine Kd.R_append_rows_step k38 (w0 := w) w.heap.size (by rfl) (.tmp 17) (.tmp 19) 26 38 (.agg #[(.string ⟨#[]⟩), (.int .i64 0), (.int .i64 0)]) 32 rfl Try.underlying26 info38 rfl (by decide) (by omega) v310 y309 l0_6 _ _ _ (fun k_ => (w.heap.size ≤ k_)) (fun _ => False) rfl rfl ?aO ?aR (fun _ _ h => h) (fun _ h => h.elim) ?aF ?aB ?aS ?aL ?_
             (case aR => repeat (first | exact (Kd.V_reads' HO0_6.out).2.2 | (with_reducible refine Kd.C_alloc ?_ _) | (with_reducible refine Kd.C_drewN ?_ _) | (with_reducible refine Kd.C_drew ?_)))
             (case aB => exact (by repeat (first | (with_reducible first | exact HB.out | apply below_alloc | apply pw_below_drewN | apply below_drew1 | refine below_set ?_ GE302.out | refine below_set ?_ GE308.out) | exact HB.out)))
             (case aF => exact (fun k_ hk => (Nat.le_trans (below_size (by repeat (first | (with_reducible first | exact HB.out | apply below_alloc | apply pw_below_drewN | apply below_drew1 | refine below_set ?_ GE302.out | refine below_set ?_ GE308.out) | exact HB.out))) hk)))
             (case aO => exact (by (with_reducible repeat (first | apply Kd.R_alloc | apply Kd.R_drewN | apply Kd.R_drew)); exact Kd.R_mono HO311.out (fun _ hk => hk.1)))
             (case aS => exact (below_size (by repeat (first | (with_reducible first | exact HB.out | apply below_alloc | apply pw_below_drewN | apply below_drew1 | refine below_set ?_ GE302.out | refine below_set ?_ GE308.out) | exact HB.out))))
             (case aL => have := LMc4.out; omega)
             intro v313 w24 ho hb hg hat
             rw [← Ny312.out] at ho
             have n0_ := Aside0.mk (Kd.V_afterv (ok := (fun k_ => ((P0_6_ k_ ∨ P0_7_ k_) ∨ w.heap.size ≤ k_) ∧ some k_ ≠ (.slice Ao15 y303.length co15 : Value).ownBlock ∧ some k_ ≠ (v316 : Value).ownBlock ∧ k_ ≠ gb302 ∧ k_ ≠ gb308)) (by (with_reducible repeat (first | apply Kd.V_alloc | apply Kd.V_drewN | apply Kd.V_drew)); exact Kd.V_mono HO0_6.out (fun _ hk => ⟨⟨hk.1.1.1.1.1, ⟨hk.1.1.1.2, ⟨hk.1.2, ⟨hk.1.1.1.1.2, hk.1.1.2⟩⟩⟩⟩, hk.2⟩)) hg hat)
             have n1_ := Aside0.mk (Kd.V_afterv (ok := (fun k_ => ((P0_6_ k_ ∨ P0_7_ k_) ∨ w.heap.size ≤ k_) ∧ some k_ ≠ (.slice Ao15 y303.length co15 : Value).ownBlock ∧ some k_ ≠ (v316 : Value).ownBlock ∧ k_ ≠ gb302 ∧ k_ ≠ gb308)) (by (with_reducible repeat (first | apply Kd.V_alloc | apply Kd.V_drewN | apply Kd.V_drew)); exact Kd.V_mono HO0_7.out (fun _ hk => ⟨⟨hk.1.1.1.1.1, ⟨hk.1.1.1.2, ⟨hk.1.2, ⟨hk.1.1.1.1.2, hk.1.1.2⟩⟩⟩⟩, hk.2⟩)) hg hat)
             have n2_ := Aside0.mk (blk_grown (kb_ BK302.out) hg (Kd.R_ne HO311.out BK302.out (by decide)))
             have n3_ := Aside0.mk (Kd.N_afterv (ok := (fun k_ => ((P0_6_ k_ ∨ P0_7_ k_) ∨ w.heap.size ≤ k_) ∧ some k_ ≠ (v316 : Value).ownBlock ∧ k_ ≠ gb302 ∧ k_ ≠ gb308)) (by (with_reducible repeat (first | apply Kd.N_alloc | apply Kd.N_drewN | apply Kd.N_drew)); exact Kd.N_mono HO305.out (fun _ hk => ⟨⟨hk.1.1.1.1, ⟨hk.1.2, ⟨hk.1.1.1.2, hk.1.1.2⟩⟩⟩, hk.2⟩)) hg hat)
             have n4_ := Aside0.mk (blk_grown (kb_ BK308.out) hg (Kd.R_ne HO311.out BK308.out (by decide)))
             have n5_ := Aside0.mk (Kd.R_over' (kr_ HO317.out) (Kd.R_typed (kr_ HO311.out)) (by decide) hg)
             have n6_ := Aside0.mk (hb)
             have n7_ := Aside0.mk (ho)
             clear HO0_6
             clear HO0_7
             clear BK302
             clear HO305
             clear BK308
             clear HO317
             clear HB
             clear HO311
             have HO0_6 := n0_
             have HO0_7 := n1_
             have BK302 := n2_
             have HO305 := n3_
             have BK308 := n4_
             have HO317 := n5_
             have HB := n6_
             have HO314 := n7_
             clear n0_ n1_ n2_ n3_ n4_ n5_ n6_ n7_
             clear ho hb hg hat
             refine hK.out _ _ ⟨(blk_cell BK302.out 0).trans rfl, (blk_cell BK302.out 1).trans rfl, (blk_cell BK302.out 2).trans rfl, (blk_cell BK302.out 3).trans rfl, (blk_cell BK302.out 4).trans rfl, (blk_cell BK302.out 5).trans rfl, (blk_cell BK302.out 6).trans rfl, (blk_cell BK302.out 7).trans rfl, (blk_cell BK302.out 8).trans rfl⟩ (fun hHeld => ?_)
             clear hK K
             refine norm_ (a' := ?_) ?_ ?_
             rotate_left
             · show Act.put _ (some 20) _ = _
               simp only [Act.put, List.setIfInBounds_toArray, List.set_cons_zero, List.set_cons_succ, i64_w, i32_w]
               rfl
             refine pure_ (i := 8) (N := some 25) (v := ?_) (a' := ?_) #[true, true, true, true, true, true, true, false, true, false, false, false] rfl rfl (any_of HT_.out (by kernel_rfl)) (fun _ _ _ h => h) (Or.inl ⟨by rfl, ?_⟩) ?_ ?_
             rotate_left
             · intro w'
               go_simp
               with_reducible rfl
             rotate_left
             · simp only [Act.put, List.setIfInBounds_toArray, List.set_cons_zero, List.set_cons_succ, i64_w, i32_w]
               rfl
             exact norm_ (by simp only [putAll, Act.put, List.setIfInBounds_toArray, List.set_cons_zero, List.set_cons_succ]) (hCont (v310, v313, v316) _ ⟨hHeld, (by (with_reducible repeat (first | apply Kd.V_alloc | apply Kd.V_drewN | apply Kd.V_drew)); exact Kd.V_mono HO0_6.out (fun _ hk => ⟨hk.1.1, ⟨hk.1.2.1, ⟨hk.2, ⟨hk.1.2.2.1, ⟨hk.1.2.2.2.1, hk.1.2.2.2.2⟩⟩⟩⟩⟩)), (by (with_reducible repeat (first | apply Kd.V_alloc | apply Kd.V_drewN | apply Kd.V_drew)); exact Kd.V_mono HO0_7.out (fun _ hk => ⟨hk.1.1, ⟨hk.1.2.1, ⟨hk.2, ⟨hk.1.2.2.1, ⟨hk.1.2.2.2.1, hk.1.2.2.2.2⟩⟩⟩⟩⟩)), (by (with_reducible repeat (first | apply Kd.N_alloc | apply Kd.N_drewN | apply Kd.N_drew)); exact Kd.N_mono HO305.out (fun _ hk => ⟨hk.1.1, ⟨hk.2, ⟨hk.1.2.1, ⟨hk.1.2.2.1, hk.1.2.2.2⟩⟩⟩⟩)), (kr_ HO314.out), (by (with_reducible repeat (first | apply Kd.R_alloc | apply Kd.R_drewN | apply Kd.R_drew)); exact Kd.R_mono HO317.out (fun _ hk => hk.1)), (kb_ BK302.out), (kb_ BK308.out), (by repeat (first | (with_reducible first | exact HB.out | apply below_alloc | apply pw_below_drewN | apply below_drew1 | refine below_set ?_ GE302.out | refine below_set ?_ GE308.out) | exact HB.out))⟩)
         rintro ⟨v310, v313, v316⟩ w25 ⟨hS_, h0_, h1_, h2_, h3_, h4_, h5_, h6_, h7_⟩
         have n0_ : Aside0 (Kd.V k38 38 w25 w.heap.size (fun k_ => ((P0_6_ k_ ∨ P0_7_ k_) ∨ w.heap.size ≤ k_) ∧ some k_ ≠ (.slice Ao15 y303.length co15 : Value).ownBlock ∧ some k_ ≠ (v313 : Value).ownBlock ∧ some k_ ≠ (v316 : Value).ownBlock ∧ k_ ≠ gb302 ∧ k_ ≠ gb308) (.slice A0_6 l0_6.length c0_6) l0_6) := ⟨h0_⟩
         have n1_ : Aside0 (Kd.V k40 40 w25 w.heap.size (fun k_ => ((P0_6_ k_ ∨ P0_7_ k_) ∨ w.heap.size ≤ k_) ∧ some k_ ≠ (.slice Ao15 y303.length co15 : Value).ownBlock ∧ some k_ ≠ (v313 : Value).ownBlock ∧ some k_ ≠ (v316 : Value).ownBlock ∧ k_ ≠ gb302 ∧ k_ ≠ gb308) (.slice A0_7 l0_7.length c0_7) l0_7) := ⟨h1_⟩
         have n2_ : Aside0 (Kd.N k29 29 w25 w.heap.size (fun k_ => ((P0_6_ k_ ∨ P0_7_ k_) ∨ w.heap.size ≤ k_) ∧ some k_ ≠ (v313 : Value).ownBlock ∧ some k_ ≠ (v316 : Value).ownBlock ∧ k_ ≠ gb302 ∧ k_ ≠ gb308) (.slice Ao15 y303.length co15) y303) := ⟨h2_⟩
         have n3_ : Aside0 (Kd.R k38 38 w25 w.heap.size (fun k_ => (w.heap.size ≤ k_)) v313 y312) := ⟨h3_⟩
         have n4_ : Aside0 (Kd.R k40 40 w25 w.heap.size (fun k_ => (w.heap.size ≤ k_)) v316 y315) := ⟨h4_⟩
         have n5_ : Aside0 (w25.heap[gb302]? = some (.cells #[.int .i64 a0_0, .int .i64 a0_1, .int .i64 a0_2, .int .i64 a0_3, .int .i64 a0_4, .int .i64 a0_5, .slice A0_6 l0_6.length c0_6, .slice A0_7 l0_7.length c0_7, .bool a0_8] 29 (0, 0))) := ⟨h5_⟩
         have n6_ : Aside0 (w25.heap[gb308]? = some (.cells #[.int .i64 a0_0, .int .i64 a0_1, .int .i64 a0_2, .int .i64 a0_3, .int .i64 a0_4, .int .i64 a0_5, .slice A0_6 l0_6.length c0_6, .slice A0_7 l0_7.length c0_7, .bool a0_8] 29 (0, 0))) := ⟨h6_⟩
         have n7_ : Aside0 (Below w.heap.size w w25) := ⟨h7_⟩
         clear HO0_6
         clear HO0_7
         clear HO305
         clear BK302
         clear BK308
         clear HB
         clear h0_ h1_ h2_ h3_ h4_ h5_ h6_ h7_
         have HO0_6 := n0_
         have HO0_7 := n1_
         have HO305 := n2_
         have HO314 := n3_
         have HO317 := n4_
         have BK302 := n5_
         have BK308 := n6_
         have HB := n7_
         clear n0_ n1_ n2_ n3_ n4_ n5_ n6_ n7_
         have hHeld : w25.cell? ⟨gb302, 0, none⟩ = some (.int .i64 a0_0) ∧ w25.cell? ⟨gb302, 1, none⟩ = some (.int .i64 a0_1) ∧ w25.cell? ⟨gb302, 2, none⟩ = some (.int .i64 a0_2) ∧ w25.cell? ⟨gb302, 3, none⟩ = some (.int .i64 a0_3) ∧ w25.cell? ⟨gb302, 4, none⟩ = some (.int .i64 a0_4) ∧ w25.cell? ⟨gb302, 5, none⟩ = some (.int .i64 a0_5) ∧ w25.cell? ⟨gb302, 6, none⟩ = some (.slice A0_6 l0_6.length c0_6) ∧ w25.cell? ⟨gb302, 7, none⟩ = some (.slice A0_7 l0_7.length c0_7) ∧ w25.cell? ⟨gb302, 8, none⟩ = some (.bool a0_8) := hS_
         refine norm_ (a' := ?_) ?_ ?_
         rotate_left
         · simp only [putAll, Act.put, List.setIfInBounds_toArray, List.set_cons_zero, List.set_cons_succ]
           rfl
         refine one_ (i := 7) (N := some 24) #[true, true, true, true, true, true, true, true, true, false, false, false] rfl rfl (one_of HT_.out (by kernel_rfl)) (by decide) (fun K hK => ?_)
         refine Kd.R_append_rows_step k40 (w0 := w) w.heap.size (by rfl) (.tmp 21) (.tmp 23) 27 40 (.agg #[(.string ⟨#[]⟩), (.string ⟨#[]⟩)]) 32 rfl Try.underlying27 info40 rfl (by decide) (by omega) v316 y315 l0_7 _ _ _ (fun k_ => (w.heap.size ≤ k_)) (fun _ => False) rfl rfl ?aO ?aR (fun _ _ h => h) (fun _ h => h.elim) ?aF ?aB ?aS ?aL ?_
         (case aR => repeat (first | exact (Kd.V_reads' HO0_7.out).2.2 | (with_reducible refine Kd.C_alloc ?_ _) | (with_reducible refine Kd.C_drewN ?_ _) | (with_reducible refine Kd.C_drew ?_)))
         (case aB => exact (by repeat (first | (with_reducible first | exact HB.out | apply below_alloc | apply pw_below_drewN | apply below_drew1 | refine below_set ?_ GE302.out | refine below_set ?_ GE308.out) | exact HB.out)))
         (case aF => exact (fun k_ hk => (Nat.le_trans (below_size (by repeat (first | (with_reducible first | exact HB.out | apply below_alloc | apply pw_below_drewN | apply below_drew1 | refine below_set ?_ GE302.out | refine below_set ?_ GE308.out) | exact HB.out))) hk)))
         (case aO => exact (kr_ HO317.out))
         (case aS => exact (below_size (by repeat (first | (with_reducible first | exact HB.out | apply below_alloc | apply pw_below_drewN | apply below_drew1 | refine below_set ?_ GE302.out | refine below_set ?_ GE308.out) | exact HB.out))))
         (case aL => have := LMc5.out; omega)
         intro v319 w26 ho hb hg hat
         rw [← Ny318.out] at ho
         have n0_ := Aside0.mk (Kd.V_afterv (ok := (fun k_ => ((P0_6_ k_ ∨ P0_7_ k_) ∨ w.heap.size ≤ k_) ∧ some k_ ≠ (.slice Ao15 y303.length co15 : Value).ownBlock ∧ some k_ ≠ (v313 : Value).ownBlock ∧ k_ ≠ gb302 ∧ k_ ≠ gb308)) (by (with_reducible repeat (first | apply Kd.V_alloc | apply Kd.V_drewN | apply Kd.V_drew)); exact Kd.V_mono HO0_6.out (fun _ hk => ⟨⟨hk.1, ⟨hk.2.1, ⟨hk.2.2.1, ⟨hk.2.2.2.2.1, hk.2.2.2.2.2⟩⟩⟩⟩, hk.2.2.2.1⟩)) hg hat)
         have n1_ := Aside0.mk (Kd.V_afterv (ok := (fun k_ => ((P0_6_ k_ ∨ P0_7_ k_) ∨ w.heap.size ≤ k_) ∧ some k_ ≠ (.slice Ao15 y303.length co15 : Value).ownBlock ∧ some k_ ≠ (v313 : Value).ownBlock ∧ k_ ≠ gb302 ∧ k_ ≠ gb308)) (by (with_reducible repeat (first | apply Kd.V_alloc | apply Kd.V_drewN | apply Kd.V_drew)); exact Kd.V_mono HO0_7.out (fun _ hk => ⟨⟨hk.1, ⟨hk.2.1, ⟨hk.2.2.1, ⟨hk.2.2.2.2.1, hk.2.2.2.2.2⟩⟩⟩⟩, hk.2.2.2.1⟩)) hg hat)
         have n2_ := Aside0.mk (blk_grown (kb_ BK302.out) hg (Kd.R_ne HO317.out BK302.out (by decide)))
         have n3_ := Aside0.mk (Kd.N_afterv (ok := (fun k_ => ((P0_6_ k_ ∨ P0_7_ k_) ∨ w.heap.size ≤ k_) ∧ some k_ ≠ (v313 : Value).ownBlock ∧ k_ ≠ gb302 ∧ k_ ≠ gb308)) (by (with_reducible repeat (first | apply Kd.N_alloc | apply Kd.N_drewN | apply Kd.N_drew)); exact Kd.N_mono HO305.out (fun _ hk => ⟨⟨hk.1, ⟨hk.2.1, ⟨hk.2.2.2.1, hk.2.2.2.2⟩⟩⟩, hk.2.2.1⟩)) hg hat)
         have n4_ := Aside0.mk (blk_grown (kb_ BK308.out) hg (Kd.R_ne HO317.out BK308.out (by decide)))
         have n5_ := Aside0.mk (Kd.R_over' (kr_ HO314.out) (Kd.R_typed (kr_ HO317.out)) (by decide) hg)
         have n6_ := Aside0.mk (hb)
         have n7_ := Aside0.mk (ho)
         clear HO0_6
         clear HO0_7
         clear BK302
         clear HO305
         clear BK308
         clear HO314
         clear HB
         clear HO317
         have HO0_6 := n0_
         have HO0_7 := n1_
         have BK302 := n2_
         have HO305 := n3_
         have BK308 := n4_
         have HO314 := n5_
         have HB := n6_
         have HO320 := n7_
         clear n0_ n1_ n2_ n3_ n4_ n5_ n6_ n7_
         clear ho hb hg hat
         obtain ⟨Ao27, co27, eo27⟩ := Kd.R_slice HO314.out
         (first | subst eo27 | (injection eo27 with f1_ f2_ f3_; have f4_ := f1_.symm; have f5_ := f3_.symm; clear f1_ f2_ f3_; subst f4_; subst f5_))
         obtain ⟨Ao29, co29, eo29⟩ := Kd.R_slice HO320.out
         (first | subst eo29 | (injection eo29 with f1_ f2_ f3_; have f4_ := f1_.symm; have f5_ := f3_.symm; clear f1_ f2_ f3_; subst f4_; subst f5_))
         refine hK.out _ _ ⟨(blk_cell BK302.out 0).trans rfl, (blk_cell BK302.out 1).trans rfl, (blk_cell BK302.out 2).trans rfl, (blk_cell BK302.out 3).trans rfl, (blk_cell BK302.out 4).trans rfl, (blk_cell BK302.out 5).trans rfl, (blk_cell BK302.out 6).trans rfl, (blk_cell BK302.out 7).trans rfl, (blk_cell BK302.out 8).trans rfl⟩ (fun hHeld => ?_)
         clear hK K
         refine norm_ (a' := ?_) ?_ ?_
         rotate_left
         · show Act.put _ (some 24) _ = _
           simp only [Act.put, List.setIfInBounds_toArray, List.set_cons_zero, List.set_cons_succ, i64_w, i32_w]
           rfl
         refine one_ (i := 9) (N := none) #[true, true, true, true, true, true, true, true, true, true, false, false] rfl rfl (one_of HT_.out (by kernel_rfl)) (by decide) (fun K hK => ?_)
         have hs28 : w26.cell? ⟨gb308, 6, none⟩ = some (.slice A0_6 l0_6.length c0_6) := (blk_cell BK308.out 6).trans rfl
         have hfs28 := blk_frozen BK308.out 6
         have hns28_0 := NB302_308.out
         have hms28_0 := NB308_302.out
         refine skip_ (w1 := ?_) (by rfl) rfl ?_ ?_
         rotate_left
         · go_simp
           rfl
         refine hK.out _ _ ⟨((cell_far (p := ⟨gb308, _, none⟩) NB302_308.out _).trans (hHeld.1)), ((cell_far (p := ⟨gb308, _, none⟩) NB302_308.out _).trans (hHeld.2.1)), ((cell_far (p := ⟨gb308, _, none⟩) NB302_308.out _).trans (hHeld.2.2.1)), ((cell_far (p := ⟨gb308, _, none⟩) NB302_308.out _).trans (hHeld.2.2.2.1)), ((cell_far (p := ⟨gb308, _, none⟩) NB302_308.out _).trans (hHeld.2.2.2.2.1)), ((cell_far (p := ⟨gb308, _, none⟩) NB302_308.out _).trans (hHeld.2.2.2.2.2.1)), ((cell_far (p := ⟨gb308, _, none⟩) NB302_308.out _).trans (hHeld.2.2.2.2.2.2.1)), ((cell_far (p := ⟨gb308, _, none⟩) NB302_308.out _).trans (hHeld.2.2.2.2.2.2.2.1)), ((cell_far (p := ⟨gb308, _, none⟩) NB302_308.out _).trans (hHeld.2.2.2.2.2.2.2.2))⟩ (fun hHeld => ?_)
         clear hK K
         refine pure_ (i := 10) (N := some 26) (v := ?_) (a' := ?_) #[true, true, true, true, true, true, true, true, true, true, true, false] rfl rfl (any_of HT_.out (by kernel_rfl)) (fun _ _ _ h => h) (Or.inl ⟨by rfl, ?_⟩) ?_ ?_
         rotate_left
         · intro w'
           go_simp
           with_reducible rfl
         rotate_left
         · simp only [Act.put, List.setIfInBounds_toArray, List.set_cons_zero, List.set_cons_succ, i64_w, i32_w]
           rfl
         refine one_ (i := 11) (N := none) #[true, true, true, true, true, true, true, true, true, true, true, true] rfl rfl (one_of HT_.out (by kernel_rfl)) (by decide) (fun K hK => ?_)
         have hs30 : w26.cell? ⟨gb308, 7, none⟩ = some (.slice A0_7 l0_7.length c0_7) := (blk_cell BK308.out 7).trans rfl
         have hfs30 := blk_frozen BK308.out 7
         have hns30_0 := NB302_308.out
         have hms30_0 := NB308_302.out
         refine skip_ (w1 := ?_) (by rfl) rfl ?_ ?_
         rotate_left
         · go_simp
           rfl
         refine hK.out _ _ ⟨((cell_far (p := ⟨gb308, _, none⟩) NB302_308.out _).trans (hHeld.1)), ((cell_far (p := ⟨gb308, _, none⟩) NB302_308.out _).trans (hHeld.2.1)), ((cell_far (p := ⟨gb308, _, none⟩) NB302_308.out _).trans (hHeld.2.2.1)), ((cell_far (p := ⟨gb308, _, none⟩) NB302_308.out _).trans (hHeld.2.2.2.1)), ((cell_far (p := ⟨gb308, _, none⟩) NB302_308.out _).trans (hHeld.2.2.2.2.1)), ((cell_far (p := ⟨gb308, _, none⟩) NB302_308.out _).trans (hHeld.2.2.2.2.2.1)), ((cell_far (p := ⟨gb308, _, none⟩) NB302_308.out _).trans (hHeld.2.2.2.2.2.2.1)), ((cell_far (p := ⟨gb308, _, none⟩) NB302_308.out _).trans (hHeld.2.2.2.2.2.2.2.1)), ((cell_far (p := ⟨gb308, _, none⟩) NB302_308.out _).trans (hHeld.2.2.2.2.2.2.2.2))⟩ (fun hHeld => ?_)
         clear hK K
         refine done_ (done_of HT_.out (by kernel_rfl)) ?_
         have hnb31 := NB308_302.out
         have hnc31 := NB302_308.out
         refine blk9_ BK308.out fun hcz32_0 hcz32_1 hcz32_2 hcz32_3 hcz32_4 hcz32_5 hcz32_6 hcz32_7 hcz32_8 hfz32_0 hfz32_1 hfz32_2 hfz32_3 hfz32_4 hfz32_5 hfz32_6 hfz32_7 hfz32_8 => ?_
         try go_wp2_with (first | ((with_reducible refine gate_callee (f := 10) rfl ?_); refine goesL_ (some 28) rfl rfl Try.func10 (by kernel_rfl) rfl #[.agg #[.int .i64 a0_0, .int .i64 a0_1, .int .i64 a0_2, .int .i64 a0_3, .int .i64 a0_4, .int .i64 a0_5, .slice Ao27 y312.length co27, .slice Ao29 y318.length co29, .bool a0_8]] rfl (by (try simp only [List.map_toArray, List.map_cons, List.map_nil]); first | done | rfl | (simp only [List.length_drop, List.length_take]; rfl)) ?_; (with_reducible refine (command_Clone.calls a0_0 a0_1 a0_2 a0_3 a0_4 a0_5 _ _ y312 _ _ y318 a0_8 t321 t322 t323 t324 t325 t326 t327 t330 t333 _ ?side1 ?side2 ?side3 ?side4 A6.out).mono ?_); (case side1 => refine (Kd.R_reads' (e := 38) (base := w.heap.size) (ok := fun k_ => (w.heap.size ≤ k_)) (n := y312.length) (c := co27) ?_).2.2; exact (by (with_reducible repeat (first | apply Kd.R_alloc | apply Kd.R_drewN | apply Kd.R_drew)); exact (Kd.R_mono (Kd.R_far (p := ⟨gb308, 7, none⟩) (Kd.R_far (p := ⟨gb308, 6, none⟩) (Kd.R_types HO314.out BK308.out (by decide)) (fun _ hk => hk.2) (.slice Ao27 y312.length co27)) (fun _ hk => hk.2) (.slice Ao29 y318.length co29)) (fun _ h_ => h_.1)))); (case side2 => exact (Kd.R_reads' HO314.out).2.1); (case side3 => refine (Kd.R_reads' (e := 40) (base := w.heap.size) (ok := fun k_ => (w.heap.size ≤ k_)) (n := y318.length) (c := co29) ?_).2.2; exact (by (with_reducible repeat (first | apply Kd.R_alloc | apply Kd.R_drewN | apply Kd.R_drew)); exact (Kd.R_mono (Kd.R_far (p := ⟨gb308, 7, none⟩) (Kd.R_far (p := ⟨gb308, 6, none⟩) (Kd.R_types HO320.out BK308.out (by decide)) (fun _ hk => hk.2) (.slice Ao27 y312.length co27)) (fun _ hk => hk.2) (.slice Ao29 y318.length co29)) (fun _ h_ => h_.1)))); (case side4 => exact (Kd.R_reads' HO320.out).2.1); rintro e w33 ⟨v328, v331, rfl, ho0, ho1, hb⟩; refine ⟨_, rfl, ?_⟩; have n0_ := Aside0.mk (Kd.V_mono (Kd.V_told (Kd.V_told (Kd.V_old (by (with_reducible repeat (first | apply Kd.V_alloc | apply Kd.V_drewN | apply Kd.V_drew)); exact (Kd.V_mono (Kd.V_far (p := ⟨gb308, 7, none⟩) (Kd.V_far (p := ⟨gb308, 6, none⟩) (Kd.V_mono HO0_6.out (fun k_ hk => (⟨hk, hk.1.2.2.2.2⟩ : _ ∧ k_ ≠ gb308))) (fun _ hk => hk.2) (.slice Ao27 y312.length co27)) (fun _ hk => hk.2) (.slice Ao29 y318.length co29)) (fun _ h_ => h_.1))) hb) (Kd.R_base ho0)) (Kd.R_base ho1)) (fun _ h_ => h_.1)); have n1_ := Aside0.mk (Kd.V_mono (Kd.V_told (Kd.V_told (Kd.V_old (by (with_reducible repeat (first | apply Kd.V_alloc | apply Kd.V_drewN | apply Kd.V_drew)); exact (Kd.V_mono (Kd.V_far (p := ⟨gb308, 7, none⟩) (Kd.V_far (p := ⟨gb308, 6, none⟩) (Kd.V_mono HO0_7.out (fun k_ hk => (⟨hk, hk.1.2.2.2.2⟩ : _ ∧ k_ ≠ gb308))) (fun _ hk => hk.2) (.slice Ao27 y312.length co27)) (fun _ hk => hk.2) (.slice Ao29 y318.length co29)) (fun _ h_ => h_.1))) hb) (Kd.R_base ho0)) (Kd.R_base ho1)) (fun _ h_ => h_.1)); have n2_ := Aside0.mk (Kd.N_mono (Kd.N_told (Kd.N_told (Kd.N_old (by (with_reducible repeat (first | apply Kd.N_alloc | apply Kd.N_drewN | apply Kd.N_drew)); exact (Kd.N_mono (Kd.N_far (p := ⟨gb308, 7, none⟩) (Kd.N_far (p := ⟨gb308, 6, none⟩) (Kd.N_mono HO305.out (fun k_ hk => (⟨hk, hk.1.2.2.2⟩ : _ ∧ k_ ≠ gb308))) (fun _ hk => hk.2) (.slice Ao27 y312.length co27)) (fun _ hk => hk.2) (.slice Ao29 y318.length co29)) (fun _ h_ => h_.1))) hb) (Kd.R_base ho0)) (Kd.R_base ho1)) (fun _ h_ => h_.1)); have n3_ := Aside0.mk (Kd.R_elder' (by (with_reducible repeat (first | apply Kd.R_alloc | apply Kd.R_drewN | apply Kd.R_drew)); exact (Kd.R_mono (Kd.R_far (p := ⟨gb308, 7, none⟩) (Kd.R_far (p := ⟨gb308, 6, none⟩) (Kd.R_types HO314.out BK308.out (by decide)) (fun _ hk => hk.2) (.slice Ao27 y312.length co27)) (fun _ hk => hk.2) (.slice Ao29 y318.length co29)) (fun _ h_ => h_.1))) (Kd.R_base ho0) hb); have n4_ := Aside0.mk (Kd.R_elder' (by (with_reducible repeat (first | apply Kd.R_alloc | apply Kd.R_drewN | apply Kd.R_drew)); exact (Kd.R_mono (Kd.R_far (p := ⟨gb308, 7, none⟩) (Kd.R_far (p := ⟨gb308, 6, none⟩) (Kd.R_types HO320.out BK308.out (by decide)) (fun _ hk => hk.2) (.slice Ao27 y312.length co27)) (fun _ hk => hk.2) (.slice Ao29 y318.length co29)) (fun _ h_ => h_.1))) (Kd.R_base ho1) hb); have n5_ := Aside0.mk (Kd.R_lower (Kd.R_new' (Kd.R_newM (M := fun k_ => (w.heap.size ≤ k_)) ho0 (below_size (by repeat (first | (with_reducible first | exact HB.out | apply below_alloc | apply pw_below_drewN | apply below_drew1 | refine below_set ?_ GE302.out | refine below_set ?_ GE308.out) | exact HB.out))) (fun k_ h_ => h_)) (Kd.R_lt (by (with_reducible repeat (first | apply Kd.R_alloc | apply Kd.R_drewN | apply Kd.R_drew)); exact (Kd.R_mono (Kd.R_far (p := ⟨gb308, 7, none⟩) (Kd.R_far (p := ⟨gb308, 6, none⟩) (Kd.R_types HO314.out BK308.out (by decide)) (fun _ hk => hk.2) (.slice Ao27 y312.length co27)) (fun _ hk => hk.2) (.slice Ao29 y318.length co29)) (fun _ h_ => h_.1))))) (below_size (by repeat (first | (with_reducible first | exact HB.out | apply below_alloc | apply pw_below_drewN | apply below_drew1 | refine below_set ?_ GE302.out | refine below_set ?_ GE308.out) | exact HB.out)))); have n6_ := Aside0.mk (Kd.R_lower (Kd.R_new' (Kd.R_newM (M := fun k_ => (w.heap.size ≤ k_)) ho1 (below_size (by repeat (first | (with_reducible first | exact HB.out | apply below_alloc | apply pw_below_drewN | apply below_drew1 | refine below_set ?_ GE302.out | refine below_set ?_ GE308.out) | exact HB.out))) (fun k_ h_ => h_)) (Kd.R_lt (by (with_reducible repeat (first | apply Kd.R_alloc | apply Kd.R_drewN | apply Kd.R_drew)); exact (Kd.R_mono (Kd.R_far (p := ⟨gb308, 7, none⟩) (Kd.R_far (p := ⟨gb308, 6, none⟩) (Kd.R_types HO320.out BK308.out (by decide)) (fun _ hk => hk.2) (.slice Ao27 y312.length co27)) (fun _ hk => hk.2) (.slice Ao29 y318.length co29)) (fun _ h_ => h_.1))))) (below_size (by repeat (first | (with_reducible first | exact HB.out | apply below_alloc | apply pw_below_drewN | apply below_drew1 | refine below_set ?_ GE302.out | refine below_set ?_ GE308.out) | exact HB.out)))); have n7_ := Aside0.mk (blk_below (g := gb302) (o := .cells #[.int .i64 a0_0, .int .i64 a0_1, .int .i64 a0_2, .int .i64 a0_3, .int .i64 a0_4, .int .i64 a0_5, .slice A0_6 l0_6.length c0_6, .slice A0_7 l0_7.length c0_7, .bool a0_8] 29 (0, 0)) (by (with_reducible repeat (first | refine blk_drewN ?_ _ | refine blk_drew ?_ | refine blk_alloc ?_ _)); refine blk_far ?_ NB302_308.out _; (with_reducible repeat (first | refine blk_drewN ?_ _ | refine blk_drew ?_ | refine blk_alloc ?_ _)); refine blk_far ?_ NB302_308.out _; (with_reducible repeat (first | refine blk_drewN ?_ _ | refine blk_drew ?_ | refine blk_alloc ?_ _)); exact BK302.out) hb); have n8_ := Aside0.mk (blk_below (g := gb308) (o := .cells #[.int .i64 a0_0, .int .i64 a0_1, .int .i64 a0_2, .int .i64 a0_3, .int .i64 a0_4, .int .i64 a0_5, .slice Ao27 y312.length co27, .slice Ao29 y318.length co29, .bool a0_8] 29 (0, 0)) (by (with_reducible repeat (first | refine blk_drewN ?_ _ | refine blk_drew ?_ | refine blk_alloc ?_ _)); refine blk_put (cs := #[.int .i64 a0_0, .int .i64 a0_1, .int .i64 a0_2, .int .i64 a0_3, .int .i64 a0_4, .int .i64 a0_5, .slice Ao27 y312.length co27, .slice A0_7 l0_7.length c0_7, .bool a0_8]) ?_ 7 _ rfl; (with_reducible repeat (first | refine blk_drewN ?_ _ | refine blk_drew ?_ | refine blk_alloc ?_ _)); refine blk_put (cs := #[.int .i64 a0_0, .int .i64 a0_1, .int .i64 a0_2, .int .i64 a0_3, .int .i64 a0_4, .int .i64 a0_5, .slice A0_6 l0_6.length c0_6, .slice A0_7 l0_7.length c0_7, .bool a0_8]) ?_ 6 _ rfl; (with_reducible repeat (first | refine blk_drewN ?_ _ | refine blk_drew ?_ | refine blk_alloc ?_ _)); exact BK308.out) hb); have n9_ := Aside0.mk (below_step (by repeat (first | (with_reducible first | exact HB.out | apply below_alloc | apply pw_below_drewN | apply below_drew1 | refine below_set ?_ GE302.out | refine below_set ?_ GE308.out) | exact HB.out)) hb); clear HO0_6; clear HO0_7; clear HO305; clear HO314; clear HO320; clear BK302; clear BK308; clear HB; have HO0_6 := n0_; have HO0_7 := n1_; have HO305 := n2_; have HO314 := n3_; have HO320 := n4_; have HO329 := n5_; have HO332 := n6_; have BK302 := n7_; have BK308 := n8_; have HB := n9_; clear n0_ n1_ n2_ n3_ n4_ n5_ n6_ n7_ n8_ n9_; (try clear hb); (try clear hb2); (try clear hk); (try clear hi); (try clear ho0); (try clear ho1); obtain ⟨Ao34, co34, eo34⟩ := Kd.R_slice HO329.out; subst eo34; obtain ⟨Ao35, co35, eo35⟩ := Kd.R_slice HO332.out; subst eo35) | ((with_reducible refine gate_dst (N := 4) rfl ?_); refine alloc_store_event ?hg1 (N := 4) ?hd1 ?hg2 ?hd2 ?ho2 (cs0 := #[.int .i64 0, .int .i64 0, .int .i64 0, .int .i64 0, .int .i64 0, .int .i64 0, .slice none 0 0, .slice none 0 0, .bool false]) (cs := #[.int .i64 t321, .int .i64 t322, .int .i64 t323, .int .i64 t324, .int .i64 t325, .int .i64 t326, .slice Ao34 t327.length co34, .slice Ao35 t330.length co35, .bool t333]) (t := 29) (x := ?xxw36) ?hr ?hp ?hx ?hs ?h1 ?ht ?_; (case hg1 => rfl); (case hd1 => rfl); (case hg2 => rfl); (case hd2 => rfl); (case ho2 => rfl); (case hr => first | (go_simp; done) | (go_simp; rfl)); (case hp => rfl); (case hx => rfl); (case hs => rfl); (case h1 => rfl); (case ht => kernel_rfl); intro gb334 hg w36 hbox hb; have n0_ := Aside0.mk (Kd.V_below (Kd.V_elderB (kv_ HO0_6.out) gb334 (Nat.le_of_eq hg.symm)) hb); have n1_ := Aside0.mk (Kd.V_below (Kd.V_elderB (kv_ HO0_7.out) gb334 (Nat.le_of_eq hg.symm)) hb); have n2_ := Aside0.mk (Kd.N_below (Kd.N_elderB (kn_ HO305.out) gb334 (Nat.le_of_eq hg.symm)) hb); have n3_ := Aside0.mk (Kd.R_below (kr_ HO314.out) hb); have n4_ := Aside0.mk (Kd.R_below (kr_ HO320.out) hb); have n5_ := Aside0.mk (Kd.R_below (kr_ HO329.out) hb); have n6_ := Aside0.mk (Kd.R_below (kr_ HO332.out) hb); have n7_ := Aside0.mk (blk_below (kb_ BK302.out) hb); have n8_ := Aside0.mk (blk_below (kb_ BK308.out) hb); have n9_ := Aside0.mk (below_step (by repeat (first | (with_reducible first | exact HB.out | apply below_alloc | apply pw_below_drewN | apply below_drew1 | refine below_set ?_ GE302.out | refine below_set ?_ GE308.out) | exact HB.out)) hb); have n10_ := Aside0.mk (hbox); have n11_ := Aside0.mk ((by rw [hg]; exact (below_size (by repeat (first | (with_reducible first | exact HB.out | apply below_alloc | apply pw_below_drewN | apply below_drew1 | refine below_set ?_ GE302.out | refine below_set ?_ GE308.out) | exact HB.out))) : w.heap.size ≤ gb334)); have n12_ := Aside0.mk ((by rw [hg]; exact (below_size (by repeat (first | (with_reducible first | exact HB.out | apply below_alloc | apply pw_below_drewN | apply below_drew1 | refine below_set ?_ GE302.out | refine below_set ?_ GE308.out) | exact HB.out))) : w.heap.size ≤ gb334)); have n13_ := Aside0.mk ((by rw [hg]; exact Nat.ne_of_lt (blk_lt (kb_ BK302.out)) : gb302 ≠ gb334)); have n14_ := Aside0.mk ((by rw [hg]; exact Nat.ne_of_gt (blk_lt (kb_ BK302.out)) : gb334 ≠ gb302)); have n15_ := Aside0.mk ((by rw [hg]; exact Nat.ne_of_lt (blk_lt (kb_ BK308.out)) : gb308 ≠ gb334)); have n16_ := Aside0.mk ((by rw [hg]; exact Nat.ne_of_gt (blk_lt (kb_ BK308.out)) : gb334 ≠ gb308)); clear HO0_6; clear HO0_7; clear HO305; clear HO314; clear HO320; clear HO329; clear HO332; clear BK302; clear BK308; clear HB; have HO0_6 := n0_; have HO0_7 := n1_; have HO305 := n2_; have HO314 := n3_; have HO320 := n4_; have HO329 := n5_; have HO332 := n6_; have BK302 := n7_; have BK308 := n8_; have HB := n9_; have BK334 := n10_; have GW334 := n11_; have GE334 := n12_; have NB302_334 := n13_; have NB334_302 := n14_; have NB308_334 := n15_; have NB334_308 := n16_; clear n0_ n1_ n2_ n3_ n4_ n5_ n6_ n7_ n8_ n9_ n10_ n11_ n12_ n13_ n14_ n15_ n16_; clear hb hbox hg) | ((with_reducible refine gate_dst (N := 29) rfl ?_); refine blk_load_event ?lg (N := 29) ?ld (t := 29) (x := ?lxxz37) ?lo (g := gb334) ?lx (cs := _) BK334.out ?lD ?lt ?_; (case lg => rfl); (case ld => rfl); (case lo => rfl); (case lx => first | rfl | (go_simp; done) | (go_simp; rfl)); (case lD => exact ⟨_, Try.underlying29, rfl⟩); (case lt => kernel_rfl)) | ((with_reducible refine gate_dst (N := 30) rfl ?_); refine blk_load_event ?lg (N := 30) ?ld (t := 29) (x := ?lxxz38) ?lo (g := gb302) ?lx (cs := _) BK302.out ?lD ?lt ?_; (case lg => rfl); (case ld => rfl); (case lo => rfl); (case lx => first | rfl | (go_simp; done) | (go_simp; rfl)); (case lD => exact ⟨_, Try.underlying29, rfl⟩); (case lt => kernel_rfl)) | ((with_reducible refine gate_callee (f := 11) rfl ?_); refine goesL_ (some 31) rfl rfl Try.func11 (by kernel_rfl) rfl #[.agg #[.int .i64 t321, .int .i64 t322, .int .i64 t323, .int .i64 t324, .int .i64 t325, .int .i64 t326, .slice Ao34 t327.length co34, .slice Ao35 t330.length co35, .bool t333], .agg #[.int .i64 a0_0, .int .i64 a0_1, .int .i64 a0_2, .int .i64 a0_3, .int .i64 a0_4, .int .i64 a0_5, .slice A0_6 l0_6.length c0_6, .slice A0_7 l0_7.length c0_7, .bool a0_8]] rfl (by (try simp only [List.map_toArray, List.map_cons, List.map_nil]); first | done | rfl | (simp only [List.length_drop, List.length_take]; rfl)) ?_; (with_reducible refine (althingref05_Same.calls k t321 t322 t323 t324 t325 t326 _ _ t327 _ _ t330 t333 a0_0 a0_1 a0_2 a0_3 a0_4 a0_5 _ _ l0_6 _ _ l0_7 a0_8 true _ ?side1 ?side2 ?side3 ?side4 ?side5 ?side6 ?side7 ?side8 A7.out).mono ?_); (case side1 => repeat (first | exact (Kd.R_reads' HO329.out).2.2 | (with_reducible refine Kd.C_alloc ?_ _) | (with_reducible refine Kd.C_drewN ?_ _) | (with_reducible refine Kd.C_drew ?_))); (case side2 => exact (Kd.R_reads' HO329.out).2.1); (case side3 => repeat (first | exact (Kd.R_reads' HO332.out).2.2 | (with_reducible refine Kd.C_alloc ?_ _) | (with_reducible refine Kd.C_drewN ?_ _) | (with_reducible refine Kd.C_drew ?_))); (case side4 => exact (Kd.R_reads' HO332.out).2.1); (case side5 => repeat (first | exact (Kd.V_reads' HO0_6.out).2.2 | (with_reducible refine Kd.C_alloc ?_ _) | (with_reducible refine Kd.C_drewN ?_ _) | (with_reducible refine Kd.C_drew ?_))); (case side6 => exact (Kd.V_reads' HO0_6.out).2.1); (case side7 => repeat (first | exact (Kd.V_reads' HO0_7.out).2.2 | (with_reducible refine Kd.C_alloc ?_ _) | (with_reducible refine Kd.C_drewN ?_ _) | (with_reducible refine Kd.C_drew ?_))); (case side8 => exact (Kd.V_reads' HO0_7.out).2.1); rintro e w39 ⟨rfl, hb⟩; refine ⟨_, rfl, ?_⟩; have n0_ := Aside0.mk (Kd.V_below (kv_ HO0_6.out) hb); have n1_ := Aside0.mk (Kd.V_below (kv_ HO0_7.out) hb); have n2_ := Aside0.mk (Kd.N_below (kn_ HO305.out) hb); have n3_ := Aside0.mk (Kd.R_below (kr_ HO314.out) hb); have n4_ := Aside0.mk (Kd.R_below (kr_ HO320.out) hb); have n5_ := Aside0.mk (Kd.R_below (kr_ HO329.out) hb); have n6_ := Aside0.mk (Kd.R_below (kr_ HO332.out) hb); have n7_ := Aside0.mk (blk_below (kb_ BK302.out) hb); have n8_ := Aside0.mk (blk_below (kb_ BK308.out) hb); have n9_ := Aside0.mk (blk_below (kb_ BK334.out) hb); have n10_ := Aside0.mk (below_step (by repeat (first | (with_reducible first | exact HB.out | apply below_alloc | apply pw_below_drewN | apply below_drew1 | refine below_set ?_ GE302.out | refine below_set ?_ GE308.out | refine below_set ?_ GE334.out) | exact HB.out)) hb); clear HO0_6; clear HO0_7; clear HO305; clear HO314; clear HO320; clear HO329; clear HO332; clear BK302; clear BK308; clear BK334; clear HB; have HO0_6 := n0_; have HO0_7 := n1_; have HO305 := n2_; have HO314 := n3_; have HO320 := n4_; have HO329 := n5_; have HO332 := n6_; have BK302 := n7_; have BK308 := n8_; have BK334 := n9_; have HB := n10_; clear n0_ n1_ n2_ n3_ n4_ n5_ n6_ n7_ n8_ n9_ n10_; (try clear hb); (try clear hb2); (try clear hk); (try clear hi)) | ((with_reducible refine gate_dst (N := 33) rfl ?_); refine blk_load_event ?lg (N := 33) ?ld (t := 29) (x := ?lxxz40) ?lo (g := gb334) ?lx (cs := _) BK334.out ?lD ?lt ?_; (case lg => rfl); (case ld => rfl); (case lo => rfl); (case lx => first | rfl | (go_simp; done) | (go_simp; rfl)); (case lD => exact ⟨_, Try.underlying29, rfl⟩); (case lt => kernel_rfl)) | ((with_reducible refine gate_callee (f := 10) rfl ?_); refine goesL_ (some 34) rfl rfl Try.func10 (by kernel_rfl) rfl #[.agg #[.int .i64 t321, .int .i64 t322, .int .i64 t323, .int .i64 t324, .int .i64 t325, .int .i64 t326, .slice Ao34 t327.length co34, .slice Ao35 t330.length co35, .bool t333]] rfl (by (try simp only [List.map_toArray, List.map_cons, List.map_nil]); first | done | rfl | (simp only [List.length_drop, List.length_take]; rfl)) ?_; (with_reducible refine (command_Clone.calls t321 t322 t323 t324 t325 t326 _ _ t327 _ _ t330 t333 t336 t337 t338 t339 t340 t341 t342 t345 t348 _ ?side1 ?side2 ?side3 ?side4 A9.out).mono ?_); (case side1 => repeat (first | exact (Kd.R_reads' HO329.out).2.2 | (with_reducible refine Kd.C_alloc ?_ _) | (with_reducible refine Kd.C_drewN ?_ _) | (with_reducible refine Kd.C_drew ?_))); (case side2 => exact (Kd.R_reads' HO329.out).2.1); (case side3 => repeat (first | exact (Kd.R_reads' HO332.out).2.2 | (with_reducible refine Kd.C_alloc ?_ _) | (with_reducible refine Kd.C_drewN ?_ _) | (with_reducible refine Kd.C_drew ?_))); (case side4 => exact (Kd.R_reads' HO332.out).2.1); rintro e w41 ⟨v343, v346, rfl, ho0, ho1, hb⟩; refine ⟨_, rfl, ?_⟩; have n0_ := Aside0.mk (Kd.V_mono (Kd.V_told (Kd.V_told (Kd.V_old (kv_ HO0_6.out) hb) (Kd.R_base ho0)) (Kd.R_base ho1)) (fun _ h_ => h_.1)); have n1_ := Aside0.mk (Kd.V_mono (Kd.V_told (Kd.V_told (Kd.V_old (kv_ HO0_7.out) hb) (Kd.R_base ho0)) (Kd.R_base ho1)) (fun _ h_ => h_.1)); have n2_ := Aside0.mk (Kd.N_mono (Kd.N_told (Kd.N_told (Kd.N_old (kn_ HO305.out) hb) (Kd.R_base ho0)) (Kd.R_base ho1)) (fun _ h_ => h_.1)); have n3_ := Aside0.mk (Kd.R_elder' (kr_ HO314.out) (Kd.R_base ho0) hb); have n4_ := Aside0.mk (Kd.R_elder' (kr_ HO320.out) (Kd.R_base ho1) hb); have n5_ := Aside0.mk (Kd.R_elder' (kr_ HO329.out) (Kd.R_base ho0) hb); have n6_ := Aside0.mk (Kd.R_elder' (kr_ HO332.out) (Kd.R_base ho1) hb); have n7_ := Aside0.mk (Kd.R_lower (Kd.R_new' (Kd.R_new' (Kd.R_newM (M := fun k_ => (w.heap.size ≤ k_)) ho0 (below_size (by repeat (first | (with_reducible first | exact HB.out | apply below_alloc | apply pw_below_drewN | apply below_drew1 | refine below_set ?_ GE302.out | refine below_set ?_ GE308.out | refine below_set ?_ GE334.out) | exact HB.out))) (fun k_ h_ => h_)) (Kd.R_lt (kr_ HO314.out))) (Kd.R_lt (kr_ HO329.out))) (below_size (by repeat (first | (with_reducible first | exact HB.out | apply below_alloc | apply pw_below_drewN | apply below_drew1 | refine below_set ?_ GE302.out | refine below_set ?_ GE308.out | refine below_set ?_ GE334.out) | exact HB.out)))); have n8_ := Aside0.mk (Kd.R_lower (Kd.R_new' (Kd.R_new' (Kd.R_newM (M := fun k_ => (w.heap.size ≤ k_)) ho1 (below_size (by repeat (first | (with_reducible first | exact HB.out | apply below_alloc | apply pw_below_drewN | apply below_drew1 | refine below_set ?_ GE302.out | refine below_set ?_ GE308.out | refine below_set ?_ GE334.out) | exact HB.out))) (fun k_ h_ => h_)) (Kd.R_lt (kr_ HO320.out))) (Kd.R_lt (kr_ HO332.out))) (below_size (by repeat (first | (with_reducible first | exact HB.out | apply below_alloc | apply pw_below_drewN | apply below_drew1 | refine below_set ?_ GE302.out | refine below_set ?_ GE308.out | refine below_set ?_ GE334.out) | exact HB.out)))); have n9_ := Aside0.mk (blk_below (kb_ BK302.out) hb); have n10_ := Aside0.mk (blk_below (kb_ BK308.out) hb); have n11_ := Aside0.mk (blk_below (kb_ BK334.out) hb); have n12_ := Aside0.mk (below_step (by repeat (first | (with_reducible first | exact HB.out | apply below_alloc | apply pw_below_drewN | apply below_drew1 | refine below_set ?_ GE302.out | refine below_set ?_ GE308.out | refine below_set ?_ GE334.out) | exact HB.out)) hb); clear HO0_6; clear HO0_7; clear HO305; clear HO314; clear HO320; clear HO329; clear HO332; clear BK302; clear BK308; clear BK334; clear HB; have HO0_6 := n0_; have HO0_7 := n1_; have HO305 := n2_; have HO314 := n3_; have HO320 := n4_; have HO329 := n5_; have HO332 := n6_; have HO344 := n7_; have HO347 := n8_; have BK302 := n9_; have BK308 := n10_; have BK334 := n11_; have HB := n12_; clear n0_ n1_ n2_ n3_ n4_ n5_ n6_ n7_ n8_ n9_ n10_ n11_ n12_; (try clear hb); (try clear hb2); (try clear hk); (try clear hi); (try clear ho0); (try clear ho1); obtain ⟨Ao42, co42, eo42⟩ := Kd.R_slice HO344.out; subst eo42; obtain ⟨Ao43, co43, eo43⟩ := Kd.R_slice HO347.out; subst eo43) | ((with_reducible refine gate_dst (N := 5) rfl ?_); refine alloc_store_event ?hg1 (N := 5) ?hd1 ?hg2 ?hd2 ?ho2 (cs0 := #[.int .i64 0, .int .i64 0, .int .i64 0, .int .i64 0, .int .i64 0, .int .i64 0, .slice none 0 0, .slice none 0 0, .bool false]) (cs := #[.int .i64 t336, .int .i64 t337, .int .i64 t338, .int .i64 t339, .int .i64 t340, .int .i64 t341, .slice Ao42 t342.length co42, .slice Ao43 t345.length co43, .bool t348]) (t := 29) (x := ?xxw44) ?hr ?hp ?hx ?hs ?h1 ?ht ?_; (case hg1 => rfl); (case hd1 => rfl); (case hg2 => rfl); (case hd2 => rfl); (case ho2 => rfl); (case hr => first | (go_simp; done) | (go_simp; rfl)); (case hp => rfl); (case hx => rfl); (case hs => rfl); (case h1 => rfl); (case ht => kernel_rfl); intro gb349 hg w44 hbox hb; have n0_ := Aside0.mk (Kd.V_below (Kd.V_elderB (kv_ HO0_6.out) gb349 (Nat.le_of_eq hg.symm)) hb); have n1_ := Aside0.mk (Kd.V_below (Kd.V_elderB (kv_ HO0_7.out) gb349 (Nat.le_of_eq hg.symm)) hb); have n2_ := Aside0.mk (Kd.N_below (Kd.N_elderB (kn_ HO305.out) gb349 (Nat.le_of_eq hg.symm)) hb); have n3_ := Aside0.mk (Kd.R_below (kr_ HO314.out) hb); have n4_ := Aside0.mk (Kd.R_below (kr_ HO320.out) hb); have n5_ := Aside0.mk (Kd.R_below (kr_ HO329.out) hb); have n6_ := Aside0.mk (Kd.R_below (kr_ HO332.out) hb); have n7_ := Aside0.mk (Kd.R_below (kr_ HO344.out) hb); have n8_ := Aside0.mk (Kd.R_below (kr_ HO347.out) hb); have n9_ := Aside0.mk (blk_below (kb_ BK302.out) hb); have n10_ := Aside0.mk (blk_below (kb_ BK308.out) hb); have n11_ := Aside0.mk (blk_below (kb_ BK334.out) hb); have n12_ := Aside0.mk (below_step (by repeat (first | (with_reducible first | exact HB.out | apply below_alloc | apply pw_below_drewN | apply below_drew1 | refine below_set ?_ GE302.out | refine below_set ?_ GE308.out | refine below_set ?_ GE334.out) | exact HB.out)) hb); have n13_ := Aside0.mk (hbox); have n14_ := Aside0.mk ((by rw [hg]; exact (below_size (by repeat (first | (with_reducible first | exact HB.out | apply below_alloc | apply pw_below_drewN | apply below_drew1 | refine below_set ?_ GE302.out | refine below_set ?_ GE308.out | refine below_set ?_ GE334.out) | exact HB.out))) : w.heap.size ≤ gb349)); have n15_ := Aside0.mk ((by rw [hg]; exact (below_size (by repeat (first | (with_reducible first | exact HB.out | apply below_alloc | apply pw_below_drewN | apply below_drew1 | refine below_set ?_ GE302.out | refine below_set ?_ GE308.out | refine below_set ?_ GE334.out) | exact HB.out))) : w.heap.size ≤ gb349)); have n16_ := Aside0.mk ((by rw [hg]; exact Nat.ne_of_lt (blk_lt (kb_ BK302.out)) : gb302 ≠ gb349)); have n17_ := Aside0.mk ((by rw [hg]; exact Nat.ne_of_gt (blk_lt (kb_ BK302.out)) : gb349 ≠ gb302)); have n18_ := Aside0.mk ((by rw [hg]; exact Nat.ne_of_lt (blk_lt (kb_ BK308.out)) : gb308 ≠ gb349)); have n19_ := Aside0.mk ((by rw [hg]; exact Nat.ne_of_gt (blk_lt (kb_ BK308.out)) : gb349 ≠ gb308)); have n20_ := Aside0.mk ((by rw [hg]; exact Nat.ne_of_lt (blk_lt (kb_ BK334.out)) : gb334 ≠ gb349)); have n21_ := Aside0.mk ((by rw [hg]; exact Nat.ne_of_gt (blk_lt (kb_ BK334.out)) : gb349 ≠ gb334)); clear HO0_6; clear HO0_7; clear HO305; clear HO314; clear HO320; clear HO329; clear HO332; clear HO344; clear HO347; clear BK302; clear BK308; clear BK334; clear HB; have HO0_6 := n0_; have HO0_7 := n1_; have HO305 := n2_; have HO314 := n3_; have HO320 := n4_; have HO329 := n5_; have HO332 := n6_; have HO344 := n7_; have HO347 := n8_; have BK302 := n9_; have BK308 := n10_; have BK334 := n11_; have HB := n12_; have BK349 := n13_; have GW349 := n14_; have GE349 := n15_; have NB302_349 := n16_; have NB349_302 := n17_; have NB308_349 := n18_; have NB349_308 := n19_; have NB334_349 := n20_; have NB349_334 := n21_; clear n0_ n1_ n2_ n3_ n4_ n5_ n6_ n7_ n8_ n9_ n10_ n11_ n12_ n13_ n14_ n15_ n16_ n17_ n18_ n19_ n20_ n21_; clear hb hbox hg) | ((with_reducible refine gate_dst (N := 36) rfl ?_); refine blk_load_event ?lg (N := 36) ?ld (t := 29) (x := ?lxxz45) ?lo (g := gb349) ?lx (cs := _) BK349.out ?lD ?lt ?_; (case lg => rfl); (case ld => rfl); (case lo => rfl); (case lx => first | rfl | (go_simp; done) | (go_simp; rfl)); (case lD => exact ⟨_, Try.underlying29, rfl⟩); (case lt => kernel_rfl)) | ((with_reducible refine gate_callee (f := 12) rfl ?_); refine goesL_ (some 37) rfl rfl Try.func12 (by kernel_rfl) rfl #[.agg #[.int .i64 t336, .int .i64 t337, .int .i64 t338, .int .i64 t339, .int .i64 t340, .int .i64 t341, .slice Ao42 t342.length co42, .slice Ao43 t345.length co43, .bool t348], .bool true] rfl (by (try simp only [List.map_toArray, List.map_cons, List.map_nil]); first | done | rfl | (simp only [List.length_drop, List.length_take]; rfl)) ?_; (with_reducible refine (command_Decided.calls k t336 t337 t338 t339 t340 t341 _ _ t342 _ _ t345 t348 true t350 t351 t352 t353 t354 t355 t356 t359 t362 t363 _ ?side1 ?side2 ?side3 ?side4 A10.out).mono ?_); (case side1 => repeat (first | exact (Kd.R_reads' HO344.out).2.2 | (with_reducible refine Kd.C_alloc ?_ _) | (with_reducible refine Kd.C_drewN ?_ _) | (with_reducible refine Kd.C_drew ?_))); (case side2 => exact (Kd.R_reads' HO344.out).2.1); (case side3 => repeat (first | exact (Kd.R_reads' HO347.out).2.2 | (with_reducible refine Kd.C_alloc ?_ _) | (with_reducible refine Kd.C_drewN ?_ _) | (with_reducible refine Kd.C_drew ?_))); (case side4 => exact (Kd.R_reads' HO347.out).2.1); rintro e w46 ⟨v357, v360, rfl, ho0, ho1, hb⟩; refine ⟨_, rfl, ?_⟩; have n0_ := Aside0.mk (Kd.V_mono (Kd.V_told (Kd.V_told (Kd.V_old (kv_ HO0_6.out) hb) (Kd.R_base ho0)) (Kd.R_base ho1)) (fun _ h_ => h_.1)); have n1_ := Aside0.mk (Kd.V_mono (Kd.V_told (Kd.V_told (Kd.V_old (kv_ HO0_7.out) hb) (Kd.R_base ho0)) (Kd.R_base ho1)) (fun _ h_ => h_.1)); have n2_ := Aside0.mk (Kd.N_mono (Kd.N_told (Kd.N_told (Kd.N_old (kn_ HO305.out) hb) (Kd.R_base ho0)) (Kd.R_base ho1)) (fun _ h_ => h_.1)); have n3_ := Aside0.mk (Kd.R_elder' (kr_ HO314.out) (Kd.R_base ho0) hb); have n4_ := Aside0.mk (Kd.R_elder' (kr_ HO320.out) (Kd.R_base ho1) hb); have n5_ := Aside0.mk (Kd.R_elder' (kr_ HO329.out) (Kd.R_base ho0) hb); have n6_ := Aside0.mk (Kd.R_elder' (kr_ HO332.out) (Kd.R_base ho1) hb); have n7_ := Aside0.mk (Kd.R_elder' (kr_ HO344.out) (Kd.R_base ho0) hb); have n8_ := Aside0.mk (Kd.R_elder' (kr_ HO347.out) (Kd.R_base ho1) hb); have n9_ := Aside0.mk (Kd.R_lower (Kd.R_new' (Kd.R_new' (Kd.R_new' (Kd.R_newM (M := fun k_ => (w.heap.size ≤ k_)) ho0 (below_size (by repeat (first | (with_reducible first | exact HB.out | apply below_alloc | apply pw_below_drewN | apply below_drew1 | refine below_set ?_ GE302.out | refine below_set ?_ GE308.out | refine below_set ?_ GE334.out | refine below_set ?_ GE349.out) | exact HB.out))) (fun k_ h_ => h_)) (Kd.R_lt (kr_ HO314.out))) (Kd.R_lt (kr_ HO329.out))) (Kd.R_lt (kr_ HO344.out))) (below_size (by repeat (first | (with_reducible first | exact HB.out | apply below_alloc | apply pw_below_drewN | apply below_drew1 | refine below_set ?_ GE302.out | refine below_set ?_ GE308.out | refine below_set ?_ GE334.out | refine below_set ?_ GE349.out) | exact HB.out)))); have n10_ := Aside0.mk (Kd.R_lower (Kd.R_new' (Kd.R_new' (Kd.R_new' (Kd.R_newM (M := fun k_ => (w.heap.size ≤ k_)) ho1 (below_size (by repeat (first | (with_reducible first | exact HB.out | apply below_alloc | apply pw_below_drewN | apply below_drew1 | refine below_set ?_ GE302.out | refine below_set ?_ GE308.out | refine below_set ?_ GE334.out | refine below_set ?_ GE349.out) | exact HB.out))) (fun k_ h_ => h_)) (Kd.R_lt (kr_ HO320.out))) (Kd.R_lt (kr_ HO332.out))) (Kd.R_lt (kr_ HO347.out))) (below_size (by repeat (first | (with_reducible first | exact HB.out | apply below_alloc | apply pw_below_drewN | apply below_drew1 | refine below_set ?_ GE302.out | refine below_set ?_ GE308.out | refine below_set ?_ GE334.out | refine below_set ?_ GE349.out) | exact HB.out)))); have n11_ := Aside0.mk (blk_below (kb_ BK302.out) hb); have n12_ := Aside0.mk (blk_below (kb_ BK308.out) hb); have n13_ := Aside0.mk (blk_below (kb_ BK334.out) hb); have n14_ := Aside0.mk (blk_below (kb_ BK349.out) hb); have n15_ := Aside0.mk (below_step (by repeat (first | (with_reducible first | exact HB.out | apply below_alloc | apply pw_below_drewN | apply below_drew1 | refine below_set ?_ GE302.out | refine below_set ?_ GE308.out | refine below_set ?_ GE334.out | refine below_set ?_ GE349.out) | exact HB.out)) hb); clear HO0_6; clear HO0_7; clear HO305; clear HO314; clear HO320; clear HO329; clear HO332; clear HO344; clear HO347; clear BK302; clear BK308; clear BK334; clear BK349; clear HB; have HO0_6 := n0_; have HO0_7 := n1_; have HO305 := n2_; have HO314 := n3_; have HO320 := n4_; have HO329 := n5_; have HO332 := n6_; have HO344 := n7_; have HO347 := n8_; have HO358 := n9_; have HO361 := n10_; have BK302 := n11_; have BK308 := n12_; have BK334 := n13_; have BK349 := n14_; have HB := n15_; clear n0_ n1_ n2_ n3_ n4_ n5_ n6_ n7_ n8_ n9_ n10_ n11_ n12_ n13_ n14_ n15_; (try clear hb); (try clear hb2); (try clear hk); (try clear hi); (try clear ho0); (try clear ho1); obtain ⟨Ao47, co47, eo47⟩ := Kd.R_slice HO358.out; subst eo47; obtain ⟨Ao48, co48, eo48⟩ := Kd.R_slice HO361.out; subst eo48) | ((with_reducible refine gate_dst (N := 6) rfl ?_); refine alloc_store_event ?hg1 (N := 6) ?hd1 ?hg2 ?hd2 ?ho2 (cs0 := #[.int .i64 0, .int .i64 0, .int .i64 0, .int .i64 0, .int .i64 0, .int .i64 0, .slice none 0 0, .slice none 0 0, .bool false]) (cs := #[.int .i64 t350, .int .i64 t351, .int .i64 t352, .int .i64 t353, .int .i64 t354, .int .i64 t355, .slice Ao47 t356.length co47, .slice Ao48 t359.length co48, .bool t362]) (t := 29) (x := ?xxw49) ?hr ?hp ?hx ?hs ?h1 ?ht ?_; (case hg1 => rfl); (case hd1 => rfl); (case hg2 => rfl); (case hd2 => rfl); (case ho2 => rfl); (case hr => first | (go_simp; done) | (go_simp; rfl)); (case hp => rfl); (case hx => rfl); (case hs => rfl); (case h1 => rfl); (case ht => kernel_rfl); intro gb364 hg w49 hbox hb; have n0_ := Aside0.mk (Kd.V_below (Kd.V_elderB (kv_ HO0_6.out) gb364 (Nat.le_of_eq hg.symm)) hb); have n1_ := Aside0.mk (Kd.V_below (Kd.V_elderB (kv_ HO0_7.out) gb364 (Nat.le_of_eq hg.symm)) hb); have n2_ := Aside0.mk (Kd.N_below (Kd.N_elderB (kn_ HO305.out) gb364 (Nat.le_of_eq hg.symm)) hb); have n3_ := Aside0.mk (Kd.R_below (kr_ HO314.out) hb); have n4_ := Aside0.mk (Kd.R_below (kr_ HO320.out) hb); have n5_ := Aside0.mk (Kd.R_below (kr_ HO329.out) hb); have n6_ := Aside0.mk (Kd.R_below (kr_ HO332.out) hb); have n7_ := Aside0.mk (Kd.R_below (kr_ HO344.out) hb); have n8_ := Aside0.mk (Kd.R_below (kr_ HO347.out) hb); have n9_ := Aside0.mk (Kd.R_below (kr_ HO358.out) hb); have n10_ := Aside0.mk (Kd.R_below (kr_ HO361.out) hb); have n11_ := Aside0.mk (blk_below (kb_ BK302.out) hb); have n12_ := Aside0.mk (blk_below (kb_ BK308.out) hb); have n13_ := Aside0.mk (blk_below (kb_ BK334.out) hb); have n14_ := Aside0.mk (blk_below (kb_ BK349.out) hb); have n15_ := Aside0.mk (below_step (by repeat (first | (with_reducible first | exact HB.out | apply below_alloc | apply pw_below_drewN | apply below_drew1 | refine below_set ?_ GE302.out | refine below_set ?_ GE308.out | refine below_set ?_ GE334.out | refine below_set ?_ GE349.out) | exact HB.out)) hb); have n16_ := Aside0.mk (hbox); have n17_ := Aside0.mk ((by rw [hg]; exact (below_size (by repeat (first | (with_reducible first | exact HB.out | apply below_alloc | apply pw_below_drewN | apply below_drew1 | refine below_set ?_ GE302.out | refine below_set ?_ GE308.out | refine below_set ?_ GE334.out | refine below_set ?_ GE349.out) | exact HB.out))) : w.heap.size ≤ gb364)); have n18_ := Aside0.mk ((by rw [hg]; exact (below_size (by repeat (first | (with_reducible first | exact HB.out | apply below_alloc | apply pw_below_drewN | apply below_drew1 | refine below_set ?_ GE302.out | refine below_set ?_ GE308.out | refine below_set ?_ GE334.out | refine below_set ?_ GE349.out) | exact HB.out))) : w.heap.size ≤ gb364)); have n19_ := Aside0.mk ((by rw [hg]; exact Nat.ne_of_lt (blk_lt (kb_ BK302.out)) : gb302 ≠ gb364)); have n20_ := Aside0.mk ((by rw [hg]; exact Nat.ne_of_gt (blk_lt (kb_ BK302.out)) : gb364 ≠ gb302)); have n21_ := Aside0.mk ((by rw [hg]; exact Nat.ne_of_lt (blk_lt (kb_ BK308.out)) : gb308 ≠ gb364)); have n22_ := Aside0.mk ((by rw [hg]; exact Nat.ne_of_gt (blk_lt (kb_ BK308.out)) : gb364 ≠ gb308)); have n23_ := Aside0.mk ((by rw [hg]; exact Nat.ne_of_lt (blk_lt (kb_ BK334.out)) : gb334 ≠ gb364)); have n24_ := Aside0.mk ((by rw [hg]; exact Nat.ne_of_gt (blk_lt (kb_ BK334.out)) : gb364 ≠ gb334)); have n25_ := Aside0.mk ((by rw [hg]; exact Nat.ne_of_lt (blk_lt (kb_ BK349.out)) : gb349 ≠ gb364)); have n26_ := Aside0.mk ((by rw [hg]; exact Nat.ne_of_gt (blk_lt (kb_ BK349.out)) : gb364 ≠ gb349)); clear HO0_6; clear HO0_7; clear HO305; clear HO314; clear HO320; clear HO329; clear HO332; clear HO344; clear HO347; clear HO358; clear HO361; clear BK302; clear BK308; clear BK334; clear BK349; clear HB; have HO0_6 := n0_; have HO0_7 := n1_; have HO305 := n2_; have HO314 := n3_; have HO320 := n4_; have HO329 := n5_; have HO332 := n6_; have HO344 := n7_; have HO347 := n8_; have HO358 := n9_; have HO361 := n10_; have BK302 := n11_; have BK308 := n12_; have BK334 := n13_; have BK349 := n14_; have HB := n15_; have BK364 := n16_; have GW364 := n17_; have GE364 := n18_; have NB302_364 := n19_; have NB364_302 := n20_; have NB308_364 := n21_; have NB364_308 := n22_; have NB334_364 := n23_; have NB364_334 := n24_; have NB349_364 := n25_; have NB364_349 := n26_; clear n0_ n1_ n2_ n3_ n4_ n5_ n6_ n7_ n8_ n9_ n10_ n11_ n12_ n13_ n14_ n15_ n16_ n17_ n18_ n19_ n20_ n21_ n22_ n23_ n24_ n25_ n26_; clear hb hbox hg; have hnb50 := NB364_302.out; have hnc50 := NB302_364.out; have hnb51 := NB364_308.out; have hnc51 := NB308_364.out; have hnb52 := NB364_334.out; have hnc52 := NB334_364.out; have hnb53 := NB364_349.out; have hnc53 := NB349_364.out; refine blk9_ BK364.out fun hcz54_0 hcz54_1 hcz54_2 hcz54_3 hcz54_4 hcz54_5 hcz54_6 hcz54_7 hcz54_8 hfz54_0 hfz54_1 hfz54_2 hfz54_3 hfz54_4 hfz54_5 hfz54_6 hfz54_7 hfz54_8 => ?_))
         go_loopg [43] k (fun kq v43 w' => ∃ (x43_1 : Int) (x303006_1 : List (S38)) (x309006_1 : List (S38)) (x335006_1 : List (S38)) (x350006_1 : List (S38)) (x365006_1 : List (S38)) (u303006 : Value) (u309006 : Value) (u335006 : Value) (u350006 : Value) (u365006 : Value), v43 = .int .i64 x43_1 ∧ Aside0 (althinglaw05_CommandClones.l0 kq (t356.length : Int) x43_1 a0_0 a0_1 a0_2 a0_3 a0_4 a0_5 x303006_1 l0_7 a0_8 a0_0 a0_1 a0_2 a0_3 a0_4 a0_5 x309006_1 y318 a0_8 t321 t322 t323 t324 t325 t326 x335006_1 t330 t333 t336 t337 t338 t339 t340 t341 x350006_1 t345 t348 t350 t351 t352 t353 t354 t355 x365006_1 t359 t362 = some r) ∧ Aside0 (kq ≤ k) ∧ Aside0 (Kd.V k38 38 w' w.heap.size (fun k_ => ((P0_6_ k_ ∨ P0_7_ k_) ∨ w.heap.size ≤ k_) ∧ some k_ ≠ (u309006 : Value).ownBlock ∧ some k_ ≠ ((.slice Ao29 y318.length co29) : Value).ownBlock ∧ some k_ ≠ (u335006 : Value).ownBlock ∧ some k_ ≠ ((.slice Ao35 t330.length co35) : Value).ownBlock ∧ some k_ ≠ (u350006 : Value).ownBlock ∧ some k_ ≠ ((.slice Ao43 t345.length co43) : Value).ownBlock ∧ some k_ ≠ (u365006 : Value).ownBlock ∧ some k_ ≠ ((.slice Ao48 t359.length co48) : Value).ownBlock ∧ k_ ≠ gb302 ∧ k_ ≠ gb308 ∧ k_ ≠ gb334 ∧ k_ ≠ gb349 ∧ k_ ≠ gb364) u303006 x303006_1) ∧ Aside0 (Kd.V k40 40 w' w.heap.size (fun k_ => ((P0_6_ k_ ∨ P0_7_ k_) ∨ w.heap.size ≤ k_) ∧ some k_ ≠ (u309006 : Value).ownBlock ∧ some k_ ≠ ((.slice Ao29 y318.length co29) : Value).ownBlock ∧ some k_ ≠ (u335006 : Value).ownBlock ∧ some k_ ≠ ((.slice Ao35 t330.length co35) : Value).ownBlock ∧ some k_ ≠ (u350006 : Value).ownBlock ∧ some k_ ≠ ((.slice Ao43 t345.length co43) : Value).ownBlock ∧ some k_ ≠ (u365006 : Value).ownBlock ∧ some k_ ≠ ((.slice Ao48 t359.length co48) : Value).ownBlock ∧ k_ ≠ gb302 ∧ k_ ≠ gb308 ∧ k_ ≠ gb334 ∧ k_ ≠ gb349 ∧ k_ ≠ gb364) (.slice A0_7 l0_7.length c0_7) l0_7) ∧ Aside0 (Kd.R k38 38 w' w.heap.size (fun k_ => (w.heap.size ≤ k_) ∧ some k_ ≠ (u335006 : Value).ownBlock ∧ some k_ ≠ (u350006 : Value).ownBlock ∧ some k_ ≠ (u365006 : Value).ownBlock) u309006 x309006_1) ∧ Aside0 (Kd.R k40 40 w' w.heap.size (fun k_ => (w.heap.size ≤ k_) ∧ some k_ ≠ ((.slice Ao35 t330.length co35) : Value).ownBlock ∧ some k_ ≠ ((.slice Ao43 t345.length co43) : Value).ownBlock ∧ some k_ ≠ ((.slice Ao48 t359.length co48) : Value).ownBlock) (.slice Ao29 y318.length co29) y318) ∧ Aside0 (Kd.R k38 38 w' w.heap.size (fun k_ => (w.heap.size ≤ k_) ∧ some k_ ≠ (u309006 : Value).ownBlock ∧ some k_ ≠ (u350006 : Value).ownBlock ∧ some k_ ≠ (u365006 : Value).ownBlock) u335006 x335006_1) ∧ Aside0 (Kd.R k40 40 w' w.heap.size (fun k_ => (w.heap.size ≤ k_) ∧ some k_ ≠ ((.slice Ao29 y318.length co29) : Value).ownBlock ∧ some k_ ≠ ((.slice Ao43 t345.length co43) : Value).ownBlock ∧ some k_ ≠ ((.slice Ao48 t359.length co48) : Value).ownBlock) (.slice Ao35 t330.length co35) t330) ∧ Aside0 (Kd.R k38 38 w' w.heap.size (fun k_ => (w.heap.size ≤ k_) ∧ some k_ ≠ (u309006 : Value).ownBlock ∧ some k_ ≠ (u335006 : Value).ownBlock ∧ some k_ ≠ (u365006 : Value).ownBlock) u350006 x350006_1) ∧ Aside0 (Kd.R k40 40 w' w.heap.size (fun k_ => (w.heap.size ≤ k_) ∧ some k_ ≠ ((.slice Ao29 y318.length co29) : Value).ownBlock ∧ some k_ ≠ ((.slice Ao35 t330.length co35) : Value).ownBlock ∧ some k_ ≠ ((.slice Ao48 t359.length co48) : Value).ownBlock) (.slice Ao43 t345.length co43) t345) ∧ Aside0 (Kd.R k38 38 w' w.heap.size (fun k_ => (w.heap.size ≤ k_) ∧ some k_ ≠ (u309006 : Value).ownBlock ∧ some k_ ≠ (u335006 : Value).ownBlock ∧ some k_ ≠ (u350006 : Value).ownBlock) u365006 x365006_1) ∧ Aside0 (Kd.R k40 40 w' w.heap.size (fun k_ => (w.heap.size ≤ k_) ∧ some k_ ≠ ((.slice Ao29 y318.length co29) : Value).ownBlock ∧ some k_ ≠ ((.slice Ao35 t330.length co35) : Value).ownBlock ∧ some k_ ≠ ((.slice Ao43 t345.length co43) : Value).ownBlock) (.slice Ao48 t359.length co48) t359) ∧ Aside0 (w'.heap[gb302]? = some (.cells #[.int .i64 a0_0, .int .i64 a0_1, .int .i64 a0_2, .int .i64 a0_3, .int .i64 a0_4, .int .i64 a0_5, u303006, (.slice A0_7 l0_7.length c0_7), .bool a0_8] 29 (0, 0))) ∧ Aside0 (w'.heap[gb308]? = some (.cells #[.int .i64 a0_0, .int .i64 a0_1, .int .i64 a0_2, .int .i64 a0_3, .int .i64 a0_4, .int .i64 a0_5, u309006, (.slice Ao29 y318.length co29), .bool a0_8] 29 (0, 0))) ∧ Aside0 (w'.heap[gb334]? = some (.cells #[.int .i64 t321, .int .i64 t322, .int .i64 t323, .int .i64 t324, .int .i64 t325, .int .i64 t326, u335006, (.slice Ao35 t330.length co35), .bool t333] 29 (0, 0))) ∧ Aside0 (w'.heap[gb349]? = some (.cells #[.int .i64 t336, .int .i64 t337, .int .i64 t338, .int .i64 t339, .int .i64 t340, .int .i64 t341, u350006, (.slice Ao43 t345.length co43), .bool t348] 29 (0, 0))) ∧ Aside0 (w'.heap[gb364]? = some (.cells #[.int .i64 t350, .int .i64 t351, .int .i64 t352, .int .i64 t353, .int .i64 t354, .int .i64 t355, u365006, (.slice Ao48 t359.length co48), .bool t362] 29 (0, 0))) ∧ Aside0 (Below w.heap.size w w'))
         case atStart => exact ⟨(0), (l0_6), (y312), (t327), (t342), (t356), (.slice A0_6 l0_6.length c0_6), (.slice Ao27 y312.length co27), (.slice Ao34 t327.length co34), (.slice Ao42 t342.length co42), (.slice Ao47 t356.length co47), (by first | rfl | (simp; done) | (simp [*]; done)), H', ⟨Nat.le_refl _⟩, ⟨by (with_reducible repeat (first | apply Kd.V_alloc | apply Kd.V_drewN | apply Kd.V_drew)); exact Kd.V_mono HO0_6.out (fun _ hk => ⟨hk.1.1.1.1.1.1.1.1.1.1.1, ⟨hk.1.1.1.1.1.1.1.1.1.1.2.2.1, ⟨hk.1.1.1.1.1.1.1.1.1.2, ⟨hk.1.1.1.1.1.1.1.1.2, ⟨hk.1.1.1.1.1.1.1.2, ⟨hk.1.1.1.1.1.2, ⟨hk.1.1.1.1.2, ⟨hk.1.1.2, ⟨hk.1.2, ⟨hk.1.1.1.1.1.1.1.1.1.1.2.2.2.1, ⟨hk.1.1.1.1.1.1.1.1.1.1.2.2.2.2, ⟨hk.1.1.1.1.1.1.2, ⟨hk.1.1.1.2, hk.2⟩⟩⟩⟩⟩⟩⟩⟩⟩⟩⟩⟩⟩)⟩, ⟨by (with_reducible repeat (first | apply Kd.V_alloc | apply Kd.V_drewN | apply Kd.V_drew)); exact Kd.V_mono HO0_7.out (fun _ hk => ⟨hk.1.1.1.1.1.1.1.1.1.1.1, ⟨hk.1.1.1.1.1.1.1.1.1.1.2.2.1, ⟨hk.1.1.1.1.1.1.1.1.1.2, ⟨hk.1.1.1.1.1.1.1.1.2, ⟨hk.1.1.1.1.1.1.1.2, ⟨hk.1.1.1.1.1.2, ⟨hk.1.1.1.1.2, ⟨hk.1.1.2, ⟨hk.1.2, ⟨hk.1.1.1.1.1.1.1.1.1.1.2.2.2.1, ⟨hk.1.1.1.1.1.1.1.1.1.1.2.2.2.2, ⟨hk.1.1.1.1.1.1.2, ⟨hk.1.1.1.2, hk.2⟩⟩⟩⟩⟩⟩⟩⟩⟩⟩⟩⟩⟩)⟩, ⟨by (with_reducible repeat (first | apply Kd.R_alloc | apply Kd.R_drewN | apply Kd.R_drew)); exact Kd.R_mono HO314.out (fun _ hk => ⟨hk.1.1.1, ⟨hk.1.1.2, ⟨hk.1.2, hk.2⟩⟩⟩)⟩, ⟨by (with_reducible repeat (first | apply Kd.R_alloc | apply Kd.R_drewN | apply Kd.R_drew)); exact Kd.R_mono HO320.out (fun _ hk => ⟨hk.1.1.1, ⟨hk.1.1.2, ⟨hk.1.2, hk.2⟩⟩⟩)⟩, ⟨by (with_reducible repeat (first | apply Kd.R_alloc | apply Kd.R_drewN | apply Kd.R_drew)); exact Kd.R_mono HO329.out (fun _ hk => ⟨hk.1.1.1.1, ⟨hk.1.1.2, ⟨hk.1.2, hk.2⟩⟩⟩)⟩, ⟨by (with_reducible repeat (first | apply Kd.R_alloc | apply Kd.R_drewN | apply Kd.R_drew)); exact Kd.R_mono HO332.out (fun _ hk => ⟨hk.1.1.1.1, ⟨hk.1.1.2, ⟨hk.1.2, hk.2⟩⟩⟩)⟩, ⟨by (with_reducible repeat (first | apply Kd.R_alloc | apply Kd.R_drewN | apply Kd.R_drew)); exact Kd.R_mono HO344.out (fun _ hk => ⟨hk.1.1.1.1, ⟨hk.1.1.2, ⟨hk.1.2, hk.2⟩⟩⟩)⟩, ⟨by (with_reducible repeat (first | apply Kd.R_alloc | apply Kd.R_drewN | apply Kd.R_drew)); exact Kd.R_mono HO347.out (fun _ hk => ⟨hk.1.1.1.1, ⟨hk.1.1.2, ⟨hk.1.2, hk.2⟩⟩⟩)⟩, ⟨by (with_reducible repeat (first | apply Kd.R_alloc | apply Kd.R_drewN | apply Kd.R_drew)); exact Kd.R_mono HO358.out (fun _ hk => ⟨hk.1.1.1.1, ⟨hk.1.1.2, ⟨hk.1.2, hk.2⟩⟩⟩)⟩, ⟨by (with_reducible repeat (first | apply Kd.R_alloc | apply Kd.R_drewN | apply Kd.R_drew)); exact Kd.R_mono HO361.out (fun _ hk => ⟨hk.1.1.1.1, ⟨hk.1.1.2, ⟨hk.1.2, hk.2⟩⟩⟩)⟩, ⟨by (with_reducible repeat (first | refine blk_drewN ?_ _ | refine blk_drew ?_ | refine blk_alloc ?_ _)); exact BK302.out⟩, ⟨by (with_reducible repeat (first | refine blk_drewN ?_ _ | refine blk_drew ?_ | refine blk_alloc ?_ _)); exact BK308.out⟩, ⟨by (with_reducible repeat (first | refine blk_drewN ?_ _ | refine blk_drew ?_ | refine blk_alloc ?_ _)); exact BK334.out⟩, ⟨by (with_reducible repeat (first | refine blk_drewN ?_ _ | refine blk_drew ?_ | refine blk_alloc ?_ _)); exact BK349.out⟩, ⟨by (with_reducible repeat (first | refine blk_drewN ?_ _ | refine blk_drew ?_ | refine blk_alloc ?_ _)); exact BK364.out⟩, ⟨by repeat (first | (with_reducible first | exact HB.out | apply below_alloc | apply pw_below_drewN | apply below_drew1 | refine below_set ?_ GE302.out | refine below_set ?_ GE308.out | refine below_set ?_ GE334.out | refine below_set ?_ GE349.out | refine below_set ?_ GE364.out) | exact HB.out)⟩⟩
         case round =>
          clear H'
          try clear c1
          try clear p2
          try clear c3
          try clear c4
          try clear c5
          try clear c8
          try clear c9
          try clear c10
          try clear c11
          try clear c12
          try clear c31
          try clear c50
          try clear c51
          try clear c52
          try clear c53
          try clear hcz32_0 hcz32_1 hcz32_2 hcz32_3 hcz32_4 hcz32_5 hcz32_6 hcz32_7 hcz32_8
          try clear hcz54_0 hcz54_1 hcz54_2 hcz54_3 hcz54_4 hcz54_5 hcz54_6 hcz54_7 hcz54_8
          try clear hfz32_0 hfz32_1 hfz32_2 hfz32_3 hfz32_4 hfz32_5 hfz32_6 hfz32_7 hfz32_8
          try clear hfz54_0 hfz54_1 hfz54_2 hfz54_3 hfz54_4 hfz54_5 hfz54_6 hfz54_7 hfz54_8
          (try clear BK302); (try clear BK308); (try clear BK334); (try clear BK349); (try clear BK364)
          obtain ⟨x43_1, x303006_1, x309006_1, x335006_1, x350006_1, x365006_1, u303006, u309006, u335006, u350006, u365006, rfl, HA, HK1, HO_303006, HO_303007, HO_309006, HO_309007, HO_335006, HO_335007, HO_350006, HO_350007, HO_365006, HO_365007, BK302, BK308, BK334, BK349, BK364, HB⟩ := hrel
          cases gk with
          | zero => exact absurd HA.out (by simp [althinglaw05_CommandClones.l0])
          | succ k1 =>
           have H := HA.out
           clear HA
           simp only [althinglaw05_CommandClones.l0] at H
           by_cases c55 : x43_1 < (t356.length : Int)
           · rw [if_pos c55] at H
             have c55b0 : decide (x43_1 < (t356.length : Int)) = true := decide_eq_true c55
             clear c55
             by_cases c56 : 0 ≤ x43_1
             · rw [if_pos c56] at H
               have c56b0 : decide (0 ≤ x43_1) = true := decide_eq_true c56
               clear c56
               by_cases c57 : x43_1 < (x365006_1.length : Int)
               · rw [if_pos c57] at H
                 have c57b0 : decide (x43_1 < (x365006_1.length : Int)) = true := decide_eq_true c57
                 clear c57
                 by_cases c58 : ((rd_T38 x365006_1 x43_1).f0).size + 1 ≤ 9223372036854775807
                 · rw [if_pos c58] at H
                   have c58b0 := eq_true c58
                   have c58b1 : decide (((rd_T38 x365006_1 x43_1).f0).size + 1 ≤ 9223372036854775807) = true := decide_eq_true c58
                   try have c58b2 : (9223372036854775807 < ((rd_T38 x365006_1 x43_1).f0).size + 1) = False := eq_false (Nat.not_lt.2 c58)
                   obtain ⟨y366, hy366⟩ : ∃ y_ : List (S38), y_ = (x365006_1.set (x43_1 : Int).toNat (⟨((rd_T38 x365006_1 x43_1).f0) ++ (⟨#[120]⟩ : ByteArray), (⟨(rd_T38 x365006_1 x43_1).f1.f0, (rd_T38 x365006_1 x43_1).f1.f1⟩ : S25)⟩ : S38)) := ⟨_, rfl⟩
                   replace H : (althinglaw05_CommandClones.l0 k1 (t356.length : Int) (wrap64 (x43_1 + 1)) a0_0 a0_1 a0_2 a0_3 a0_4 a0_5 x303006_1 l0_7 a0_8 a0_0 a0_1 a0_2 a0_3 a0_4 a0_5 x309006_1 y318 a0_8 t321 t322 t323 t324 t325 t326 x335006_1 t330 t333 t336 t337 t338 t339 t340 t341 x350006_1 t345 t348 t350 t351 t352 t353 t354 t355 y366 t359 t362) = some r := by first | (rw [hy366]; with_reducible exact H) | (have H2_ := (Option.bind_some _ _).symm.trans H; rw [hy366]; with_reducible exact H2_) | (have H2_ := (Option.bind_some _ _).symm.trans H; with_reducible exact H2_) | with_reducible exact H | (rw [hy366]; exact H) | exact H
                   have Ny366 := Aside0.mk hy366
                   clear hy366
                   have H' := Aside0.mk H
                   clear H
                   have hnb60 := NB364_302.out
                   have hnc60 := NB302_364.out
                   have hnb61 := NB364_308.out
                   have hnc61 := NB308_364.out
                   have hnb62 := NB364_334.out
                   have hnc62 := NB334_364.out
                   have hnb63 := NB364_349.out
                   have hnc63 := NB349_364.out
                   refine blk9_ BK364.out fun hcz64_0 hcz64_1 hcz64_2 hcz64_3 hcz64_4 hcz64_5 hcz64_6 hcz64_7 hcz64_8 hfz64_0 hfz64_1 hfz64_2 hfz64_3 hfz64_4 hfz64_5 hfz64_6 hfz64_7 hfz64_8 => ?_
                   obtain ⟨Ao65, co65, eo65⟩ := Kd.R_slice HO_365006.out
                   subst eo65
                   have p365 : 0 ≤ (x43_1 : Int) := of_decide_eq_true (by first | (with_reducible assumption) | assumption)
                   have q365 : x43_1 < (x365006_1.length : Int) := of_decide_eq_true (by first | (with_reducible assumption) | assumption)
                   obtain ⟨ad365, e365, hx365_0, hx365_1, hx365_2⟩ := at_T38 (Kd.R_reads' HO_365006.out).2.2 x43_1 p365 q365
                   cases e365
                   replace p365 := eq_true p365
                   replace q365 := eq_true q365
                   have p59 : 0 ≤ (x43_1 : Int) := of_decide_eq_true (by first | (with_reducible assumption) | assumption)
                   have q59 : (x43_1 : Int) < ((x365006_1.length : Int) : Int) := of_decide_eq_true (by first | (with_reducible assumption) | assumption)
                   obtain ⟨go59, co59, eo59, gb59, gl59, cl59, HG59⟩ := Kd.R_form HO_365006.out (by omega)
                   (first | cases eo59 | (injection eo59 with ea_ en_ ec_; (first | subst ea_ | (injection ea_ with ea_; subst ea_)); subst ec_; clear en_))
                   have GB59 := Aside0.mk gb59
                   have GG59 := Aside0.mk HG59
                   clear gb59 gl59 HG59
                   (first | simp only [add_plain] at hx365_0 | skip)
                   (first | simp only [add_plain] at hx365_1 | skip)
                   (first | simp only [add_plain] at hx365_2 | skip)
                   obtain ⟨ce59, hcl59, hM59, hcc59, hfr59⟩ := Kd.R_elem HO_365006.out z38 (x43_1 : Int) p59 q59
                   obtain rfl := k38_openM hM59
                   have hx59_0 : wr.cell? ⟨go59, (x43_1 : Int).toNat * 3, none⟩ = some (.string ((rd_T38 x365006_1 x43_1).f0)) := hcc59 0 _ rfl
                   have hx59_1 : wr.cell? ⟨go59, (x43_1 : Int).toNat * 3 + 1, none⟩ = some (.int .i64 ((rd_T38 x365006_1 x43_1).f1.f0)) := hcc59 1 _ rfl
                   have hx59_2 : wr.cell? ⟨go59, (x43_1 : Int).toNat * 3 + 2, none⟩ = some (.int .i64 ((rd_T38 x365006_1 x43_1).f1.f1)) := hcc59 2 _ rfl
                   have hf59_0 : wr.frozen? ⟨go59, (x43_1 : Int).toNat * 3, none⟩ = false := hfr59 0
                   have hf59_1 : wr.frozen? ⟨go59, (x43_1 : Int).toNat * 3 + 1, none⟩ = false := hfr59 1
                   have hf59_2 : wr.frozen? ⟨go59, (x43_1 : Int).toNat * 3 + 2, none⟩ = false := hfr59 2
                   clear hcl59 hcc59 hfr59 hM59
                   replace p59 := eq_true p59
                   replace q59 := eq_true q59
                   have HX66 := Aside0.mk (show Kd.R k38 38 wr w.heap.size (fun k_ => (w.heap.size ≤ k_) ∧ some k_ ≠ (u309006 : Value).ownBlock ∧ some k_ ≠ (u335006 : Value).ownBlock ∧ some k_ ≠ (u350006 : Value).ownBlock) (.slice (some ⟨go59, 0, none⟩) x365006_1.length co65) x365006_1 from (kr_ HO_365006.out))
                   obtain ⟨ce66, hcl66, hM66, hcc66, hfr66⟩ := Kd.R_elem HX66.out z38 (x43_1 : Int) (of_decide_eq_true (by first | (with_reducible assumption) | assumption)) (by have h_ : (x43_1 : Int) < ((x365006_1.length : Int) : Int) := of_decide_eq_true (by first | (with_reducible assumption) | assumption); first | exact h_ | (have e_ := (Kd.R_reads' HO_365006.out).1; omega) | simpa using h_)
                   obtain rfl := k38_openM hM66
                   have HP66 := Kd.R_seg HX66.out (x43_1 : Int) (of_decide_eq_true (by first | (with_reducible assumption) | assumption)) (by have h_ : (x43_1 : Int) < ((x365006_1.length : Int) : Int) := of_decide_eq_true (by first | (with_reducible assumption) | assumption); first | exact h_ | (have e_ := (Kd.R_reads' HO_365006.out).1; omega) | simpa using h_) (seg := [.string (((rd_T38 x365006_1 x43_1).f0) ++ (⟨#[120]⟩ : ByteArray))]) (j := 0) hcl66 hcc66 (show 1 ≤ 3 from by decide) (x' := (⟨((rd_T38 x365006_1 x43_1).f0) ++ (⟨#[120]⟩ : ByteArray), (⟨(rd_T38 x365006_1 x43_1).f1.f0, (rd_T38 x365006_1 x43_1).f1.f1⟩ : S25)⟩ : S38)) (k38_mkM _ _ _ (⟨((rd_T38 x365006_1 x43_1).f0) ++ (⟨#[120]⟩ : ByteArray), (⟨(rd_T38 x365006_1 x43_1).f1.f0, (rd_T38 x365006_1 x43_1).f1.f1⟩ : S25)⟩ : S38) ) (fun _ hk => hk)
                   have hx66_0 := hcc66 0 _ rfl
                   (try simp only [show (k38).sz = 3 from rfl, Nat.mul_one, Nat.add_zero] at hx66_0)
                   have hf66_0 := hfr66 0
                   (try simp only [show (k38).sz = 3 from rfl, Nat.mul_one, Nat.add_zero] at hf66_0)
                   clear hcl66 hcc66 hfr66 hM66
                   go_wp2_with (first | ((with_reducible refine gate_store (t := 9) (p := 54) rfl ?_); refine store_event (t := 9) (p := 54) (v := ?vo_w67) (w1 := (wr.setCell ⟨go59, (x43_1 : Int).toNat * 3, none⟩ (.string (((rd_T38 x365006_1 x43_1).f0) ++ (⟨#[120]⟩ : ByteArray))))) ?hg ?ho ?hn ?hr ?_; (case ho => rfl); (case hg => rfl); (case hn => rfl); (case hr => first | (go_simp; done) | (go_simp; rfl)); intro w67 hw; have hg : wr.grownBy w67 (some go59) := (by rw [hw]; exact HP66.2); have hp_ : Kd.R k38 38 w67 w.heap.size (fun k_ => (w.heap.size ≤ k_) ∧ some k_ ≠ (u309006 : Value).ownBlock ∧ some k_ ≠ (u335006 : Value).ownBlock ∧ some k_ ≠ (u350006 : Value).ownBlock) (.slice (some ⟨go59, 0, none⟩) x365006_1.length co65) y366 := (by rw [hw, Ny366.out]; exact HP66.1); clear HP66; have n0_ := Aside0.mk (Kd.V_afterv (v := (.slice (some ⟨go59, 0, none⟩) x365006_1.length co65)) (v1 := (.slice (some ⟨go59, 0, none⟩) x365006_1.length co65)) (ok := (fun k_ => ((P0_6_ k_ ∨ P0_7_ k_) ∨ w.heap.size ≤ k_) ∧ some k_ ≠ (u309006 : Value).ownBlock ∧ some k_ ≠ (.slice Ao29 y318.length co29 : Value).ownBlock ∧ some k_ ≠ (u335006 : Value).ownBlock ∧ some k_ ≠ (.slice Ao35 t330.length co35 : Value).ownBlock ∧ some k_ ≠ (u350006 : Value).ownBlock ∧ some k_ ≠ (.slice Ao43 t345.length co43 : Value).ownBlock ∧ some k_ ≠ (.slice Ao48 t359.length co48 : Value).ownBlock ∧ k_ ≠ gb302 ∧ k_ ≠ gb308 ∧ k_ ≠ gb334 ∧ k_ ≠ gb349 ∧ k_ ≠ gb364)) (by (with_reducible repeat (first | apply Kd.V_alloc | apply Kd.V_drewN | apply Kd.V_drew)); exact Kd.V_mono HO_303006.out (fun _ hk => ⟨⟨hk.1, ⟨hk.2.1, ⟨hk.2.2.1, ⟨hk.2.2.2.1, ⟨hk.2.2.2.2.1, ⟨hk.2.2.2.2.2.1, ⟨hk.2.2.2.2.2.2.1, ⟨hk.2.2.2.2.2.2.2.2.1, ⟨hk.2.2.2.2.2.2.2.2.2.1, ⟨hk.2.2.2.2.2.2.2.2.2.2.1, ⟨hk.2.2.2.2.2.2.2.2.2.2.2.1, ⟨hk.2.2.2.2.2.2.2.2.2.2.2.2.1, hk.2.2.2.2.2.2.2.2.2.2.2.2.2⟩⟩⟩⟩⟩⟩⟩⟩⟩⟩⟩⟩, hk.2.2.2.2.2.2.2.1⟩)) hg (.inl rfl)); have n1_ := Aside0.mk (Kd.V_afterv (v := (.slice (some ⟨go59, 0, none⟩) x365006_1.length co65)) (v1 := (.slice (some ⟨go59, 0, none⟩) x365006_1.length co65)) (ok := (fun k_ => ((P0_6_ k_ ∨ P0_7_ k_) ∨ w.heap.size ≤ k_) ∧ some k_ ≠ (u309006 : Value).ownBlock ∧ some k_ ≠ (.slice Ao29 y318.length co29 : Value).ownBlock ∧ some k_ ≠ (u335006 : Value).ownBlock ∧ some k_ ≠ (.slice Ao35 t330.length co35 : Value).ownBlock ∧ some k_ ≠ (u350006 : Value).ownBlock ∧ some k_ ≠ (.slice Ao43 t345.length co43 : Value).ownBlock ∧ some k_ ≠ (.slice Ao48 t359.length co48 : Value).ownBlock ∧ k_ ≠ gb302 ∧ k_ ≠ gb308 ∧ k_ ≠ gb334 ∧ k_ ≠ gb349 ∧ k_ ≠ gb364)) (by (with_reducible repeat (first | apply Kd.V_alloc | apply Kd.V_drewN | apply Kd.V_drew)); exact Kd.V_mono HO_303007.out (fun _ hk => ⟨⟨hk.1, ⟨hk.2.1, ⟨hk.2.2.1, ⟨hk.2.2.2.1, ⟨hk.2.2.2.2.1, ⟨hk.2.2.2.2.2.1, ⟨hk.2.2.2.2.2.2.1, ⟨hk.2.2.2.2.2.2.2.2.1, ⟨hk.2.2.2.2.2.2.2.2.2.1, ⟨hk.2.2.2.2.2.2.2.2.2.2.1, ⟨hk.2.2.2.2.2.2.2.2.2.2.2.1, ⟨hk.2.2.2.2.2.2.2.2.2.2.2.2.1, hk.2.2.2.2.2.2.2.2.2.2.2.2.2⟩⟩⟩⟩⟩⟩⟩⟩⟩⟩⟩⟩, hk.2.2.2.2.2.2.2.1⟩)) hg (.inl rfl)); have n2_ := Aside0.mk (Kd.R_after (v := (.slice (some ⟨go59, 0, none⟩) x365006_1.length co65)) (v1 := (.slice (some ⟨go59, 0, none⟩) x365006_1.length co65)) (ok := (fun k_ => (w.heap.size ≤ k_) ∧ some k_ ≠ (u335006 : Value).ownBlock ∧ some k_ ≠ (u350006 : Value).ownBlock)) (by (with_reducible repeat (first | apply Kd.R_alloc | apply Kd.R_drewN | apply Kd.R_drew)); exact Kd.R_mono HO_309006.out (fun _ hk => ⟨⟨hk.1, ⟨hk.2.1, hk.2.2.1⟩⟩, hk.2.2.2⟩)) hg (.inl rfl)); have n3_ := Aside0.mk (Kd.R_over' (v := (.slice (some ⟨go59, 0, none⟩) x365006_1.length co65)) (kr_ HO_309007.out) (Kd.R_typed HO_365006.out) (by decide) hg); have n4_ := Aside0.mk (Kd.R_after (v := (.slice (some ⟨go59, 0, none⟩) x365006_1.length co65)) (v1 := (.slice (some ⟨go59, 0, none⟩) x365006_1.length co65)) (ok := (fun k_ => (w.heap.size ≤ k_) ∧ some k_ ≠ (u309006 : Value).ownBlock ∧ some k_ ≠ (u350006 : Value).ownBlock)) (by (with_reducible repeat (first | apply Kd.R_alloc | apply Kd.R_drewN | apply Kd.R_drew)); exact Kd.R_mono HO_335006.out (fun _ hk => ⟨⟨hk.1, ⟨hk.2.1, hk.2.2.1⟩⟩, hk.2.2.2⟩)) hg (.inl rfl)); have n5_ := Aside0.mk (Kd.R_over' (v := (.slice (some ⟨go59, 0, none⟩) x365006_1.length co65)) (kr_ HO_335007.out) (Kd.R_typed HO_365006.out) (by decide) hg); have n6_ := Aside0.mk (Kd.R_after (v := (.slice (some ⟨go59, 0, none⟩) x365006_1.length co65)) (v1 := (.slice (some ⟨go59, 0, none⟩) x365006_1.length co65)) (ok := (fun k_ => (w.heap.size ≤ k_) ∧ some k_ ≠ (u309006 : Value).ownBlock ∧ some k_ ≠ (u335006 : Value).ownBlock)) (by (with_reducible repeat (first | apply Kd.R_alloc | apply Kd.R_drewN | apply Kd.R_drew)); exact Kd.R_mono HO_350006.out (fun _ hk => ⟨⟨hk.1, ⟨hk.2.1, hk.2.2.1⟩⟩, hk.2.2.2⟩)) hg (.inl rfl)); have n7_ := Aside0.mk (Kd.R_over' (v := (.slice (some ⟨go59, 0, none⟩) x365006_1.length co65)) (kr_ HO_350007.out) (Kd.R_typed HO_365006.out) (by decide) hg); have n8_ := Aside0.mk (hp_); have n9_ := Aside0.mk (Kd.R_over' (v := (.slice (some ⟨go59, 0, none⟩) x365006_1.length co65)) (kr_ HO_365007.out) (Kd.R_typed HO_365006.out) (by decide) hg); have n10_ := Aside0.mk (blk_grown (kb_ BK302.out) hg (Kd.R_ne HO_365006.out BK302.out (by decide))); have n11_ := Aside0.mk (blk_grown (kb_ BK308.out) hg (Kd.R_ne HO_365006.out BK308.out (by decide))); have n12_ := Aside0.mk (blk_grown (kb_ BK334.out) hg (Kd.R_ne HO_365006.out BK334.out (by decide))); have n13_ := Aside0.mk (blk_grown (kb_ BK349.out) hg (Kd.R_ne HO_365006.out BK349.out (by decide))); have n14_ := Aside0.mk (blk_grown (kb_ BK364.out) hg (Kd.R_ne HO_365006.out BK364.out (by decide))); have n15_ := Aside0.mk ((by rw [hw]; exact below_set (HB.out) GB59.out : Below w.heap.size w w67)); clear HO_303006; clear HO_303007; clear HO_309006; clear HO_309007; clear HO_335006; clear HO_335007; clear HO_350006; clear HO_350007; clear HO_365006; clear HO_365007; clear BK302; clear BK308; clear BK334; clear BK349; clear BK364; clear HB; have HO_303006 := n0_; have HO_303007 := n1_; have HO_309006 := n2_; have HO_309007 := n3_; have HO_335006 := n4_; have HO_335007 := n5_; have HO_350006 := n6_; have HO_350007 := n7_; have HO_365006 := n8_; have HO_365007 := n9_; have BK302 := n10_; have BK308 := n11_; have BK334 := n12_; have BK349 := n13_; have BK364 := n14_; have HB := n15_; clear n0_ n1_ n2_ n3_ n4_ n5_ n6_ n7_ n8_ n9_ n10_ n11_ n12_ n13_ n14_ n15_; clear hg hw hp_))
                   go_roundg k1
                   case measure => have := HK1.out; omega
                   case rel => exact ⟨(wrap64 (x43_1 + 1)), (x303006_1), (x309006_1), (x335006_1), (x350006_1), (y366), (u303006), (u309006), (u335006), (u350006), (.slice (some ⟨go59, 0, none⟩) x365006_1.length co65), (by first | rfl | (simp; done) | (simp [*]; done)), H', ⟨by have := HK1.out; omega⟩, ⟨by (with_reducible repeat (first | apply Kd.V_alloc | apply Kd.V_drewN | apply Kd.V_drew)); exact Kd.V_mono HO_303006.out (fun _ hk => ⟨hk.1.1, ⟨hk.1.2.1, ⟨hk.1.2.2.1, ⟨hk.1.2.2.2.1, ⟨hk.1.2.2.2.2.1, ⟨hk.1.2.2.2.2.2.1, ⟨hk.1.2.2.2.2.2.2.1, ⟨hk.2, ⟨hk.1.2.2.2.2.2.2.2.1, ⟨hk.1.2.2.2.2.2.2.2.2.1, ⟨hk.1.2.2.2.2.2.2.2.2.2.1, ⟨hk.1.2.2.2.2.2.2.2.2.2.2.1, ⟨hk.1.2.2.2.2.2.2.2.2.2.2.2.1, hk.1.2.2.2.2.2.2.2.2.2.2.2.2⟩⟩⟩⟩⟩⟩⟩⟩⟩⟩⟩⟩⟩)⟩, ⟨by (with_reducible repeat (first | apply Kd.V_alloc | apply Kd.V_drewN | apply Kd.V_drew)); exact Kd.V_mono HO_303007.out (fun _ hk => ⟨hk.1.1, ⟨hk.1.2.1, ⟨hk.1.2.2.1, ⟨hk.1.2.2.2.1, ⟨hk.1.2.2.2.2.1, ⟨hk.1.2.2.2.2.2.1, ⟨hk.1.2.2.2.2.2.2.1, ⟨hk.2, ⟨hk.1.2.2.2.2.2.2.2.1, ⟨hk.1.2.2.2.2.2.2.2.2.1, ⟨hk.1.2.2.2.2.2.2.2.2.2.1, ⟨hk.1.2.2.2.2.2.2.2.2.2.2.1, ⟨hk.1.2.2.2.2.2.2.2.2.2.2.2.1, hk.1.2.2.2.2.2.2.2.2.2.2.2.2⟩⟩⟩⟩⟩⟩⟩⟩⟩⟩⟩⟩⟩)⟩, ⟨by (with_reducible repeat (first | apply Kd.R_alloc | apply Kd.R_drewN | apply Kd.R_drew)); exact Kd.R_mono HO_309006.out (fun _ hk => ⟨hk.1.1, ⟨hk.1.2.1, ⟨hk.1.2.2, hk.2⟩⟩⟩)⟩, ⟨by (with_reducible repeat (first | apply Kd.R_alloc | apply Kd.R_drewN | apply Kd.R_drew)); exact HO_309007.out⟩, ⟨by (with_reducible repeat (first | apply Kd.R_alloc | apply Kd.R_drewN | apply Kd.R_drew)); exact Kd.R_mono HO_335006.out (fun _ hk => ⟨hk.1.1, ⟨hk.1.2.1, ⟨hk.1.2.2, hk.2⟩⟩⟩)⟩, ⟨by (with_reducible repeat (first | apply Kd.R_alloc | apply Kd.R_drewN | apply Kd.R_drew)); exact HO_335007.out⟩, ⟨by (with_reducible repeat (first | apply Kd.R_alloc | apply Kd.R_drewN | apply Kd.R_drew)); exact Kd.R_mono HO_350006.out (fun _ hk => ⟨hk.1.1, ⟨hk.1.2.1, ⟨hk.1.2.2, hk.2⟩⟩⟩)⟩, ⟨by (with_reducible repeat (first | apply Kd.R_alloc | apply Kd.R_drewN | apply Kd.R_drew)); exact HO_350007.out⟩, ⟨by (with_reducible repeat (first | apply Kd.R_alloc | apply Kd.R_drewN | apply Kd.R_drew)); exact HO_365006.out⟩, ⟨by (with_reducible repeat (first | apply Kd.R_alloc | apply Kd.R_drewN | apply Kd.R_drew)); exact HO_365007.out⟩, ⟨by (with_reducible repeat (first | refine blk_drewN ?_ _ | refine blk_drew ?_ | refine blk_alloc ?_ _)); exact BK302.out⟩, ⟨by (with_reducible repeat (first | refine blk_drewN ?_ _ | refine blk_drew ?_ | refine blk_alloc ?_ _)); exact BK308.out⟩, ⟨by (with_reducible repeat (first | refine blk_drewN ?_ _ | refine blk_drew ?_ | refine blk_alloc ?_ _)); exact BK334.out⟩, ⟨by (with_reducible repeat (first | refine blk_drewN ?_ _ | refine blk_drew ?_ | refine blk_alloc ?_ _)); exact BK349.out⟩, ⟨by (with_reducible repeat (first | refine blk_drewN ?_ _ | refine blk_drew ?_ | refine blk_alloc ?_ _)); exact BK364.out⟩, ⟨by repeat (first | (with_reducible first | exact HB.out | apply below_alloc | apply pw_below_drewN | apply below_drew1 | refine below_set ?_ GE302.out | refine below_set ?_ GE308.out | refine below_set ?_ GE334.out | refine below_set ?_ GE349.out | refine below_set ?_ GE364.out) | exact HB.out)⟩⟩
                 · rw [if_neg c58] at H
                   exact absurd H (by simp)
               · rw [if_neg c57] at H
                 exact absurd H (by simp)
             · rw [if_neg c56] at H
               exact absurd H (by simp)
           · rw [if_neg c55] at H
             have c55b0 : decide (x43_1 < (t356.length : Int)) = false := decide_eq_false c55
             clear c55
             have H' := Aside0.mk H
             clear H
             have hnb68 := NB349_302.out
             have hnc68 := NB302_349.out
             have hnb69 := NB349_308.out
             have hnc69 := NB308_349.out
             have hnb70 := NB349_334.out
             have hnc70 := NB334_349.out
             have hnb71 := NB349_364.out
             have hnc71 := NB364_349.out
             refine blk9_ BK349.out fun hcz72_0 hcz72_1 hcz72_2 hcz72_3 hcz72_4 hcz72_5 hcz72_6 hcz72_7 hcz72_8 hfz72_0 hfz72_1 hfz72_2 hfz72_3 hfz72_4 hfz72_5 hfz72_6 hfz72_7 hfz72_8 => ?_
             go_wp2
             go_loopg [59] k1 (fun kq v59 w' => ∃ (x59_2 : Int) (x303007_2 : List (S40)) (x309007_2 : List (S40)) (x335007_2 : List (S40)) (x350007_2 : List (S40)) (x365007_2 : List (S40)) (u303007 : Value) (u309007 : Value) (u335007 : Value) (u350007 : Value) (u365007 : Value), v59 = .int .i64 x59_2 ∧ Aside0 (althinglaw05_CommandClones.l1 kq (t345.length : Int) x59_2 a0_0 a0_1 a0_2 a0_3 a0_4 a0_5 x303006_1 x303007_2 a0_8 a0_0 a0_1 a0_2 a0_3 a0_4 a0_5 x309006_1 x309007_2 a0_8 t321 t322 t323 t324 t325 t326 x335006_1 x335007_2 t333 t336 t337 t338 t339 t340 t341 x350006_1 x350007_2 t348 = some r) ∧ Aside0 (kq ≤ k1) ∧ Aside0 (Kd.V k38 38 w' w.heap.size (fun k_ => ((P0_6_ k_ ∨ P0_7_ k_) ∨ w.heap.size ≤ k_) ∧ some k_ ≠ (u309006 : Value).ownBlock ∧ some k_ ≠ (u309007 : Value).ownBlock ∧ some k_ ≠ (u335006 : Value).ownBlock ∧ some k_ ≠ (u335007 : Value).ownBlock ∧ some k_ ≠ (u350006 : Value).ownBlock ∧ some k_ ≠ (u350007 : Value).ownBlock ∧ some k_ ≠ (u365006 : Value).ownBlock ∧ some k_ ≠ (u365007 : Value).ownBlock ∧ k_ ≠ gb302 ∧ k_ ≠ gb308 ∧ k_ ≠ gb334 ∧ k_ ≠ gb349 ∧ k_ ≠ gb364) u303006 x303006_1) ∧ Aside0 (Kd.V k40 40 w' w.heap.size (fun k_ => ((P0_6_ k_ ∨ P0_7_ k_) ∨ w.heap.size ≤ k_) ∧ some k_ ≠ (u309006 : Value).ownBlock ∧ some k_ ≠ (u309007 : Value).ownBlock ∧ some k_ ≠ (u335006 : Value).ownBlock ∧ some k_ ≠ (u335007 : Value).ownBlock ∧ some k_ ≠ (u350006 : Value).ownBlock ∧ some k_ ≠ (u350007 : Value).ownBlock ∧ some k_ ≠ (u365006 : Value).ownBlock ∧ some k_ ≠ (u365007 : Value).ownBlock ∧ k_ ≠ gb302 ∧ k_ ≠ gb308 ∧ k_ ≠ gb334 ∧ k_ ≠ gb349 ∧ k_ ≠ gb364) u303007 x303007_2) ∧ Aside0 (Kd.R k38 38 w' w.heap.size (fun k_ => (w.heap.size ≤ k_) ∧ some k_ ≠ (u335006 : Value).ownBlock ∧ some k_ ≠ (u350006 : Value).ownBlock ∧ some k_ ≠ (u365006 : Value).ownBlock) u309006 x309006_1) ∧ Aside0 (Kd.R k40 40 w' w.heap.size (fun k_ => (w.heap.size ≤ k_) ∧ some k_ ≠ (u335007 : Value).ownBlock ∧ some k_ ≠ (u350007 : Value).ownBlock ∧ some k_ ≠ (u365007 : Value).ownBlock) u309007 x309007_2) ∧ Aside0 (Kd.R k38 38 w' w.heap.size (fun k_ => (w.heap.size ≤ k_) ∧ some k_ ≠ (u309006 : Value).ownBlock ∧ some k_ ≠ (u350006 : Value).ownBlock ∧ some k_ ≠ (u365006 : Value).ownBlock) u335006 x335006_1) ∧ Aside0 (Kd.R k40 40 w' w.heap.size (fun k_ => (w.heap.size ≤ k_) ∧ some k_ ≠ (u309007 : Value).ownBlock ∧ some k_ ≠ (u350007 : Value).ownBlock ∧ some k_ ≠ (u365007 : Value).ownBlock) u335007 x335007_2) ∧ Aside0 (Kd.R k38 38 w' w.heap.size (fun k_ => (w.heap.size ≤ k_) ∧ some k_ ≠ (u309006 : Value).ownBlock ∧ some k_ ≠ (u335006 : Value).ownBlock ∧ some k_ ≠ (u365006 : Value).ownBlock) u350006 x350006_1) ∧ Aside0 (Kd.R k40 40 w' w.heap.size (fun k_ => (w.heap.size ≤ k_) ∧ some k_ ≠ (u309007 : Value).ownBlock ∧ some k_ ≠ (u335007 : Value).ownBlock ∧ some k_ ≠ (u365007 : Value).ownBlock) u350007 x350007_2) ∧ Aside0 (Kd.R k38 38 w' w.heap.size (fun k_ => (w.heap.size ≤ k_) ∧ some k_ ≠ (u309006 : Value).ownBlock ∧ some k_ ≠ (u335006 : Value).ownBlock ∧ some k_ ≠ (u350006 : Value).ownBlock) u365006 x365006_1) ∧ Aside0 (Kd.R k40 40 w' w.heap.size (fun k_ => (w.heap.size ≤ k_) ∧ some k_ ≠ (u309007 : Value).ownBlock ∧ some k_ ≠ (u335007 : Value).ownBlock ∧ some k_ ≠ (u350007 : Value).ownBlock) u365007 x365007_2) ∧ Aside0 (w'.heap[gb302]? = some (.cells #[.int .i64 a0_0, .int .i64 a0_1, .int .i64 a0_2, .int .i64 a0_3, .int .i64 a0_4, .int .i64 a0_5, u303006, u303007, .bool a0_8] 29 (0, 0))) ∧ Aside0 (w'.heap[gb308]? = some (.cells #[.int .i64 a0_0, .int .i64 a0_1, .int .i64 a0_2, .int .i64 a0_3, .int .i64 a0_4, .int .i64 a0_5, u309006, u309007, .bool a0_8] 29 (0, 0))) ∧ Aside0 (w'.heap[gb334]? = some (.cells #[.int .i64 t321, .int .i64 t322, .int .i64 t323, .int .i64 t324, .int .i64 t325, .int .i64 t326, u335006, u335007, .bool t333] 29 (0, 0))) ∧ Aside0 (w'.heap[gb349]? = some (.cells #[.int .i64 t336, .int .i64 t337, .int .i64 t338, .int .i64 t339, .int .i64 t340, .int .i64 t341, u350006, u350007, .bool t348] 29 (0, 0))) ∧ Aside0 (w'.heap[gb364]? = some (.cells #[.int .i64 t350, .int .i64 t351, .int .i64 t352, .int .i64 t353, .int .i64 t354, .int .i64 t355, u365006, u365007, .bool t362] 29 (0, 0))) ∧ Aside0 (Below w.heap.size w w'))
             case atStart => exact ⟨(0), (l0_7), (y318), (t330), (t345), (t359), (.slice A0_7 l0_7.length c0_7), (.slice Ao29 y318.length co29), (.slice Ao35 t330.length co35), (.slice Ao43 t345.length co43), (.slice Ao48 t359.length co48), (by first | rfl | (simp; done) | (simp [*]; done)), H', ⟨Nat.le_refl _⟩, ⟨by (with_reducible repeat (first | apply Kd.V_alloc | apply Kd.V_drewN | apply Kd.V_drew)); exact HO_303006.out⟩, ⟨by (with_reducible repeat (first | apply Kd.V_alloc | apply Kd.V_drewN | apply Kd.V_drew)); exact HO_303007.out⟩, ⟨by (with_reducible repeat (first | apply Kd.R_alloc | apply Kd.R_drewN | apply Kd.R_drew)); exact HO_309006.out⟩, ⟨by (with_reducible repeat (first | apply Kd.R_alloc | apply Kd.R_drewN | apply Kd.R_drew)); exact HO_309007.out⟩, ⟨by (with_reducible repeat (first | apply Kd.R_alloc | apply Kd.R_drewN | apply Kd.R_drew)); exact HO_335006.out⟩, ⟨by (with_reducible repeat (first | apply Kd.R_alloc | apply Kd.R_drewN | apply Kd.R_drew)); exact HO_335007.out⟩, ⟨by (with_reducible repeat (first | apply Kd.R_alloc | apply Kd.R_drewN | apply Kd.R_drew)); exact HO_350006.out⟩, ⟨by (with_reducible repeat (first | apply Kd.R_alloc | apply Kd.R_drewN | apply Kd.R_drew)); exact HO_350007.out⟩, ⟨by (with_reducible repeat (first | apply Kd.R_alloc | apply Kd.R_drewN | apply Kd.R_drew)); exact HO_365006.out⟩, ⟨by (with_reducible repeat (first | apply Kd.R_alloc | apply Kd.R_drewN | apply Kd.R_drew)); exact HO_365007.out⟩, ⟨by (with_reducible repeat (first | refine blk_drewN ?_ _ | refine blk_drew ?_ | refine blk_alloc ?_ _)); exact BK302.out⟩, ⟨by (with_reducible repeat (first | refine blk_drewN ?_ _ | refine blk_drew ?_ | refine blk_alloc ?_ _)); exact BK308.out⟩, ⟨by (with_reducible repeat (first | refine blk_drewN ?_ _ | refine blk_drew ?_ | refine blk_alloc ?_ _)); exact BK334.out⟩, ⟨by (with_reducible repeat (first | refine blk_drewN ?_ _ | refine blk_drew ?_ | refine blk_alloc ?_ _)); exact BK349.out⟩, ⟨by (with_reducible repeat (first | refine blk_drewN ?_ _ | refine blk_drew ?_ | refine blk_alloc ?_ _)); exact BK364.out⟩, ⟨by repeat (first | (with_reducible first | exact HB.out | apply below_alloc | apply pw_below_drewN | apply below_drew1 | refine below_set ?_ GE302.out | refine below_set ?_ GE308.out | refine below_set ?_ GE334.out | refine below_set ?_ GE349.out | refine below_set ?_ GE364.out) | exact HB.out)⟩⟩
             case round =>
              clear H'
              try clear c1
              try clear p2
              try clear c3
              try clear p3
              try clear q3
              try clear hx3
              try clear c4
              try clear c5
              try clear p5
              try clear q5
              try clear hx5
              try clear hf5
              try clear c6
              try clear p6
              try clear hx6
              try clear hf6
              try clear c7
              try clear c8
              try clear c9
              try clear c10
              try clear c11
              try clear c12
              try clear c31
              try clear p36
              try clear q36
              try clear hx36
              try clear c50
              try clear c51
              try clear c52
              try clear c53
              try clear c55
              try clear c55b0
              try clear c56
              try clear c56b0
              try clear c57
              try clear c57b0
              try clear c58
              try clear c58b0
              try clear c58b1
              try clear c58b2
              try clear c59
              try clear p59
              try clear q59
              try clear hx59
              try clear hf59
              try clear c60
              try clear c61
              try clear c62
              try clear c63
              try clear p64
              try clear c66
              try clear hx66
              try clear hf66
              try clear c68
              try clear c69
              try clear c70
              try clear c71
              try clear hcz32_0 hcz32_1 hcz32_2 hcz32_3 hcz32_4 hcz32_5 hcz32_6 hcz32_7 hcz32_8
              try clear hcz54_0 hcz54_1 hcz54_2 hcz54_3 hcz54_4 hcz54_5 hcz54_6 hcz54_7 hcz54_8
              try clear hcz64_0 hcz64_1 hcz64_2 hcz64_3 hcz64_4 hcz64_5 hcz64_6 hcz64_7 hcz64_8
              try clear hcz72_0 hcz72_1 hcz72_2 hcz72_3 hcz72_4 hcz72_5 hcz72_6 hcz72_7 hcz72_8
              try clear hfz32_0 hfz32_1 hfz32_2 hfz32_3 hfz32_4 hfz32_5 hfz32_6 hfz32_7 hfz32_8
              try clear hfz54_0 hfz54_1 hfz54_2 hfz54_3 hfz54_4 hfz54_5 hfz54_6 hfz54_7 hfz54_8
              try clear hfz64_0 hfz64_1 hfz64_2 hfz64_3 hfz64_4 hfz64_5 hfz64_6 hfz64_7 hfz64_8
              try clear hfz72_0 hfz72_1 hfz72_2 hfz72_3 hfz72_4 hfz72_5 hfz72_6 hfz72_7 hfz72_8
              try clear hx365_0
              try clear hx365_1
              try clear hx365_2
              try clear hx59_0
              try clear hx59_1
              try clear hx59_2
              try clear hx66_0
              try clear p2
              try clear p365
              try clear p59
              try clear q365
              try clear q59
              (try clear BK302); (try clear BK308); (try clear BK334); (try clear BK349); (try clear BK364)
              obtain ⟨x59_2, x303007_2, x309007_2, x335007_2, x350007_2, x365007_2, u303007, u309007, u335007, u350007, u365007, rfl, HA, HK2, HO_303006, HO_303007, HO_309006, HO_309007, HO_335006, HO_335007, HO_350006, HO_350007, HO_365006, HO_365007, BK302, BK308, BK334, BK349, BK364, HB⟩ := hrel
              cases gk with
              | zero => exact absurd HA.out (by simp [althinglaw05_CommandClones.l1])
              | succ k2 =>
               have H := HA.out
               clear HA
               simp only [althinglaw05_CommandClones.l1] at H
               by_cases c73 : x59_2 < (t345.length : Int)
               · rw [if_pos c73] at H
                 have c73b0 : decide (x59_2 < (t345.length : Int)) = true := decide_eq_true c73
                 clear c73
                 by_cases c74 : 0 ≤ x59_2
                 · rw [if_pos c74] at H
                   have c74b0 : decide (0 ≤ x59_2) = true := decide_eq_true c74
                   clear c74
                   by_cases c75 : x59_2 < (x350007_2.length : Int)
                   · rw [if_pos c75] at H
                     have c75b0 : decide (x59_2 < (x350007_2.length : Int)) = true := decide_eq_true c75
                     clear c75
                     by_cases c76 : ((rd_T40 x350007_2 x59_2).f1).size + 1 ≤ 9223372036854775807
                     · rw [if_pos c76] at H
                       have c76b0 := eq_true c76
                       have c76b1 : decide (((rd_T40 x350007_2 x59_2).f1).size + 1 ≤ 9223372036854775807) = true := decide_eq_true c76
                       try have c76b2 : (9223372036854775807 < ((rd_T40 x350007_2 x59_2).f1).size + 1) = False := eq_false (Nat.not_lt.2 c76)
                       obtain ⟨y368, hy368⟩ : ∃ y_ : List (S40), y_ = (x350007_2.set (x59_2 : Int).toNat (⟨(rd_T40 x350007_2 x59_2).f0, ((rd_T40 x350007_2 x59_2).f1) ++ (⟨#[120]⟩ : ByteArray)⟩ : S40)) := ⟨_, rfl⟩
                       replace H : (althinglaw05_CommandClones.l1 k2 (t345.length : Int) (wrap64 (x59_2 + 1)) a0_0 a0_1 a0_2 a0_3 a0_4 a0_5 x303006_1 x303007_2 a0_8 a0_0 a0_1 a0_2 a0_3 a0_4 a0_5 x309006_1 x309007_2 a0_8 t321 t322 t323 t324 t325 t326 x335006_1 x335007_2 t333 t336 t337 t338 t339 t340 t341 x350006_1 y368 t348) = some r := by first | (rw [hy368]; with_reducible exact H) | (have H2_ := (Option.bind_some _ _).symm.trans H; rw [hy368]; with_reducible exact H2_) | (have H2_ := (Option.bind_some _ _).symm.trans H; with_reducible exact H2_) | with_reducible exact H | (rw [hy368]; exact H) | exact H
                       have Ny368 := Aside0.mk hy368
                       clear hy368
                       have H' := Aside0.mk H
                       clear H
                       have hnb78 := NB349_302.out
                       have hnc78 := NB302_349.out
                       have hnb79 := NB349_308.out
                       have hnc79 := NB308_349.out
                       have hnb80 := NB349_334.out
                       have hnc80 := NB334_349.out
                       have hnb81 := NB349_364.out
                       have hnc81 := NB364_349.out
                       refine blk9_ BK349.out fun hcz82_0 hcz82_1 hcz82_2 hcz82_3 hcz82_4 hcz82_5 hcz82_6 hcz82_7 hcz82_8 hfz82_0 hfz82_1 hfz82_2 hfz82_3 hfz82_4 hfz82_5 hfz82_6 hfz82_7 hfz82_8 => ?_
                       obtain ⟨Ao83, co83, eo83⟩ := Kd.R_slice HO_350007.out
                       subst eo83
                       have p367 : 0 ≤ (x59_2 : Int) := of_decide_eq_true (by first | (with_reducible assumption) | assumption)
                       have q367 : x59_2 < (x350007_2.length : Int) := of_decide_eq_true (by first | (with_reducible assumption) | assumption)
                       obtain ⟨ad367, e367, hx367_0, hx367_1⟩ := at_T40 (Kd.R_reads' HO_350007.out).2.2 x59_2 p367 q367
                       cases e367
                       replace p367 := eq_true p367
                       replace q367 := eq_true q367
                       have p77 : 0 ≤ (x59_2 : Int) := of_decide_eq_true (by first | (with_reducible assumption) | assumption)
                       have q77 : (x59_2 : Int) < ((x350007_2.length : Int) : Int) := of_decide_eq_true (by first | (with_reducible assumption) | assumption)
                       obtain ⟨go77, co77, eo77, gb77, gl77, cl77, HG77⟩ := Kd.R_form HO_350007.out (by omega)
                       (first | cases eo77 | (injection eo77 with ea_ en_ ec_; (first | subst ea_ | (injection ea_ with ea_; subst ea_)); subst ec_; clear en_))
                       have GB77 := Aside0.mk gb77
                       have GG77 := Aside0.mk HG77
                       clear gb77 gl77 HG77
                       (first | simp only [add_plain] at hx367_0 | skip)
                       (first | simp only [add_plain] at hx367_1 | skip)
                       obtain ⟨ce77, hcl77, hM77, hcc77, hfr77⟩ := Kd.R_elem HO_350007.out z40 (x59_2 : Int) p77 q77
                       obtain rfl := k40_openM hM77
                       have hx77_0 : wr.cell? ⟨go77, (x59_2 : Int).toNat * 2, none⟩ = some (.string ((rd_T40 x350007_2 x59_2).f0)) := hcc77 0 _ rfl
                       have hx77_1 : wr.cell? ⟨go77, (x59_2 : Int).toNat * 2 + 1, none⟩ = some (.string ((rd_T40 x350007_2 x59_2).f1)) := hcc77 1 _ rfl
                       have hf77_0 : wr.frozen? ⟨go77, (x59_2 : Int).toNat * 2, none⟩ = false := hfr77 0
                       have hf77_1 : wr.frozen? ⟨go77, (x59_2 : Int).toNat * 2 + 1, none⟩ = false := hfr77 1
                       clear hcl77 hcc77 hfr77 hM77
                       replace p77 := eq_true p77
                       replace q77 := eq_true q77
                       have HX84 := Aside0.mk (show Kd.R k40 40 wr w.heap.size (fun k_ => (w.heap.size ≤ k_) ∧ some k_ ≠ (u309007 : Value).ownBlock ∧ some k_ ≠ (u335007 : Value).ownBlock ∧ some k_ ≠ (u365007 : Value).ownBlock) (.slice (some ⟨go77, 0, none⟩) x350007_2.length co83) x350007_2 from (kr_ HO_350007.out))
                       obtain ⟨ce84, hcl84, hM84, hcc84, hfr84⟩ := Kd.R_elem HX84.out z40 (x59_2 : Int) (of_decide_eq_true (by first | (with_reducible assumption) | assumption)) (by have h_ : (x59_2 : Int) < ((x350007_2.length : Int) : Int) := of_decide_eq_true (by first | (with_reducible assumption) | assumption); first | exact h_ | (have e_ := (Kd.R_reads' HO_350007.out).1; omega) | simpa using h_)
                       obtain rfl := k40_openM hM84
                       have HP84 := Kd.R_seg HX84.out (x59_2 : Int) (of_decide_eq_true (by first | (with_reducible assumption) | assumption)) (by have h_ : (x59_2 : Int) < ((x350007_2.length : Int) : Int) := of_decide_eq_true (by first | (with_reducible assumption) | assumption); first | exact h_ | (have e_ := (Kd.R_reads' HO_350007.out).1; omega) | simpa using h_) (seg := [.string (((rd_T40 x350007_2 x59_2).f1) ++ (⟨#[120]⟩ : ByteArray))]) (j := 1) hcl84 hcc84 (show 2 ≤ 2 from by decide) (x' := (⟨(rd_T40 x350007_2 x59_2).f0, ((rd_T40 x350007_2 x59_2).f1) ++ (⟨#[120]⟩ : ByteArray)⟩ : S40)) (k40_mkM _ _ _ (⟨(rd_T40 x350007_2 x59_2).f0, ((rd_T40 x350007_2 x59_2).f1) ++ (⟨#[120]⟩ : ByteArray)⟩ : S40) ) (fun _ hk => hk)
                       have hx84_1 := hcc84 1 _ rfl
                       (try simp only [show (k40).sz = 2 from rfl, Nat.mul_one, Nat.add_zero] at hx84_1)
                       have hf84_1 := hfr84 1
                       (try simp only [show (k40).sz = 2 from rfl, Nat.mul_one, Nat.add_zero] at hf84_1)
                       clear hcl84 hcc84 hfr84 hM84
                       go_wp2_with (first | ((with_reducible refine gate_store (t := 9) (p := 70) rfl ?_); refine store_event (t := 9) (p := 70) (v := ?vo_w85) (w1 := (wr.setCell ⟨go77, (x59_2 : Int).toNat * 2 + 1, none⟩ (.string (((rd_T40 x350007_2 x59_2).f1) ++ (⟨#[120]⟩ : ByteArray))))) ?hg ?ho ?hn ?hr ?_; (case ho => rfl); (case hg => rfl); (case hn => rfl); (case hr => first | (go_simp; done) | (go_simp; rfl)); intro w85 hw; have hg : wr.grownBy w85 (some go77) := (by rw [hw]; exact HP84.2); have hp_ : Kd.R k40 40 w85 w.heap.size (fun k_ => (w.heap.size ≤ k_) ∧ some k_ ≠ (u309007 : Value).ownBlock ∧ some k_ ≠ (u335007 : Value).ownBlock ∧ some k_ ≠ (u365007 : Value).ownBlock) (.slice (some ⟨go77, 0, none⟩) x350007_2.length co83) y368 := (by rw [hw, Ny368.out]; exact HP84.1); clear HP84; have n0_ := Aside0.mk (Kd.V_afterv (v := (.slice (some ⟨go77, 0, none⟩) x350007_2.length co83)) (v1 := (.slice (some ⟨go77, 0, none⟩) x350007_2.length co83)) (ok := (fun k_ => ((P0_6_ k_ ∨ P0_7_ k_) ∨ w.heap.size ≤ k_) ∧ some k_ ≠ (u309006 : Value).ownBlock ∧ some k_ ≠ (u309007 : Value).ownBlock ∧ some k_ ≠ (u335006 : Value).ownBlock ∧ some k_ ≠ (u335007 : Value).ownBlock ∧ some k_ ≠ (u350006 : Value).ownBlock ∧ some k_ ≠ (u365006 : Value).ownBlock ∧ some k_ ≠ (u365007 : Value).ownBlock ∧ k_ ≠ gb302 ∧ k_ ≠ gb308 ∧ k_ ≠ gb334 ∧ k_ ≠ gb349 ∧ k_ ≠ gb364)) (by (with_reducible repeat (first | apply Kd.V_alloc | apply Kd.V_drewN | apply Kd.V_drew)); exact Kd.V_mono HO_303006.out (fun _ hk => ⟨⟨hk.1, ⟨hk.2.1, ⟨hk.2.2.1, ⟨hk.2.2.2.1, ⟨hk.2.2.2.2.1, ⟨hk.2.2.2.2.2.1, ⟨hk.2.2.2.2.2.2.2.1, ⟨hk.2.2.2.2.2.2.2.2.1, ⟨hk.2.2.2.2.2.2.2.2.2.1, ⟨hk.2.2.2.2.2.2.2.2.2.2.1, ⟨hk.2.2.2.2.2.2.2.2.2.2.2.1, ⟨hk.2.2.2.2.2.2.2.2.2.2.2.2.1, hk.2.2.2.2.2.2.2.2.2.2.2.2.2⟩⟩⟩⟩⟩⟩⟩⟩⟩⟩⟩⟩, hk.2.2.2.2.2.2.1⟩)) hg (.inl rfl)); have n1_ := Aside0.mk (Kd.V_afterv (v := (.slice (some ⟨go77, 0, none⟩) x350007_2.length co83)) (v1 := (.slice (some ⟨go77, 0, none⟩) x350007_2.length co83)) (ok := (fun k_ => ((P0_6_ k_ ∨ P0_7_ k_) ∨ w.heap.size ≤ k_) ∧ some k_ ≠ (u309006 : Value).ownBlock ∧ some k_ ≠ (u309007 : Value).ownBlock ∧ some k_ ≠ (u335006 : Value).ownBlock ∧ some k_ ≠ (u335007 : Value).ownBlock ∧ some k_ ≠ (u350006 : Value).ownBlock ∧ some k_ ≠ (u365006 : Value).ownBlock ∧ some k_ ≠ (u365007 : Value).ownBlock ∧ k_ ≠ gb302 ∧ k_ ≠ gb308 ∧ k_ ≠ gb334 ∧ k_ ≠ gb349 ∧ k_ ≠ gb364)) (by (with_reducible repeat (first | apply Kd.V_alloc | apply Kd.V_drewN | apply Kd.V_drew)); exact Kd.V_mono HO_303007.out (fun _ hk => ⟨⟨hk.1, ⟨hk.2.1, ⟨hk.2.2.1, ⟨hk.2.2.2.1, ⟨hk.2.2.2.2.1, ⟨hk.2.2.2.2.2.1, ⟨hk.2.2.2.2.2.2.2.1, ⟨hk.2.2.2.2.2.2.2.2.1, ⟨hk.2.2.2.2.2.2.2.2.2.1, ⟨hk.2.2.2.2.2.2.2.2.2.2.1, ⟨hk.2.2.2.2.2.2.2.2.2.2.2.1, ⟨hk.2.2.2.2.2.2.2.2.2.2.2.2.1, hk.2.2.2.2.2.2.2.2.2.2.2.2.2⟩⟩⟩⟩⟩⟩⟩⟩⟩⟩⟩⟩, hk.2.2.2.2.2.2.1⟩)) hg (.inl rfl)); have n2_ := Aside0.mk (Kd.R_over' (v := (.slice (some ⟨go77, 0, none⟩) x350007_2.length co83)) (kr_ HO_309006.out) (Kd.R_typed HO_350007.out) (by decide) hg); have n3_ := Aside0.mk (Kd.R_after (v := (.slice (some ⟨go77, 0, none⟩) x350007_2.length co83)) (v1 := (.slice (some ⟨go77, 0, none⟩) x350007_2.length co83)) (ok := (fun k_ => (w.heap.size ≤ k_) ∧ some k_ ≠ (u335007 : Value).ownBlock ∧ some k_ ≠ (u365007 : Value).ownBlock)) (by (with_reducible repeat (first | apply Kd.R_alloc | apply Kd.R_drewN | apply Kd.R_drew)); exact Kd.R_mono HO_309007.out (fun _ hk => ⟨⟨hk.1, ⟨hk.2.1, hk.2.2.2⟩⟩, hk.2.2.1⟩)) hg (.inl rfl)); have n4_ := Aside0.mk (Kd.R_over' (v := (.slice (some ⟨go77, 0, none⟩) x350007_2.length co83)) (kr_ HO_335006.out) (Kd.R_typed HO_350007.out) (by decide) hg); have n5_ := Aside0.mk (Kd.R_after (v := (.slice (some ⟨go77, 0, none⟩) x350007_2.length co83)) (v1 := (.slice (some ⟨go77, 0, none⟩) x350007_2.length co83)) (ok := (fun k_ => (w.heap.size ≤ k_) ∧ some k_ ≠ (u309007 : Value).ownBlock ∧ some k_ ≠ (u365007 : Value).ownBlock)) (by (with_reducible repeat (first | apply Kd.R_alloc | apply Kd.R_drewN | apply Kd.R_drew)); exact Kd.R_mono HO_335007.out (fun _ hk => ⟨⟨hk.1, ⟨hk.2.1, hk.2.2.2⟩⟩, hk.2.2.1⟩)) hg (.inl rfl)); have n6_ := Aside0.mk (Kd.R_over' (v := (.slice (some ⟨go77, 0, none⟩) x350007_2.length co83)) (kr_ HO_350006.out) (Kd.R_typed HO_350007.out) (by decide) hg); have n7_ := Aside0.mk (hp_); have n8_ := Aside0.mk (Kd.R_over' (v := (.slice (some ⟨go77, 0, none⟩) x350007_2.length co83)) (kr_ HO_365006.out) (Kd.R_typed HO_350007.out) (by decide) hg); have n9_ := Aside0.mk (Kd.R_after (v := (.slice (some ⟨go77, 0, none⟩) x350007_2.length co83)) (v1 := (.slice (some ⟨go77, 0, none⟩) x350007_2.length co83)) (ok := (fun k_ => (w.heap.size ≤ k_) ∧ some k_ ≠ (u309007 : Value).ownBlock ∧ some k_ ≠ (u335007 : Value).ownBlock)) (by (with_reducible repeat (first | apply Kd.R_alloc | apply Kd.R_drewN | apply Kd.R_drew)); exact Kd.R_mono HO_365007.out (fun _ hk => ⟨⟨hk.1, ⟨hk.2.1, hk.2.2.1⟩⟩, hk.2.2.2⟩)) hg (.inl rfl)); have n10_ := Aside0.mk (blk_grown (kb_ BK302.out) hg (Kd.R_ne HO_350007.out BK302.out (by decide))); have n11_ := Aside0.mk (blk_grown (kb_ BK308.out) hg (Kd.R_ne HO_350007.out BK308.out (by decide))); have n12_ := Aside0.mk (blk_grown (kb_ BK334.out) hg (Kd.R_ne HO_350007.out BK334.out (by decide))); have n13_ := Aside0.mk (blk_grown (kb_ BK349.out) hg (Kd.R_ne HO_350007.out BK349.out (by decide))); have n14_ := Aside0.mk (blk_grown (kb_ BK364.out) hg (Kd.R_ne HO_350007.out BK364.out (by decide))); have n15_ := Aside0.mk ((by rw [hw]; exact below_set (HB.out) GB77.out : Below w.heap.size w w85)); clear HO_303006; clear HO_303007; clear HO_309006; clear HO_309007; clear HO_335006; clear HO_335007; clear HO_350006; clear HO_350007; clear HO_365006; clear HO_365007; clear BK302; clear BK308; clear BK334; clear BK349; clear BK364; clear HB; have HO_303006 := n0_; have HO_303007 := n1_; have HO_309006 := n2_; have HO_309007 := n3_; have HO_335006 := n4_; have HO_335007 := n5_; have HO_350006 := n6_; have HO_350007 := n7_; have HO_365006 := n8_; have HO_365007 := n9_; have BK302 := n10_; have BK308 := n11_; have BK334 := n12_; have BK349 := n13_; have BK364 := n14_; have HB := n15_; clear n0_ n1_ n2_ n3_ n4_ n5_ n6_ n7_ n8_ n9_ n10_ n11_ n12_ n13_ n14_ n15_; clear hg hw hp_))
                       go_roundg k2
                       case measure => have := HK1.out; have := HK2.out; omega
                       case rel => exact ⟨(wrap64 (x59_2 + 1)), (x303007_2), (x309007_2), (x335007_2), (y368), (x365007_2), (u303007), (u309007), (u335007), (.slice (some ⟨go77, 0, none⟩) x350007_2.length co83), (u365007), (by first | rfl | (simp; done) | (simp [*]; done)), H', ⟨by have := HK1.out; have := HK2.out; omega⟩, ⟨by (with_reducible repeat (first | apply Kd.V_alloc | apply Kd.V_drewN | apply Kd.V_drew)); exact Kd.V_mono HO_303006.out (fun _ hk => ⟨hk.1.1, ⟨hk.1.2.1, ⟨hk.1.2.2.1, ⟨hk.1.2.2.2.1, ⟨hk.1.2.2.2.2.1, ⟨hk.1.2.2.2.2.2.1, ⟨hk.2, ⟨hk.1.2.2.2.2.2.2.1, ⟨hk.1.2.2.2.2.2.2.2.1, ⟨hk.1.2.2.2.2.2.2.2.2.1, ⟨hk.1.2.2.2.2.2.2.2.2.2.1, ⟨hk.1.2.2.2.2.2.2.2.2.2.2.1, ⟨hk.1.2.2.2.2.2.2.2.2.2.2.2.1, hk.1.2.2.2.2.2.2.2.2.2.2.2.2⟩⟩⟩⟩⟩⟩⟩⟩⟩⟩⟩⟩⟩)⟩, ⟨by (with_reducible repeat (first | apply Kd.V_alloc | apply Kd.V_drewN | apply Kd.V_drew)); exact Kd.V_mono HO_303007.out (fun _ hk => ⟨hk.1.1, ⟨hk.1.2.1, ⟨hk.1.2.2.1, ⟨hk.1.2.2.2.1, ⟨hk.1.2.2.2.2.1, ⟨hk.1.2.2.2.2.2.1, ⟨hk.2, ⟨hk.1.2.2.2.2.2.2.1, ⟨hk.1.2.2.2.2.2.2.2.1, ⟨hk.1.2.2.2.2.2.2.2.2.1, ⟨hk.1.2.2.2.2.2.2.2.2.2.1, ⟨hk.1.2.2.2.2.2.2.2.2.2.2.1, ⟨hk.1.2.2.2.2.2.2.2.2.2.2.2.1, hk.1.2.2.2.2.2.2.2.2.2.2.2.2⟩⟩⟩⟩⟩⟩⟩⟩⟩⟩⟩⟩⟩)⟩, ⟨by (with_reducible repeat (first | apply Kd.R_alloc | apply Kd.R_drewN | apply Kd.R_drew)); exact HO_309006.out⟩, ⟨by (with_reducible repeat (first | apply Kd.R_alloc | apply Kd.R_drewN | apply Kd.R_drew)); exact Kd.R_mono HO_309007.out (fun _ hk => ⟨hk.1.1, ⟨hk.1.2.1, ⟨hk.2, hk.1.2.2⟩⟩⟩)⟩, ⟨by (with_reducible repeat (first | apply Kd.R_alloc | apply Kd.R_drewN | apply Kd.R_drew)); exact HO_335006.out⟩, ⟨by (with_reducible repeat (first | apply Kd.R_alloc | apply Kd.R_drewN | apply Kd.R_drew)); exact Kd.R_mono HO_335007.out (fun _ hk => ⟨hk.1.1, ⟨hk.1.2.1, ⟨hk.2, hk.1.2.2⟩⟩⟩)⟩, ⟨by (with_reducible repeat (first | apply Kd.R_alloc | apply Kd.R_drewN | apply Kd.R_drew)); exact HO_350006.out⟩, ⟨by (with_reducible repeat (first | apply Kd.R_alloc | apply Kd.R_drewN | apply Kd.R_drew)); exact HO_350007.out⟩, ⟨by (with_reducible repeat (first | apply Kd.R_alloc | apply Kd.R_drewN | apply Kd.R_drew)); exact HO_365006.out⟩, ⟨by (with_reducible repeat (first | apply Kd.R_alloc | apply Kd.R_drewN | apply Kd.R_drew)); exact Kd.R_mono HO_365007.out (fun _ hk => ⟨hk.1.1, ⟨hk.1.2.1, ⟨hk.1.2.2, hk.2⟩⟩⟩)⟩, ⟨by (with_reducible repeat (first | refine blk_drewN ?_ _ | refine blk_drew ?_ | refine blk_alloc ?_ _)); exact BK302.out⟩, ⟨by (with_reducible repeat (first | refine blk_drewN ?_ _ | refine blk_drew ?_ | refine blk_alloc ?_ _)); exact BK308.out⟩, ⟨by (with_reducible repeat (first | refine blk_drewN ?_ _ | refine blk_drew ?_ | refine blk_alloc ?_ _)); exact BK334.out⟩, ⟨by (with_reducible repeat (first | refine blk_drewN ?_ _ | refine blk_drew ?_ | refine blk_alloc ?_ _)); exact BK349.out⟩, ⟨by (with_reducible repeat (first | refine blk_drewN ?_ _ | refine blk_drew ?_ | refine blk_alloc ?_ _)); exact BK364.out⟩, ⟨by repeat (first | (with_reducible first | exact HB.out | apply below_alloc | apply pw_below_drewN | apply below_drew1 | refine below_set ?_ GE302.out | refine below_set ?_ GE308.out | refine below_set ?_ GE334.out | refine below_set ?_ GE349.out | refine below_set ?_ GE364.out) | exact HB.out)⟩⟩
                     · rw [if_neg c76] at H
                       exact absurd H (by simp)
                   · rw [if_neg c75] at H
                     exact absurd H (by simp)
                 · rw [if_neg c74] at H
                   exact absurd H (by simp)
               · rw [if_neg c73] at H
                 have c73b0 : decide (x59_2 < (t345.length : Int)) = false := decide_eq_false c73
                 clear c73
                 have H' := Aside0.mk H
                 clear H
                 have hnb86 := NB349_302.out
                 have hnc86 := NB302_349.out
                 have hnb87 := NB349_308.out
                 have hnc87 := NB308_349.out
                 have hnb88 := NB349_334.out
                 have hnc88 := NB334_349.out
                 have hnb89 := NB349_364.out
                 have hnc89 := NB364_349.out
                 refine blk9_ BK349.out fun hcz90_0 hcz90_1 hcz90_2 hcz90_3 hcz90_4 hcz90_5 hcz90_6 hcz90_7 hcz90_8 hfz90_0 hfz90_1 hfz90_2 hfz90_3 hfz90_4 hfz90_5 hfz90_6 hfz90_7 hfz90_8 => ?_
                 obtain ⟨Ao91, co91, eo91⟩ := Kd.R_slice HO_350006.out
                 subst eo91
                 go_wp2
                 go_loopg [75] k2 (fun kq v75 w' => ∃ (x75_3 : Int) (x303006_3 : List (S38)) (x309006_3 : List (S38)) (x335006_3 : List (S38)) (x350006_3 : List (S38)) (x365006_3 : List (S38)) (u303006 : Value) (u309006 : Value) (u335006 : Value) (u350006 : Value) (u365006 : Value), v75 = .int .i64 x75_3 ∧ Aside0 (althinglaw05_CommandClones.l2 kq (x350006_1.length : Int) x75_3 a0_0 a0_1 a0_2 a0_3 a0_4 a0_5 x303006_3 x303007_2 a0_8 a0_0 a0_1 a0_2 a0_3 a0_4 a0_5 x309006_3 x309007_2 a0_8 t321 t322 t323 t324 t325 t326 x335006_3 x335007_2 t333 t336 t337 t338 t339 t340 t341 x350006_3 x350007_2 t348 = some r) ∧ Aside0 (kq ≤ k2) ∧ Aside0 (Kd.V k38 38 w' w.heap.size (fun k_ => ((P0_6_ k_ ∨ P0_7_ k_) ∨ w.heap.size ≤ k_) ∧ some k_ ≠ (u309006 : Value).ownBlock ∧ some k_ ≠ (u309007 : Value).ownBlock ∧ some k_ ≠ (u335006 : Value).ownBlock ∧ some k_ ≠ (u335007 : Value).ownBlock ∧ some k_ ≠ (u350006 : Value).ownBlock ∧ some k_ ≠ (u350007 : Value).ownBlock ∧ some k_ ≠ (u365006 : Value).ownBlock ∧ some k_ ≠ (u365007 : Value).ownBlock ∧ k_ ≠ gb302 ∧ k_ ≠ gb308 ∧ k_ ≠ gb334 ∧ k_ ≠ gb349 ∧ k_ ≠ gb364) u303006 x303006_3) ∧ Aside0 (Kd.V k40 40 w' w.heap.size (fun k_ => ((P0_6_ k_ ∨ P0_7_ k_) ∨ w.heap.size ≤ k_) ∧ some k_ ≠ (u309006 : Value).ownBlock ∧ some k_ ≠ (u309007 : Value).ownBlock ∧ some k_ ≠ (u335006 : Value).ownBlock ∧ some k_ ≠ (u335007 : Value).ownBlock ∧ some k_ ≠ (u350006 : Value).ownBlock ∧ some k_ ≠ (u350007 : Value).ownBlock ∧ some k_ ≠ (u365006 : Value).ownBlock ∧ some k_ ≠ (u365007 : Value).ownBlock ∧ k_ ≠ gb302 ∧ k_ ≠ gb308 ∧ k_ ≠ gb334 ∧ k_ ≠ gb349 ∧ k_ ≠ gb364) u303007 x303007_2) ∧ Aside0 (Kd.R k38 38 w' w.heap.size (fun k_ => (w.heap.size ≤ k_) ∧ some k_ ≠ (u335006 : Value).ownBlock ∧ some k_ ≠ (u350006 : Value).ownBlock ∧ some k_ ≠ (u365006 : Value).ownBlock) u309006 x309006_3) ∧ Aside0 (Kd.R k40 40 w' w.heap.size (fun k_ => (w.heap.size ≤ k_) ∧ some k_ ≠ (u335007 : Value).ownBlock ∧ some k_ ≠ (u350007 : Value).ownBlock ∧ some k_ ≠ (u365007 : Value).ownBlock) u309007 x309007_2) ∧ Aside0 (Kd.R k38 38 w' w.heap.size (fun k_ => (w.heap.size ≤ k_) ∧ some k_ ≠ (u309006 : Value).ownBlock ∧ some k_ ≠ (u350006 : Value).ownBlock ∧ some k_ ≠ (u365006 : Value).ownBlock) u335006 x335006_3) ∧ Aside0 (Kd.R k40 40 w' w.heap.size (fun k_ => (w.heap.size ≤ k_) ∧ some k_ ≠ (u309007 : Value).ownBlock ∧ some k_ ≠ (u350007 : Value).ownBlock ∧ some k_ ≠ (u365007 : Value).ownBlock) u335007 x335007_2) ∧ Aside0 (Kd.R k38 38 w' w.heap.size (fun k_ => (w.heap.size ≤ k_) ∧ some k_ ≠ (u309006 : Value).ownBlock ∧ some k_ ≠ (u335006 : Value).ownBlock ∧ some k_ ≠ (u365006 : Value).ownBlock) u350006 x350006_3) ∧ Aside0 (Kd.R k40 40 w' w.heap.size (fun k_ => (w.heap.size ≤ k_) ∧ some k_ ≠ (u309007 : Value).ownBlock ∧ some k_ ≠ (u335007 : Value).ownBlock ∧ some k_ ≠ (u365007 : Value).ownBlock) u350007 x350007_2) ∧ Aside0 (Kd.R k38 38 w' w.heap.size (fun k_ => (w.heap.size ≤ k_) ∧ some k_ ≠ (u309006 : Value).ownBlock ∧ some k_ ≠ (u335006 : Value).ownBlock ∧ some k_ ≠ (u350006 : Value).ownBlock) u365006 x365006_3) ∧ Aside0 (Kd.R k40 40 w' w.heap.size (fun k_ => (w.heap.size ≤ k_) ∧ some k_ ≠ (u309007 : Value).ownBlock ∧ some k_ ≠ (u335007 : Value).ownBlock ∧ some k_ ≠ (u350007 : Value).ownBlock) u365007 x365007_2) ∧ Aside0 (w'.heap[gb302]? = some (.cells #[.int .i64 a0_0, .int .i64 a0_1, .int .i64 a0_2, .int .i64 a0_3, .int .i64 a0_4, .int .i64 a0_5, u303006, u303007, .bool a0_8] 29 (0, 0))) ∧ Aside0 (w'.heap[gb308]? = some (.cells #[.int .i64 a0_0, .int .i64 a0_1, .int .i64 a0_2, .int .i64 a0_3, .int .i64 a0_4, .int .i64 a0_5, u309006, u309007, .bool a0_8] 29 (0, 0))) ∧ Aside0 (w'.heap[gb334]? = some (.cells #[.int .i64 t321, .int .i64 t322, .int .i64 t323, .int .i64 t324, .int .i64 t325, .int .i64 t326, u335006, u335007, .bool t333] 29 (0, 0))) ∧ Aside0 (w'.heap[gb349]? = some (.cells #[.int .i64 t336, .int .i64 t337, .int .i64 t338, .int .i64 t339, .int .i64 t340, .int .i64 t341, u350006, u350007, .bool t348] 29 (0, 0))) ∧ Aside0 (w'.heap[gb364]? = some (.cells #[.int .i64 t350, .int .i64 t351, .int .i64 t352, .int .i64 t353, .int .i64 t354, .int .i64 t355, u365006, u365007, .bool t362] 29 (0, 0))) ∧ Aside0 (Below w.heap.size w w'))
                 case atStart => exact ⟨(0), (x303006_1), (x309006_1), (x335006_1), (x350006_1), (x365006_1), (u303006), (u309006), (u335006), (.slice Ao91 x350006_1.length co91), (u365006), (by first | rfl | (simp; done) | (simp [*]; done)), H', ⟨Nat.le_refl _⟩, ⟨by (with_reducible repeat (first | apply Kd.V_alloc | apply Kd.V_drewN | apply Kd.V_drew)); exact HO_303006.out⟩, ⟨by (with_reducible repeat (first | apply Kd.V_alloc | apply Kd.V_drewN | apply Kd.V_drew)); exact HO_303007.out⟩, ⟨by (with_reducible repeat (first | apply Kd.R_alloc | apply Kd.R_drewN | apply Kd.R_drew)); exact HO_309006.out⟩, ⟨by (with_reducible repeat (first | apply Kd.R_alloc | apply Kd.R_drewN | apply Kd.R_drew)); exact HO_309007.out⟩, ⟨by (with_reducible repeat (first | apply Kd.R_alloc | apply Kd.R_drewN | apply Kd.R_drew)); exact HO_335006.out⟩, ⟨by (with_reducible repeat (first | apply Kd.R_alloc | apply Kd.R_drewN | apply Kd.R_drew)); exact HO_335007.out⟩, ⟨by (with_reducible repeat (first | apply Kd.R_alloc | apply Kd.R_drewN | apply Kd.R_drew)); exact HO_350006.out⟩, ⟨by (with_reducible repeat (first | apply Kd.R_alloc | apply Kd.R_drewN | apply Kd.R_drew)); exact HO_350007.out⟩, ⟨by (with_reducible repeat (first | apply Kd.R_alloc | apply Kd.R_drewN | apply Kd.R_drew)); exact HO_365006.out⟩, ⟨by (with_reducible repeat (first | apply Kd.R_alloc | apply Kd.R_drewN | apply Kd.R_drew)); exact HO_365007.out⟩, ⟨by (with_reducible repeat (first | refine blk_drewN ?_ _ | refine blk_drew ?_ | refine blk_alloc ?_ _)); exact BK302.out⟩, ⟨by (with_reducible repeat (first | refine blk_drewN ?_ _ | refine blk_drew ?_ | refine blk_alloc ?_ _)); exact BK308.out⟩, ⟨by (with_reducible repeat (first | refine blk_drewN ?_ _ | refine blk_drew ?_ | refine blk_alloc ?_ _)); exact BK334.out⟩, ⟨by (with_reducible repeat (first | refine blk_drewN ?_ _ | refine blk_drew ?_ | refine blk_alloc ?_ _)); exact BK349.out⟩, ⟨by (with_reducible repeat (first | refine blk_drewN ?_ _ | refine blk_drew ?_ | refine blk_alloc ?_ _)); exact BK364.out⟩, ⟨by repeat (first | (with_reducible first | exact HB.out | apply below_alloc | apply pw_below_drewN | apply below_drew1 | refine below_set ?_ GE302.out | refine below_set ?_ GE308.out | refine below_set ?_ GE334.out | refine below_set ?_ GE349.out | refine below_set ?_ GE364.out) | exact HB.out)⟩⟩
                 case round =>
                  clear H'
                  try clear c1
                  try clear p2
                  try clear c3
                  try clear p3
                  try clear q3
                  try clear hx3
                  try clear c4
                  try clear c5
                  try clear p5
                  try clear q5
                  try clear hx5
                  try clear hf5
                  try clear c6
                  try clear p6
                  try clear hx6
                  try clear hf6
                  try clear c7
                  try clear p7
                  try clear q7
                  try clear hx7
                  try clear hf7
                  try clear c8
                  try clear hx8
                  try clear hf8
                  try clear c9
                  try clear c10
                  try clear c11
                  try clear c12
                  try clear c31
                  try clear p36
                  try clear q36
                  try clear hx36
                  try clear c50
                  try clear c51
                  try clear c52
                  try clear c53
                  try clear c55
                  try clear c55b0
                  try clear c56
                  try clear c56b0
                  try clear c57
                  try clear c57b0
                  try clear c58
                  try clear c58b0
                  try clear c58b1
                  try clear c58b2
                  try clear c59
                  try clear p59
                  try clear q59
                  try clear hx59
                  try clear hf59
                  try clear c60
                  try clear c61
                  try clear c62
                  try clear c63
                  try clear p64
                  try clear c66
                  try clear hx66
                  try clear hf66
                  try clear c68
                  try clear c69
                  try clear c70
                  try clear c71
                  try clear c73
                  try clear c73b0
                  try clear c74
                  try clear c74b0
                  try clear c75
                  try clear c75b0
                  try clear c76
                  try clear c76b0
                  try clear c76b1
                  try clear c76b2
                  try clear c77
                  try clear p77
                  try clear q77
                  try clear hx77
                  try clear hf77
                  try clear c78
                  try clear c79
                  try clear c80
                  try clear c81
                  try clear c84
                  try clear hx84
                  try clear hf84
                  try clear c86
                  try clear c87
                  try clear c88
                  try clear c89
                  try clear hcz32_0 hcz32_1 hcz32_2 hcz32_3 hcz32_4 hcz32_5 hcz32_6 hcz32_7 hcz32_8
                  try clear hcz54_0 hcz54_1 hcz54_2 hcz54_3 hcz54_4 hcz54_5 hcz54_6 hcz54_7 hcz54_8
                  try clear hcz64_0 hcz64_1 hcz64_2 hcz64_3 hcz64_4 hcz64_5 hcz64_6 hcz64_7 hcz64_8
                  try clear hcz72_0 hcz72_1 hcz72_2 hcz72_3 hcz72_4 hcz72_5 hcz72_6 hcz72_7 hcz72_8
                  try clear hcz82_0 hcz82_1 hcz82_2 hcz82_3 hcz82_4 hcz82_5 hcz82_6 hcz82_7 hcz82_8
                  try clear hcz90_0 hcz90_1 hcz90_2 hcz90_3 hcz90_4 hcz90_5 hcz90_6 hcz90_7 hcz90_8
                  try clear hfz32_0 hfz32_1 hfz32_2 hfz32_3 hfz32_4 hfz32_5 hfz32_6 hfz32_7 hfz32_8
                  try clear hfz54_0 hfz54_1 hfz54_2 hfz54_3 hfz54_4 hfz54_5 hfz54_6 hfz54_7 hfz54_8
                  try clear hfz64_0 hfz64_1 hfz64_2 hfz64_3 hfz64_4 hfz64_5 hfz64_6 hfz64_7 hfz64_8
                  try clear hfz72_0 hfz72_1 hfz72_2 hfz72_3 hfz72_4 hfz72_5 hfz72_6 hfz72_7 hfz72_8
                  try clear hfz82_0 hfz82_1 hfz82_2 hfz82_3 hfz82_4 hfz82_5 hfz82_6 hfz82_7 hfz82_8
                  try clear hfz90_0 hfz90_1 hfz90_2 hfz90_3 hfz90_4 hfz90_5 hfz90_6 hfz90_7 hfz90_8
                  try clear hx365_0
                  try clear hx365_1
                  try clear hx365_2
                  try clear hx367_0
                  try clear hx367_1
                  try clear hx59_0
                  try clear hx59_1
                  try clear hx59_2
                  try clear hx66_0
                  try clear hx77_0
                  try clear hx77_1
                  try clear hx84_1
                  try clear p2
                  try clear p3
                  try clear p36
                  try clear p365
                  try clear p367
                  try clear p5
                  try clear p59
                  try clear p6
                  try clear p64
                  try clear p77
                  try clear q3
                  try clear q36
                  try clear q365
                  try clear q367
                  try clear q5
                  try clear q59
                  try clear q77
                  (try clear BK302); (try clear BK308); (try clear BK334); (try clear BK349); (try clear BK364)
                  obtain ⟨x75_3, x303006_3, x309006_3, x335006_3, x350006_3, x365006_3, u303006, u309006, u335006, u350006, u365006, rfl, HA, HK3, HO_303006, HO_303007, HO_309006, HO_309007, HO_335006, HO_335007, HO_350006, HO_350007, HO_365006, HO_365007, BK302, BK308, BK334, BK349, BK364, HB⟩ := hrel
                  cases gk with
                  | zero => exact absurd HA.out (by simp [althinglaw05_CommandClones.l2])
                  | succ k3 =>
                   have H := HA.out
                   clear HA
                   simp only [althinglaw05_CommandClones.l2] at H
                   by_cases c92 : x75_3 < (x350006_1.length : Int)
                   · rw [if_pos c92] at H
                     have c92b0 : decide (x75_3 < (x350006_1.length : Int)) = true := decide_eq_true c92
                     clear c92
                     by_cases c93 : 0 ≤ x75_3
                     · rw [if_pos c93] at H
                       have c93b0 : decide (0 ≤ x75_3) = true := decide_eq_true c93
                       clear c93
                       by_cases c94 : x75_3 < (x350006_3.length : Int)
                       · rw [if_pos c94] at H
                         have c94b0 : decide (x75_3 < (x350006_3.length : Int)) = true := decide_eq_true c94
                         clear c94
                         by_cases c95 : ((rd_T38 x350006_3 x75_3).f0).size + 1 ≤ 9223372036854775807
                         · rw [if_pos c95] at H
                           have c95b0 := eq_true c95
                           have c95b1 : decide (((rd_T38 x350006_3 x75_3).f0).size + 1 ≤ 9223372036854775807) = true := decide_eq_true c95
                           try have c95b2 : (9223372036854775807 < ((rd_T38 x350006_3 x75_3).f0).size + 1) = False := eq_false (Nat.not_lt.2 c95)
                           obtain ⟨y370, hy370⟩ : ∃ y_ : List (S38), y_ = (x350006_3.set (x75_3 : Int).toNat (⟨((rd_T38 x350006_3 x75_3).f0) ++ (⟨#[121]⟩ : ByteArray), (⟨(rd_T38 x350006_3 x75_3).f1.f0, (rd_T38 x350006_3 x75_3).f1.f1⟩ : S25)⟩ : S38)) := ⟨_, rfl⟩
                           replace H : (althinglaw05_CommandClones.l2 k3 (x350006_1.length : Int) (wrap64 (x75_3 + 1)) a0_0 a0_1 a0_2 a0_3 a0_4 a0_5 x303006_3 x303007_2 a0_8 a0_0 a0_1 a0_2 a0_3 a0_4 a0_5 x309006_3 x309007_2 a0_8 t321 t322 t323 t324 t325 t326 x335006_3 x335007_2 t333 t336 t337 t338 t339 t340 t341 y370 x350007_2 t348) = some r := by first | (rw [hy370]; with_reducible exact H) | (have H2_ := (Option.bind_some _ _).symm.trans H; rw [hy370]; with_reducible exact H2_) | (have H2_ := (Option.bind_some _ _).symm.trans H; with_reducible exact H2_) | with_reducible exact H | (rw [hy370]; exact H) | exact H
                           have Ny370 := Aside0.mk hy370
                           clear hy370
                           have H' := Aside0.mk H
                           clear H
                           have hnb97 := NB349_302.out
                           have hnc97 := NB302_349.out
                           have hnb98 := NB349_308.out
                           have hnc98 := NB308_349.out
                           have hnb99 := NB349_334.out
                           have hnc99 := NB334_349.out
                           have hnb100 := NB349_364.out
                           have hnc100 := NB364_349.out
                           refine blk9_ BK349.out fun hcz101_0 hcz101_1 hcz101_2 hcz101_3 hcz101_4 hcz101_5 hcz101_6 hcz101_7 hcz101_8 hfz101_0 hfz101_1 hfz101_2 hfz101_3 hfz101_4 hfz101_5 hfz101_6 hfz101_7 hfz101_8 => ?_
                           obtain ⟨Ao102, co102, eo102⟩ := Kd.R_slice HO_350006.out
                           subst eo102
                           have p369 : 0 ≤ (x75_3 : Int) := of_decide_eq_true (by first | (with_reducible assumption) | assumption)
                           have q369 : x75_3 < (x350006_3.length : Int) := of_decide_eq_true (by first | (with_reducible assumption) | assumption)
                           obtain ⟨ad369, e369, hx369_0, hx369_1, hx369_2⟩ := at_T38 (Kd.R_reads' HO_350006.out).2.2 x75_3 p369 q369
                           cases e369
                           replace p369 := eq_true p369
                           replace q369 := eq_true q369
                           have p96 : 0 ≤ (x75_3 : Int) := of_decide_eq_true (by first | (with_reducible assumption) | assumption)
                           have q96 : (x75_3 : Int) < ((x350006_3.length : Int) : Int) := of_decide_eq_true (by first | (with_reducible assumption) | assumption)
                           obtain ⟨go96, co96, eo96, gb96, gl96, cl96, HG96⟩ := Kd.R_form HO_350006.out (by omega)
                           (first | cases eo96 | (injection eo96 with ea_ en_ ec_; (first | subst ea_ | (injection ea_ with ea_; subst ea_)); subst ec_; clear en_))
                           have GB96 := Aside0.mk gb96
                           have GG96 := Aside0.mk HG96
                           clear gb96 gl96 HG96
                           (first | simp only [add_plain] at hx369_0 | skip)
                           (first | simp only [add_plain] at hx369_1 | skip)
                           (first | simp only [add_plain] at hx369_2 | skip)
                           obtain ⟨ce96, hcl96, hM96, hcc96, hfr96⟩ := Kd.R_elem HO_350006.out z38 (x75_3 : Int) p96 q96
                           obtain rfl := k38_openM hM96
                           have hx96_0 : wr.cell? ⟨go96, (x75_3 : Int).toNat * 3, none⟩ = some (.string ((rd_T38 x350006_3 x75_3).f0)) := hcc96 0 _ rfl
                           have hx96_1 : wr.cell? ⟨go96, (x75_3 : Int).toNat * 3 + 1, none⟩ = some (.int .i64 ((rd_T38 x350006_3 x75_3).f1.f0)) := hcc96 1 _ rfl
                           have hx96_2 : wr.cell? ⟨go96, (x75_3 : Int).toNat * 3 + 2, none⟩ = some (.int .i64 ((rd_T38 x350006_3 x75_3).f1.f1)) := hcc96 2 _ rfl
                           have hf96_0 : wr.frozen? ⟨go96, (x75_3 : Int).toNat * 3, none⟩ = false := hfr96 0
                           have hf96_1 : wr.frozen? ⟨go96, (x75_3 : Int).toNat * 3 + 1, none⟩ = false := hfr96 1
                           have hf96_2 : wr.frozen? ⟨go96, (x75_3 : Int).toNat * 3 + 2, none⟩ = false := hfr96 2
                           clear hcl96 hcc96 hfr96 hM96
                           replace p96 := eq_true p96
                           replace q96 := eq_true q96
                           have HX103 := Aside0.mk (show Kd.R k38 38 wr w.heap.size (fun k_ => (w.heap.size ≤ k_) ∧ some k_ ≠ (u309006 : Value).ownBlock ∧ some k_ ≠ (u335006 : Value).ownBlock ∧ some k_ ≠ (u365006 : Value).ownBlock) (.slice (some ⟨go96, 0, none⟩) x350006_3.length co102) x350006_3 from (kr_ HO_350006.out))
                           obtain ⟨ce103, hcl103, hM103, hcc103, hfr103⟩ := Kd.R_elem HX103.out z38 (x75_3 : Int) (of_decide_eq_true (by first | (with_reducible assumption) | assumption)) (by have h_ : (x75_3 : Int) < ((x350006_3.length : Int) : Int) := of_decide_eq_true (by first | (with_reducible assumption) | assumption); first | exact h_ | (have e_ := (Kd.R_reads' HO_350006.out).1; omega) | simpa using h_)
                           obtain rfl := k38_openM hM103
                           have HP103 := Kd.R_seg HX103.out (x75_3 : Int) (of_decide_eq_true (by first | (with_reducible assumption) | assumption)) (by have h_ : (x75_3 : Int) < ((x350006_3.length : Int) : Int) := of_decide_eq_true (by first | (with_reducible assumption) | assumption); first | exact h_ | (have e_ := (Kd.R_reads' HO_350006.out).1; omega) | simpa using h_) (seg := [.string (((rd_T38 x350006_3 x75_3).f0) ++ (⟨#[121]⟩ : ByteArray))]) (j := 0) hcl103 hcc103 (show 1 ≤ 3 from by decide) (x' := (⟨((rd_T38 x350006_3 x75_3).f0) ++ (⟨#[121]⟩ : ByteArray), (⟨(rd_T38 x350006_3 x75_3).f1.f0, (rd_T38 x350006_3 x75_3).f1.f1⟩ : S25)⟩ : S38)) (k38_mkM _ _ _ (⟨((rd_T38 x350006_3 x75_3).f0) ++ (⟨#[121]⟩ : ByteArray), (⟨(rd_T38 x350006_3 x75_3).f1.f0, (rd_T38 x350006_3 x75_3).f1.f1⟩ : S25)⟩ : S38) ) (fun _ hk => hk)
                           have hx103_0 := hcc103 0 _ rfl
                           (try simp only [show (k38).sz = 3 from rfl, Nat.mul_one, Nat.add_zero] at hx103_0)
                           have hf103_0 := hfr103 0
                           (try simp only [show (k38).sz = 3 from rfl, Nat.mul_one, Nat.add_zero] at hf103_0)
                           clear hcl103 hcc103 hfr103 hM103
                           go_wp2_with (first | ((with_reducible refine gate_store (t := 9) (p := 86) rfl ?_); refine store_event (t := 9) (p := 86) (v := ?vo_w104) (w1 := (wr.setCell ⟨go96, (x75_3 : Int).toNat * 3, none⟩ (.string (((rd_T38 x350006_3 x75_3).f0) ++ (⟨#[121]⟩ : ByteArray))))) ?hg ?ho ?hn ?hr ?_; (case ho => rfl); (case hg => rfl); (case hn => rfl); (case hr => first | (go_simp; done) | (go_simp; rfl)); intro w104 hw; have hg : wr.grownBy w104 (some go96) := (by rw [hw]; exact HP103.2); have hp_ : Kd.R k38 38 w104 w.heap.size (fun k_ => (w.heap.size ≤ k_) ∧ some k_ ≠ (u309006 : Value).ownBlock ∧ some k_ ≠ (u335006 : Value).ownBlock ∧ some k_ ≠ (u365006 : Value).ownBlock) (.slice (some ⟨go96, 0, none⟩) x350006_3.length co102) y370 := (by rw [hw, Ny370.out]; exact HP103.1); clear HP103; have n0_ := Aside0.mk (Kd.V_afterv (v := (.slice (some ⟨go96, 0, none⟩) x350006_3.length co102)) (v1 := (.slice (some ⟨go96, 0, none⟩) x350006_3.length co102)) (ok := (fun k_ => ((P0_6_ k_ ∨ P0_7_ k_) ∨ w.heap.size ≤ k_) ∧ some k_ ≠ (u309006 : Value).ownBlock ∧ some k_ ≠ (u309007 : Value).ownBlock ∧ some k_ ≠ (u335006 : Value).ownBlock ∧ some k_ ≠ (u335007 : Value).ownBlock ∧ some k_ ≠ (u350007 : Value).ownBlock ∧ some k_ ≠ (u365006 : Value).ownBlock ∧ some k_ ≠ (u365007 : Value).ownBlock ∧ k_ ≠ gb302 ∧ k_ ≠ gb308 ∧ k_ ≠ gb334 ∧ k_ ≠ gb349 ∧ k_ ≠ gb364)) (by (with_reducible repeat (first | apply Kd.V_alloc | apply Kd.V_drewN | apply Kd.V_drew)); exact Kd.V_mono HO_303006.out (fun _ hk => ⟨⟨hk.1, ⟨hk.2.1, ⟨hk.2.2.1, ⟨hk.2.2.2.1, ⟨hk.2.2.2.2.1, ⟨hk.2.2.2.2.2.2.1, ⟨hk.2.2.2.2.2.2.2.1, ⟨hk.2.2.2.2.2.2.2.2.1, ⟨hk.2.2.2.2.2.2.2.2.2.1, ⟨hk.2.2.2.2.2.2.2.2.2.2.1, ⟨hk.2.2.2.2.2.2.2.2.2.2.2.1, ⟨hk.2.2.2.2.2.2.2.2.2.2.2.2.1, hk.2.2.2.2.2.2.2.2.2.2.2.2.2⟩⟩⟩⟩⟩⟩⟩⟩⟩⟩⟩⟩, hk.2.2.2.2.2.1⟩)) hg (.inl rfl)); have n1_ := Aside0.mk (Kd.V_afterv (v := (.slice (some ⟨go96, 0, none⟩) x350006_3.length co102)) (v1 := (.slice (some ⟨go96, 0, none⟩) x350006_3.length co102)) (ok := (fun k_ => ((P0_6_ k_ ∨ P0_7_ k_) ∨ w.heap.size ≤ k_) ∧ some k_ ≠ (u309006 : Value).ownBlock ∧ some k_ ≠ (u309007 : Value).ownBlock ∧ some k_ ≠ (u335006 : Value).ownBlock ∧ some k_ ≠ (u335007 : Value).ownBlock ∧ some k_ ≠ (u350007 : Value).ownBlock ∧ some k_ ≠ (u365006 : Value).ownBlock ∧ some k_ ≠ (u365007 : Value).ownBlock ∧ k_ ≠ gb302 ∧ k_ ≠ gb308 ∧ k_ ≠ gb334 ∧ k_ ≠ gb349 ∧ k_ ≠ gb364)) (by (with_reducible repeat (first | apply Kd.V_alloc | apply Kd.V_drewN | apply Kd.V_drew)); exact Kd.V_mono HO_303007.out (fun _ hk => ⟨⟨hk.1, ⟨hk.2.1, ⟨hk.2.2.1, ⟨hk.2.2.2.1, ⟨hk.2.2.2.2.1, ⟨hk.2.2.2.2.2.2.1, ⟨hk.2.2.2.2.2.2.2.1, ⟨hk.2.2.2.2.2.2.2.2.1, ⟨hk.2.2.2.2.2.2.2.2.2.1, ⟨hk.2.2.2.2.2.2.2.2.2.2.1, ⟨hk.2.2.2.2.2.2.2.2.2.2.2.1, ⟨hk.2.2.2.2.2.2.2.2.2.2.2.2.1, hk.2.2.2.2.2.2.2.2.2.2.2.2.2⟩⟩⟩⟩⟩⟩⟩⟩⟩⟩⟩⟩, hk.2.2.2.2.2.1⟩)) hg (.inl rfl)); have n2_ := Aside0.mk (Kd.R_after (v := (.slice (some ⟨go96, 0, none⟩) x350006_3.length co102)) (v1 := (.slice (some ⟨go96, 0, none⟩) x350006_3.length co102)) (ok := (fun k_ => (w.heap.size ≤ k_) ∧ some k_ ≠ (u335006 : Value).ownBlock ∧ some k_ ≠ (u365006 : Value).ownBlock)) (by (with_reducible repeat (first | apply Kd.R_alloc | apply Kd.R_drewN | apply Kd.R_drew)); exact Kd.R_mono HO_309006.out (fun _ hk => ⟨⟨hk.1, ⟨hk.2.1, hk.2.2.2⟩⟩, hk.2.2.1⟩)) hg (.inl rfl)); have n3_ := Aside0.mk (Kd.R_over' (v := (.slice (some ⟨go96, 0, none⟩) x350006_3.length co102)) (kr_ HO_309007.out) (Kd.R_typed HO_350006.out) (by decide) hg); have n4_ := Aside0.mk (Kd.R_after (v := (.slice (some ⟨go96, 0, none⟩) x350006_3.length co102)) (v1 := (.slice (some ⟨go96, 0, none⟩) x350006_3.length co102)) (ok := (fun k_ => (w.heap.size ≤ k_) ∧ some k_ ≠ (u309006 : Value).ownBlock ∧ some k_ ≠ (u365006 : Value).ownBlock)) (by (with_reducible repeat (first | apply Kd.R_alloc | apply Kd.R_drewN | apply Kd.R_drew)); exact Kd.R_mono HO_335006.out (fun _ hk => ⟨⟨hk.1, ⟨hk.2.1, hk.2.2.2⟩⟩, hk.2.2.1⟩)) hg (.inl rfl)); have n5_ := Aside0.mk (Kd.R_over' (v := (.slice (some ⟨go96, 0, none⟩) x350006_3.length co102)) (kr_ HO_335007.out) (Kd.R_typed HO_350006.out) (by decide) hg); have n6_ := Aside0.mk (hp_); have n7_ := Aside0.mk (Kd.R_over' (v := (.slice (some ⟨go96, 0, none⟩) x350006_3.length co102)) (kr_ HO_350007.out) (Kd.R_typed HO_350006.out) (by decide) hg); have n8_ := Aside0.mk (Kd.R_after (v := (.slice (some ⟨go96, 0, none⟩) x350006_3.length co102)) (v1 := (.slice (some ⟨go96, 0, none⟩) x350006_3.length co102)) (ok := (fun k_ => (w.heap.size ≤ k_) ∧ some k_ ≠ (u309006 : Value).ownBlock ∧ some k_ ≠ (u335006 : Value).ownBlock)) (by (with_reducible repeat (first | apply Kd.R_alloc | apply Kd.R_drewN | apply Kd.R_drew)); exact Kd.R_mono HO_365006.out (fun _ hk => ⟨⟨hk.1, ⟨hk.2.1, hk.2.2.1⟩⟩, hk.2.2.2⟩)) hg (.inl rfl)); have n9_ := Aside0.mk (Kd.R_over' (v := (.slice (some ⟨go96, 0, none⟩) x350006_3.length co102)) (kr_ HO_365007.out) (Kd.R_typed HO_350006.out) (by decide) hg); have n10_ := Aside0.mk (blk_grown (kb_ BK302.out) hg (Kd.R_ne HO_350006.out BK302.out (by decide))); have n11_ := Aside0.mk (blk_grown (kb_ BK308.out) hg (Kd.R_ne HO_350006.out BK308.out (by decide))); have n12_ := Aside0.mk (blk_grown (kb_ BK334.out) hg (Kd.R_ne HO_350006.out BK334.out (by decide))); have n13_ := Aside0.mk (blk_grown (kb_ BK349.out) hg (Kd.R_ne HO_350006.out BK349.out (by decide))); have n14_ := Aside0.mk (blk_grown (kb_ BK364.out) hg (Kd.R_ne HO_350006.out BK364.out (by decide))); have n15_ := Aside0.mk ((by rw [hw]; exact below_set (HB.out) GB96.out : Below w.heap.size w w104)); clear HO_303006; clear HO_303007; clear HO_309006; clear HO_309007; clear HO_335006; clear HO_335007; clear HO_350006; clear HO_350007; clear HO_365006; clear HO_365007; clear BK302; clear BK308; clear BK334; clear BK349; clear BK364; clear HB; have HO_303006 := n0_; have HO_303007 := n1_; have HO_309006 := n2_; have HO_309007 := n3_; have HO_335006 := n4_; have HO_335007 := n5_; have HO_350006 := n6_; have HO_350007 := n7_; have HO_365006 := n8_; have HO_365007 := n9_; have BK302 := n10_; have BK308 := n11_; have BK334 := n12_; have BK349 := n13_; have BK364 := n14_; have HB := n15_; clear n0_ n1_ n2_ n3_ n4_ n5_ n6_ n7_ n8_ n9_ n10_ n11_ n12_ n13_ n14_ n15_; clear hg hw hp_))
                           go_roundg k3
                           case measure => have := HK1.out; have := HK2.out; have := HK3.out; omega
                           case rel => exact ⟨(wrap64 (x75_3 + 1)), (x303006_3), (x309006_3), (x335006_3), (y370), (x365006_3), (u303006), (u309006), (u335006), (.slice (some ⟨go96, 0, none⟩) x350006_3.length co102), (u365006), (by first | rfl | (simp; done) | (simp [*]; done)), H', ⟨by have := HK1.out; have := HK2.out; have := HK3.out; omega⟩, ⟨by (with_reducible repeat (first | apply Kd.V_alloc | apply Kd.V_drewN | apply Kd.V_drew)); exact Kd.V_mono HO_303006.out (fun _ hk => ⟨hk.1.1, ⟨hk.1.2.1, ⟨hk.1.2.2.1, ⟨hk.1.2.2.2.1, ⟨hk.1.2.2.2.2.1, ⟨hk.2, ⟨hk.1.2.2.2.2.2.1, ⟨hk.1.2.2.2.2.2.2.1, ⟨hk.1.2.2.2.2.2.2.2.1, ⟨hk.1.2.2.2.2.2.2.2.2.1, ⟨hk.1.2.2.2.2.2.2.2.2.2.1, ⟨hk.1.2.2.2.2.2.2.2.2.2.2.1, ⟨hk.1.2.2.2.2.2.2.2.2.2.2.2.1, hk.1.2.2.2.2.2.2.2.2.2.2.2.2⟩⟩⟩⟩⟩⟩⟩⟩⟩⟩⟩⟩⟩)⟩, ⟨by (with_reducible repeat (first | apply Kd.V_alloc | apply Kd.V_drewN | apply Kd.V_drew)); exact Kd.V_mono HO_303007.out (fun _ hk => ⟨hk.1.1, ⟨hk.1.2.1, ⟨hk.1.2.2.1, ⟨hk.1.2.2.2.1, ⟨hk.1.2.2.2.2.1, ⟨hk.2, ⟨hk.1.2.2.2.2.2.1, ⟨hk.1.2.2.2.2.2.2.1, ⟨hk.1.2.2.2.2.2.2.2.1, ⟨hk.1.2.2.2.2.2.2.2.2.1, ⟨hk.1.2.2.2.2.2.2.2.2.2.1, ⟨hk.1.2.2.2.2.2.2.2.2.2.2.1, ⟨hk.1.2.2.2.2.2.2.2.2.2.2.2.1, hk.1.2.2.2.2.2.2.2.2.2.2.2.2⟩⟩⟩⟩⟩⟩⟩⟩⟩⟩⟩⟩⟩)⟩, ⟨by (with_reducible repeat (first | apply Kd.R_alloc | apply Kd.R_drewN | apply Kd.R_drew)); exact Kd.R_mono HO_309006.out (fun _ hk => ⟨hk.1.1, ⟨hk.1.2.1, ⟨hk.2, hk.1.2.2⟩⟩⟩)⟩, ⟨by (with_reducible repeat (first | apply Kd.R_alloc | apply Kd.R_drewN | apply Kd.R_drew)); exact HO_309007.out⟩, ⟨by (with_reducible repeat (first | apply Kd.R_alloc | apply Kd.R_drewN | apply Kd.R_drew)); exact Kd.R_mono HO_335006.out (fun _ hk => ⟨hk.1.1, ⟨hk.1.2.1, ⟨hk.2, hk.1.2.2⟩⟩⟩)⟩, ⟨by (with_reducible repeat (first | apply Kd.R_alloc | apply Kd.R_drewN | apply Kd.R_drew)); exact HO_335007.out⟩, ⟨by (with_reducible repeat (first | apply Kd.R_alloc | apply Kd.R_drewN | apply Kd.R_drew)); exact HO_350006.out⟩, ⟨by (with_reducible repeat (first | apply Kd.R_alloc | apply Kd.R_drewN | apply Kd.R_drew)); exact HO_350007.out⟩, ⟨by (with_reducible repeat (first | apply Kd.R_alloc | apply Kd.R_drewN | apply Kd.R_drew)); exact Kd.R_mono HO_365006.out (fun _ hk => ⟨hk.1.1, ⟨hk.1.2.1, ⟨hk.1.2.2, hk.2⟩⟩⟩)⟩, ⟨by (with_reducible repeat (first | apply Kd.R_alloc | apply Kd.R_drewN | apply Kd.R_drew)); exact HO_365007.out⟩, ⟨by (with_reducible repeat (first | refine blk_drewN ?_ _ | refine blk_drew ?_ | refine blk_alloc ?_ _)); exact BK302.out⟩, ⟨by (with_reducible repeat (first | refine blk_drewN ?_ _ | refine blk_drew ?_ | refine blk_alloc ?_ _)); exact BK308.out⟩, ⟨by (with_reducible repeat (first | refine blk_drewN ?_ _ | refine blk_drew ?_ | refine blk_alloc ?_ _)); exact BK334.out⟩, ⟨by (with_reducible repeat (first | refine blk_drewN ?_ _ | refine blk_drew ?_ | refine blk_alloc ?_ _)); exact BK349.out⟩, ⟨by (with_reducible repeat (first | refine blk_drewN ?_ _ | refine blk_drew ?_ | refine blk_alloc ?_ _)); exact BK364.out⟩, ⟨by repeat (first | (with_reducible first | exact HB.out | apply below_alloc | apply pw_below_drewN | apply below_drew1 | refine below_set ?_ GE302.out | refine below_set ?_ GE308.out | refine below_set ?_ GE334.out | refine below_set ?_ GE349.out | refine below_set ?_ GE364.out) | exact HB.out)⟩⟩
                         · rw [if_neg c95] at H
                           exact absurd H (by simp)
                       · rw [if_neg c94] at H
                         exact absurd H (by simp)
                     · rw [if_neg c93] at H
                       exact absurd H (by simp)
                   · rw [if_neg c92] at H
                     have c92b0 : decide (x75_3 < (x350006_1.length : Int)) = false := decide_eq_false c92
                     clear c92
                     obtain ⟨t371, A105, H⟩ := bs_ H
                     by_cases c106 : t371 = true
                     · subst c106
                       rw [if_pos rfl] at H
                       obtain ⟨t372, A107, H⟩ := bs_ H
                       by_cases c108 : t372 = true
                       · subst c108
                         rw [if_pos rfl] at H
                         obtain ⟨t373, A109, H⟩ := bs_ H
                         obtain rfl := Option.some.inj H
                         obtain ⟨Ao112, co112, eo112⟩ := Kd.R_slice HO_335006.out
                         subst eo112
                         obtain ⟨Ao113, co113, eo113⟩ := Kd.R_slice HO_335007.out
                         subst eo113
                         obtain ⟨Ao114, co114, eo114⟩ := Kd.V_slice HO_303006.out
                         subst eo114
                         obtain ⟨Ao115, co115, eo115⟩ := Kd.V_slice HO_303007.out
                         subst eo115
                         go_wp2_with (first | ((with_reducible refine gate_dst (N := 88) rfl ?_); refine blk_load_event ?lg (N := 88) ?ld (t := 29) (x := ?lxxz110) ?lo (g := gb334) ?lx (cs := _) BK334.out ?lD ?lt ?_; (case lg => rfl); (case ld => rfl); (case lo => rfl); (case lx => first | rfl | (go_simp; done) | (go_simp; rfl)); (case lD => exact ⟨_, Try.underlying29, rfl⟩); (case lt => kernel_rfl)) | ((with_reducible refine gate_dst (N := 89) rfl ?_); refine blk_load_event ?lg (N := 89) ?ld (t := 29) (x := ?lxxz111) ?lo (g := gb302) ?lx (cs := _) BK302.out ?lD ?lt ?_; (case lg => rfl); (case ld => rfl); (case lo => rfl); (case lx => first | rfl | (go_simp; done) | (go_simp; rfl)); (case lD => exact ⟨_, Try.underlying29, rfl⟩); (case lt => kernel_rfl)) | ((with_reducible refine gate_callee (f := 11) rfl ?_); refine goesL_ (some 90) rfl rfl Try.func11 (by kernel_rfl) rfl #[.agg #[.int .i64 t321, .int .i64 t322, .int .i64 t323, .int .i64 t324, .int .i64 t325, .int .i64 t326, .slice Ao112 x335006_3.length co112, .slice Ao113 x335007_2.length co113, .bool t333], .agg #[.int .i64 a0_0, .int .i64 a0_1, .int .i64 a0_2, .int .i64 a0_3, .int .i64 a0_4, .int .i64 a0_5, .slice Ao114 x303006_3.length co114, .slice Ao115 x303007_2.length co115, .bool a0_8]] rfl (by (try simp only [List.map_toArray, List.map_cons, List.map_nil]); first | done | rfl | (simp only [List.length_drop, List.length_take]; rfl)) ?_; (with_reducible refine (althingref05_Same.calls k3 t321 t322 t323 t324 t325 t326 _ _ x335006_3 _ _ x335007_2 t333 a0_0 a0_1 a0_2 a0_3 a0_4 a0_5 _ _ x303006_3 _ _ x303007_2 a0_8 true _ ?side1 ?side2 ?side3 ?side4 ?side5 ?side6 ?side7 ?side8 A105.out).mono ?_); (case side1 => repeat (first | exact (Kd.R_reads' HO_335006.out).2.2 | (with_reducible refine Kd.C_alloc ?_ _) | (with_reducible refine Kd.C_drewN ?_ _) | (with_reducible refine Kd.C_drew ?_))); (case side2 => exact (Kd.R_reads' HO_335006.out).2.1); (case side3 => repeat (first | exact (Kd.R_reads' HO_335007.out).2.2 | (with_reducible refine Kd.C_alloc ?_ _) | (with_reducible refine Kd.C_drewN ?_ _) | (with_reducible refine Kd.C_drew ?_))); (case side4 => exact (Kd.R_reads' HO_335007.out).2.1); (case side5 => repeat (first | exact (Kd.V_reads' HO_303006.out).2.2 | (with_reducible refine Kd.C_alloc ?_ _) | (with_reducible refine Kd.C_drewN ?_ _) | (with_reducible refine Kd.C_drew ?_))); (case side6 => exact (Kd.V_reads' HO_303006.out).2.1); (case side7 => repeat (first | exact (Kd.V_reads' HO_303007.out).2.2 | (with_reducible refine Kd.C_alloc ?_ _) | (with_reducible refine Kd.C_drewN ?_ _) | (with_reducible refine Kd.C_drew ?_))); (case side8 => exact (Kd.V_reads' HO_303007.out).2.1); rintro e w116 ⟨rfl, hb⟩; refine ⟨_, rfl, ?_⟩; have n0_ := Aside0.mk (Kd.V_below (kv_ HO_303006.out) hb); have n1_ := Aside0.mk (Kd.V_below (kv_ HO_303007.out) hb); have n2_ := Aside0.mk (Kd.R_below (kr_ HO_309006.out) hb); have n3_ := Aside0.mk (Kd.R_below (kr_ HO_309007.out) hb); have n4_ := Aside0.mk (Kd.R_below (kr_ HO_335006.out) hb); have n5_ := Aside0.mk (Kd.R_below (kr_ HO_335007.out) hb); have n6_ := Aside0.mk (Kd.R_below (kr_ HO_350006.out) hb); have n7_ := Aside0.mk (Kd.R_below (kr_ HO_350007.out) hb); have n8_ := Aside0.mk (Kd.R_below (kr_ HO_365006.out) hb); have n9_ := Aside0.mk (Kd.R_below (kr_ HO_365007.out) hb); have n10_ := Aside0.mk (blk_below (kb_ BK302.out) hb); have n11_ := Aside0.mk (blk_below (kb_ BK308.out) hb); have n12_ := Aside0.mk (blk_below (kb_ BK334.out) hb); have n13_ := Aside0.mk (blk_below (kb_ BK349.out) hb); have n14_ := Aside0.mk (blk_below (kb_ BK364.out) hb); have n15_ := Aside0.mk (below_step (by repeat (first | (with_reducible first | exact HB.out | apply below_alloc | apply pw_below_drewN | apply below_drew1 | refine below_set ?_ GE302.out | refine below_set ?_ GE308.out | refine below_set ?_ GE334.out | refine below_set ?_ GE349.out | refine below_set ?_ GE364.out) | exact HB.out)) hb); clear HO_303006; clear HO_303007; clear HO_309006; clear HO_309007; clear HO_335006; clear HO_335007; clear HO_350006; clear HO_350007; clear HO_365006; clear HO_365007; clear BK302; clear BK308; clear BK334; clear BK349; clear BK364; clear HB; have HO_303006 := n0_; have HO_303007 := n1_; have HO_309006 := n2_; have HO_309007 := n3_; have HO_335006 := n4_; have HO_335007 := n5_; have HO_350006 := n6_; have HO_350007 := n7_; have HO_365006 := n8_; have HO_365007 := n9_; have BK302 := n10_; have BK308 := n11_; have BK334 := n12_; have BK349 := n13_; have BK364 := n14_; have HB := n15_; clear n0_ n1_ n2_ n3_ n4_ n5_ n6_ n7_ n8_ n9_ n10_ n11_ n12_ n13_ n14_ n15_; (try clear hb); (try clear hb2); (try clear hk); (try clear hi); have hnb117 := NB308_302.out; have hnc117 := NB302_308.out; have hnb118 := NB308_334.out; have hnc118 := NB334_308.out; have hnb119 := NB308_349.out; have hnc119 := NB349_308.out; have hnb120 := NB308_364.out; have hnc120 := NB364_308.out; refine blk9_ BK308.out fun hcz121_0 hcz121_1 hcz121_2 hcz121_3 hcz121_4 hcz121_5 hcz121_6 hcz121_7 hcz121_8 hfz121_0 hfz121_1 hfz121_2 hfz121_3 hfz121_4 hfz121_5 hfz121_6 hfz121_7 hfz121_8 => ?_; have hnb122 := NB302_334.out; have hnc122 := NB334_302.out; have hnb123 := NB302_349.out; have hnc123 := NB349_302.out; have hnb124 := NB302_364.out; have hnc124 := NB364_302.out; refine blk9_ BK302.out fun hcz125_0 hcz125_1 hcz125_2 hcz125_3 hcz125_4 hcz125_5 hcz125_6 hcz125_7 hcz125_8 hfz125_0 hfz125_1 hfz125_2 hfz125_3 hfz125_4 hfz125_5 hfz125_6 hfz125_7 hfz125_8 => ?_; obtain ⟨Ao126, co126, eo126⟩ := Kd.R_slice HO_309006.out; subst eo126; obtain ⟨Ao127, co127, eo127⟩ := Kd.R_slice HO_309007.out; subst eo127) | (go_at_call 11; (with_reducible refine (althingref05_Same.calls k3 a0_0 a0_1 a0_2 a0_3 a0_4 a0_5 _ _ x309006_3 _ _ x309007_2 a0_8 a0_0 a0_1 a0_2 a0_3 a0_4 a0_5 _ _ x303006_3 _ _ x303007_2 a0_8 true _ ?side1 ?side2 ?side3 ?side4 ?side5 ?side6 ?side7 ?side8 A107.out).mono ?_); (case side1 => repeat (first | exact (Kd.R_reads' HO_309006.out).2.2 | (with_reducible refine Kd.C_alloc ?_ _) | (with_reducible refine Kd.C_drewN ?_ _) | (with_reducible refine Kd.C_drew ?_))); (case side2 => exact (Kd.R_reads' HO_309006.out).2.1); (case side3 => repeat (first | exact (Kd.R_reads' HO_309007.out).2.2 | (with_reducible refine Kd.C_alloc ?_ _) | (with_reducible refine Kd.C_drewN ?_ _) | (with_reducible refine Kd.C_drew ?_))); (case side4 => exact (Kd.R_reads' HO_309007.out).2.1); (case side5 => repeat (first | exact (Kd.V_reads' HO_303006.out).2.2 | (with_reducible refine Kd.C_alloc ?_ _) | (with_reducible refine Kd.C_drewN ?_ _) | (with_reducible refine Kd.C_drew ?_))); (case side6 => exact (Kd.V_reads' HO_303006.out).2.1); (case side7 => repeat (first | exact (Kd.V_reads' HO_303007.out).2.2 | (with_reducible refine Kd.C_alloc ?_ _) | (with_reducible refine Kd.C_drewN ?_ _) | (with_reducible refine Kd.C_drew ?_))); (case side8 => exact (Kd.V_reads' HO_303007.out).2.1); rintro e w128 ⟨rfl, hb⟩; have n0_ := Aside0.mk (Kd.V_below (kv_ HO_303006.out) hb); have n1_ := Aside0.mk (Kd.V_below (kv_ HO_303007.out) hb); have n2_ := Aside0.mk (Kd.R_below (kr_ HO_309006.out) hb); have n3_ := Aside0.mk (Kd.R_below (kr_ HO_309007.out) hb); have n4_ := Aside0.mk (Kd.R_below (kr_ HO_335006.out) hb); have n5_ := Aside0.mk (Kd.R_below (kr_ HO_335007.out) hb); have n6_ := Aside0.mk (Kd.R_below (kr_ HO_350006.out) hb); have n7_ := Aside0.mk (Kd.R_below (kr_ HO_350007.out) hb); have n8_ := Aside0.mk (Kd.R_below (kr_ HO_365006.out) hb); have n9_ := Aside0.mk (Kd.R_below (kr_ HO_365007.out) hb); have n10_ := Aside0.mk (blk_below (kb_ BK302.out) hb); have n11_ := Aside0.mk (blk_below (kb_ BK308.out) hb); have n12_ := Aside0.mk (blk_below (kb_ BK334.out) hb); have n13_ := Aside0.mk (blk_below (kb_ BK349.out) hb); have n14_ := Aside0.mk (blk_below (kb_ BK364.out) hb); have n15_ := Aside0.mk (below_step (by repeat (first | (with_reducible first | exact HB.out | apply below_alloc | apply pw_below_drewN | apply below_drew1 | refine below_set ?_ GE302.out | refine below_set ?_ GE308.out | refine below_set ?_ GE334.out | refine below_set ?_ GE349.out | refine below_set ?_ GE364.out) | exact HB.out)) hb); clear HO_303006; clear HO_303007; clear HO_309006; clear HO_309007; clear HO_335006; clear HO_335007; clear HO_350006; clear HO_350007; clear HO_365006; clear HO_365007; clear BK302; clear BK308; clear BK334; clear BK349; clear BK364; clear HB; have HO_303006 := n0_; have HO_303007 := n1_; have HO_309006 := n2_; have HO_309007 := n3_; have HO_335006 := n4_; have HO_335007 := n5_; have HO_350006 := n6_; have HO_350007 := n7_; have HO_365006 := n8_; have HO_365007 := n9_; have BK302 := n10_; have BK308 := n11_; have BK334 := n12_; have BK349 := n13_; have BK364 := n14_; have HB := n15_; clear n0_ n1_ n2_ n3_ n4_ n5_ n6_ n7_ n8_ n9_ n10_ n11_ n12_ n13_ n14_ n15_; (try clear hb); (try clear hb2); (try clear hk); (try clear hi)) | ((with_reducible refine gate_dst (N := 97) rfl ?_); (try (refine gate_guard (by rfl) ?_; dsimp only)); refine goesL_ (some 97) rfl rfl Try.func9 (by kernel_rfl) rfl #[] rfl (by (try simp only [List.map_toArray, List.map_cons, List.map_nil]); first | done | rfl) ?_; (with_reducible refine (althinglaw05_awake.calls k3  t373 _ A109.out).mono ?_); rintro e w129 ⟨rfl, hb⟩; refine ⟨_, rfl, ?_⟩; have n0_ := Aside0.mk (Kd.V_below (kv_ HO_303006.out) hb); have n1_ := Aside0.mk (Kd.V_below (kv_ HO_303007.out) hb); have n2_ := Aside0.mk (Kd.R_below (kr_ HO_309006.out) hb); have n3_ := Aside0.mk (Kd.R_below (kr_ HO_309007.out) hb); have n4_ := Aside0.mk (Kd.R_below (kr_ HO_335006.out) hb); have n5_ := Aside0.mk (Kd.R_below (kr_ HO_335007.out) hb); have n6_ := Aside0.mk (Kd.R_below (kr_ HO_350006.out) hb); have n7_ := Aside0.mk (Kd.R_below (kr_ HO_350007.out) hb); have n8_ := Aside0.mk (Kd.R_below (kr_ HO_365006.out) hb); have n9_ := Aside0.mk (Kd.R_below (kr_ HO_365007.out) hb); have n10_ := Aside0.mk (blk_below (kb_ BK302.out) hb); have n11_ := Aside0.mk (blk_below (kb_ BK308.out) hb); have n12_ := Aside0.mk (blk_below (kb_ BK334.out) hb); have n13_ := Aside0.mk (blk_below (kb_ BK349.out) hb); have n14_ := Aside0.mk (blk_below (kb_ BK364.out) hb); have n15_ := Aside0.mk (below_step (by repeat (first | (with_reducible first | exact HB.out | apply below_alloc | apply pw_below_drewN | apply below_drew1 | refine below_set ?_ GE302.out | refine below_set ?_ GE308.out | refine below_set ?_ GE334.out | refine below_set ?_ GE349.out | refine below_set ?_ GE364.out) | exact HB.out)) hb); clear HO_303006; clear HO_303007; clear HO_309006; clear HO_309007; clear HO_335006; clear HO_335007; clear HO_350006; clear HO_350007; clear HO_365006; clear HO_365007; clear BK302; clear BK308; clear BK334; clear BK349; clear BK364; clear HB; have HO_303006 := n0_; have HO_303007 := n1_; have HO_309006 := n2_; have HO_309007 := n3_; have HO_335006 := n4_; have HO_335007 := n5_; have HO_350006 := n6_; have HO_350007 := n7_; have HO_365006 := n8_; have HO_365007 := n9_; have BK302 := n10_; have BK308 := n11_; have BK334 := n12_; have BK349 := n13_; have BK364 := n14_; have HB := n15_; clear n0_ n1_ n2_ n3_ n4_ n5_ n6_ n7_ n8_ n9_ n10_ n11_ n12_ n13_ n14_ n15_; (try clear hb); (try clear hb2); (try clear hk); (try clear hi)))
                         go_ret
                         exact ⟨by first | rfl | (simp [errW_none, errW_some] <;> rfl) | (simp [*, errW_none, errW_some] <;> rfl), by repeat (first | (with_reducible first | exact HB.out | apply below_alloc | apply pw_below_drewN | apply below_drew1 | refine below_set ?_ GE302.out | refine below_set ?_ GE308.out | refine below_set ?_ GE334.out | refine below_set ?_ GE349.out | refine below_set ?_ GE364.out) | exact HB.out)⟩
                       · replace c108 := Bool.eq_false_iff.mpr c108
                         subst c108
                         rw [if_neg (show ¬ (false = true) by decide)] at H
                         exact absurd H (by simp)
                     · replace c106 := Bool.eq_false_iff.mpr c106
                       subst c106
                       rw [if_neg (show ¬ (false = true) by decide)] at H
                       exact absurd H (by simp)
       · replace c8 := Bool.eq_false_iff.mpr c8
         subst c8
         rw [if_neg (show ¬ (false = true) by decide)] at H
         exact absurd H (by simp)
     · rw [if_neg c5] at H
       exact absurd H (by simp)
   · rw [if_neg c4] at H
     exact absurd H (by simp)
 · replace c3 := Bool.eq_false_iff.mpr c3
   subst c3
   rw [if_neg (show ¬ (false = true) by decide)] at H
   obtain ⟨t307, A130, H⟩ := bs_ H
   obtain rfl := Option.some.inj H
   go_enter Try.func3, Try.ntmps3
   go_wp2_with (first | ((with_reducible refine gate_dst (N := 1) rfl ?_); refine box_event ?hg (N := 1) ?hd (cs := #[.int .i64 a0_0, .int .i64 a0_1, .int .i64 a0_2, .int .i64 a0_3, .int .i64 a0_4, .int .i64 a0_5, .slice A0_6 l0_6.length c0_6, .slice A0_7 l0_7.length c0_7, .bool a0_8]) (t := 29) ?hr ?_; (case hd => rfl); (case hg => rfl); (case hr => first | (go_simp; done) | (go_simp; rfl)); intro gb302 hg w131 hbox hb; have n0_ := Aside0.mk (Kd.V_below (Kd.V_elderB (kv_ HO0_6.out) gb302 (Nat.le_of_eq hg.symm)) hb); have n1_ := Aside0.mk (Kd.V_below (Kd.V_elderB (kv_ HO0_7.out) gb302 (Nat.le_of_eq hg.symm)) hb); have n2_ := Aside0.mk (below_step lb_ hb); have n3_ := Aside0.mk (hbox); have n4_ := Aside0.mk ((by rw [hg]; exact (below_size lb_) : w.heap.size ≤ gb302)); have n5_ := Aside0.mk ((by rw [hg]; exact (below_size lb_) : w.heap.size ≤ gb302)); clear HO0_6; clear HO0_7; clear HB; have HO0_6 := n0_; have HO0_7 := n1_; have HB := n2_; have BK302 := n3_; have GW302 := n4_; have GE302 := n5_; clear n0_ n1_ n2_ n3_ n4_ n5_; clear hb hbox hg) | ((with_reducible refine gate_dst (N := 11) rfl ?_); refine blk_load_event ?lg (N := 11) ?ld (t := 29) (x := ?lxxz132) ?lo (g := gb302) ?lx (cs := _) BK302.out ?lD ?lt ?_; (case lg => rfl); (case ld => rfl); (case lo => rfl); (case lx => first | rfl | (go_simp; done) | (go_simp; rfl)); (case lD => exact ⟨_, Try.underlying29, rfl⟩); (case lt => kernel_rfl)) | ((with_reducible refine gate_dst (N := 12) rfl ?_); refine Kd.N_lit k29 _ 29 ?hg (N' := 12) ?hd (xs := ([(⟨a0_0, (⟨a0_1, a0_2⟩ : S23), (⟨a0_3, a0_4⟩ : S25), a0_5, l0_6, l0_7, a0_8⟩ : S29)] : List (S29))) (inner := [.int .i64 a0_0, .int .i64 a0_1, .int .i64 a0_2, .int .i64 a0_3, .int .i64 a0_4, .int .i64 a0_5, .slice A0_6 l0_6.length c0_6, .slice A0_7 l0_7.length c0_7, .bool a0_8]) (ok := (fun k_ => ((P0_6_ k_ ∨ P0_7_ k_) ∨ w.heap.size ≤ k_) ∧ k_ ≠ gb302)) (okp := (fun k_ => ((P0_6_ k_ ∨ P0_7_ k_) ∨ w.heap.size ≤ k_) ∧ k_ ≠ gb302)) ?hr ?hp (fun _ hk => hk) ((show ∀ k_, w131.heap.size ≤ k_ → (fun k_ => ((P0_6_ k_ ∨ P0_7_ k_) ∨ w.heap.size ≤ k_) ∧ k_ ≠ gb302) k_ from fun k_ hk => ⟨(.inr (Nat.le_trans (below_size (by repeat (first | (with_reducible first | exact HB.out | apply below_alloc | apply pw_below_drewN | apply below_drew1 | refine below_set ?_ GE302.out) | exact HB.out))) hk)), Kd.freshB (g := gb302) (o := .cells #[.int .i64 a0_0, .int .i64 a0_1, .int .i64 a0_2, .int .i64 a0_3, .int .i64 a0_4, .int .i64 a0_5, .slice A0_6 l0_6.length c0_6, .slice A0_7 l0_7.length c0_7, .bool a0_8] 29 (0, 0)) (kb_ BK302.out) k_ hk⟩) _ (Nat.le_refl _)) (Below.refl _ _) (Nat.le_refl _) (by simp) ?_; (case hd => rfl); (case hg => rfl); (case hr => first | (go_simp; done) | (go_simp; rfl)); (case hp => exact (Reps.c9 (show Kd.FK k29 _ _ (⟨a0_0, (⟨a0_1, a0_2⟩ : S23), (⟨a0_3, a0_4⟩ : S25), a0_5, l0_6, l0_7, a0_8⟩ : S29) [.int .i64 a0_0, .int .i64 a0_1, .int .i64 a0_2, .int .i64 a0_3, .int .i64 a0_4, .int .i64 a0_5, .slice A0_6 l0_6.length c0_6, .slice A0_7 l0_7.length c0_7, .bool a0_8] from (k29_mkF _ _ (⟨a0_0, (⟨a0_1, a0_2⟩ : S23), (⟨a0_3, a0_4⟩ : S25), a0_5, l0_6, l0_7, a0_8⟩ : S29) (Kd.V_reads' (Kd.V_mono (ok' := (fun k_ => ((P0_6_ k_ ∨ P0_7_ k_) ∨ w.heap.size ≤ k_) ∧ k_ ≠ gb302)) (HO0_6.out) (fun k_ hk => ⟨hk.1, hk.2⟩))).2.1 (Kd.V_F (Kd.V_mono (ok' := (fun k_ => ((P0_6_ k_ ∨ P0_7_ k_) ∨ w.heap.size ≤ k_) ∧ k_ ≠ gb302)) (HO0_6.out) (fun k_ hk => ⟨hk.1, hk.2⟩))) (Kd.V_reads' (Kd.V_mono (ok' := (fun k_ => ((P0_6_ k_ ∨ P0_7_ k_) ∨ w.heap.size ≤ k_) ∧ k_ ≠ gb302)) (HO0_7.out) (fun k_ hk => ⟨hk.1, hk.2⟩))).2.1 (Kd.V_F (Kd.V_mono (ok' := (fun k_ => ((P0_6_ k_ ∨ P0_7_ k_) ∨ w.heap.size ≤ k_) ∧ k_ ≠ gb302)) (HO0_7.out) (fun k_ hk => ⟨hk.1, hk.2⟩))))) (Reps.none _ _))); intro v304 w133 ho134 hb hg_ hnew_; clear hg_ hnew_; (first | rw [← Ny303.out] at ho134 | (simp only [Int.reduceToNat] at ho134; rw [← Ny303.out] at ho134)); have n0_ := Aside0.mk (Kd.V_elder' (kv_ HO0_6.out) (Kd.N_base ho134) hb); have n1_ := Aside0.mk (Kd.V_elder' (kv_ HO0_7.out) (Kd.N_base ho134) hb); have n2_ := Aside0.mk (Kd.N_lower ho134 (below_size (by repeat (first | (with_reducible first | exact HB.out | apply below_alloc | apply pw_below_drewN | apply below_drew1 | refine below_set ?_ GE302.out) | exact HB.out)))); have n3_ := Aside0.mk (blk_below (kb_ BK302.out) hb); have n4_ := Aside0.mk (below_step (by repeat (first | (with_reducible first | exact HB.out | apply below_alloc | apply pw_below_drewN | apply below_drew1 | refine below_set ?_ GE302.out) | exact HB.out)) hb); clear HO0_6; clear HO0_7; clear BK302; clear HB; have HO0_6 := n0_; have HO0_7 := n1_; have HO305 := n2_; have BK302 := n3_; have HB := n4_; clear n0_ n1_ n2_ n3_ n4_; clear hb ho134; obtain ⟨Ao135, co135, eo135⟩ := Kd.N_slice HO305.out; subst eo135) | ((with_reducible refine gate_callee (f := 8) rfl ?_); refine goesL_ (some 13) rfl rfl Try.func8 (by kernel_rfl) rfl #[.slice Ao135 y303.length co135] rfl (by (try simp only [List.map_toArray, List.map_cons, List.map_nil]); first | done | rfl | (simp only [List.length_drop, List.length_take]; rfl)) ?_; (with_reducible refine (althinglaw05_Few.calls k _ _ y303 false _ ?side1 ?side2 A2.out).mono ?_); (case side1 => repeat (first | exact (Kd.N_reads' HO305.out).2.2 | (with_reducible refine Kd.C_alloc ?_ _) | (with_reducible refine Kd.C_drewN ?_ _) | (with_reducible refine Kd.C_drew ?_))); (case side2 => exact (Kd.N_reads' HO305.out).2.1); rintro e w136 ⟨rfl, hb⟩; refine ⟨_, rfl, ?_⟩; have n0_ := Aside0.mk (Kd.V_below (kv_ HO0_6.out) hb); have n1_ := Aside0.mk (Kd.V_below (kv_ HO0_7.out) hb); have n2_ := Aside0.mk (Kd.N_below (kn_ HO305.out) hb); have n3_ := Aside0.mk (blk_below (kb_ BK302.out) hb); have n4_ := Aside0.mk (below_step (by repeat (first | (with_reducible first | exact HB.out | apply below_alloc | apply pw_below_drewN | apply below_drew1 | refine below_set ?_ GE302.out) | exact HB.out)) hb); clear HO0_6; clear HO0_7; clear HO305; clear BK302; clear HB; have HO0_6 := n0_; have HO0_7 := n1_; have HO305 := n2_; have BK302 := n3_; have HB := n4_; clear n0_ n1_ n2_ n3_ n4_; (try clear hb); (try clear hb2); (try clear hk); (try clear hi)) | ((with_reducible refine gate_callee (f := 9) rfl ?_); refine goesL_ (some 15) rfl rfl Try.func9 (by kernel_rfl) rfl #[] rfl (by (try simp only [List.map_toArray, List.map_cons, List.map_nil]); first | done | rfl | (simp only [List.length_drop, List.length_take]; rfl)) ?_; (with_reducible refine (althinglaw05_awake.calls k  t307 _ A130.out).mono ?_); rintro e w137 ⟨rfl, hb⟩; refine ⟨_, rfl, ?_⟩; have n0_ := Aside0.mk (Kd.V_below (kv_ HO0_6.out) hb); have n1_ := Aside0.mk (Kd.V_below (kv_ HO0_7.out) hb); have n2_ := Aside0.mk (Kd.N_below (kn_ HO305.out) hb); have n3_ := Aside0.mk (blk_below (kb_ BK302.out) hb); have n4_ := Aside0.mk (below_step (by repeat (first | (with_reducible first | exact HB.out | apply below_alloc | apply pw_below_drewN | apply below_drew1 | refine below_set ?_ GE302.out) | exact HB.out)) hb); clear HO0_6; clear HO0_7; clear HO305; clear BK302; clear HB; have HO0_6 := n0_; have HO0_7 := n1_; have HO305 := n2_; have BK302 := n3_; have HB := n4_; clear n0_ n1_ n2_ n3_ n4_; (try clear hb); (try clear hb2); (try clear hk); (try clear hi)))
   go_ret
   exact ⟨by first | rfl | (simp [errW_none, errW_some] <;> rfl) | (simp [*, errW_none, errW_some] <;> rfl), by repeat (first | (with_reducible first | exact HB.out | apply below_alloc | apply pw_below_drewN | apply below_drew1 | refine below_set ?_ GE302.out) | exact HB.out)⟩
end Go.Proofs.Ytnjeeedndnfglaa.X
end
section
namespace Go.Proofs.Ytnjeeedndnfglaa.Strs
open Go.RowKit Go.Proofs.YtnjeeedndnfglaaW.PrintWords Go.Proofs.YtnjeeedndnfglaaW.PrintLast Go.Proofs.YtnjeeedndnfglaaW.PrintMore Go.Proofs.Ytnjeeedndnfglaa.X
set_option linter.unusedSimpArgs false
set_option linter.unusedVariables false
theorem Ev.le {α : Type} {g : Nat → Option α} {r : α} (K : Nat) (h : ∀ k, K ≤ k → g k = some r) : Ev g r := ⟨K, h⟩
theorem Ev.const {α : Type} {g : Option α} {r : α} (h : g = some r) : Ev (fun _ => g) r := ⟨0, fun _ _ => h⟩
theorem w1 (i : Nat) (h : i ≤ 100000000) : wrap64 ((i : Int) + 1) = ((i + 1 : Nat) : Int) := by unfold wrap64; omega
theorem rd_at (l : List ByteArray) (i : Nat) (h : i < l.length) : rdOf ByteArray.empty l (i : Int) = l[i] := rd_el l i h
theorem few_big {l : List ByteArray} (h : few l) : big l := ⟨by have := h.1; omega, fun x hx => by have := h.2 x hx; omega⟩
theorem joinB_symm (a b : List ByteArray) : joinB a b = joinB b a := (joinB_joined a b).unique ((joinB_joined b a).symm)
theorem joinB_self (a b : List ByteArray) : joinB (joinB a b) (joinB a b) = joinB a b := (joinB_joined _ _).unique (Joined.self (joinB_joined a b).1)
theorem dd_len : ∀ (l acc : List ByteArray), (dd acc l).length ≤ acc.length + l.length
  | [], acc => by simp [dd]
  | x :: l, acc => by
    unfold dd
    split
    · have := dd_len l acc; simp only [List.length_cons]; omega
    · have := dd_len l (acc ++ [x]); simp only [List.length_append, List.length_cons, List.length_nil] at *; omega
theorem joinB_len (a b : List ByteArray) : (joinB a b).length ≤ a.length + b.length := by
  unfold joinB
  rw [srt_length]
  have := dd_len (a ++ b) []
  simpa using this
theorem joinB_mem {a b : List ByteArray} {x : ByteArray} (h : x ∈ joinB a b) : x ∈ a ∨ x ∈ b := ((joinB_joined a b).2 x).1 h
theorem join_f {a b : List ByteArray} (ha : big a) (hb : big b) : keys_Join.f a b = some (joinB a b) := by unfold keys_Join.f; rw [if_pos ⟨ha, hb⟩]
theorem joinB_big {a b : List ByteArray} (ha : few a) (hb : few b) : big (joinB a b) := ⟨by have := joinB_len a b; have := ha.1; have := hb.1; omega, fun x hx => by
  rcases joinB_mem hx with h | h
  · have := ha.2 x h; omega
  · have := hb.2 x h; omega⟩
theorem less_blt (x y : ByteArray) : Op.bytesLess x.toList y.toList = true ↔ blt x y := by
  rw [toList_eq, toList_eq, bytesLess_eq, decide_eq_true_eq]
  exact Iff.rfl
end Go.Proofs.Ytnjeeedndnfglaa.Strs
end
section
namespace Go.Proofs.Ytnjeeedndnfglaa.Keys
open Go.RowKit
set_option linter.unusedSimpArgs false
set_option linter.unusedVariables false
theorem width_le (s : ByteArray) (pos : Nat) (h : pos < s.size) : pos + (Utf8.decode s pos).2 ≤ s.size := by
  rw [Lib.decode_at]
  have : (Lib.decodeN (s.size - pos) (s.get! pos).toNat (s.get! (pos + 1)).toNat (s.get! (pos + 2)).toNat (s.get! (pos + 3)).toNat).2 ≤ s.size - pos := by
    generalize (s.get! pos).toNat = b0
    generalize (s.get! (pos + 1)).toNat = b1
    generalize (s.get! (pos + 2)).toNat = b2
    generalize (s.get! (pos + 3)).toNat = b3
    unfold Lib.decodeN
    (repeat' split) <;> simp only <;> omega
  omega
/-- The runes from place pos on, b of them at most. -/
def rns (s : ByteArray) : Nat → Nat → List Int
  | 0, _ => []
  | b + 1, pos => if pos < s.size then ((Utf8.decode s pos).1 : Int) :: rns s b (pos + (Utf8.decode s pos).2) else []
def runes (s : ByteArray) : List Int := rns s s.size 0
theorem rns_end (s : ByteArray) (b pos : Nat) (h : ¬ pos < s.size) : rns s b pos = [] := by cases b <;> simp [rns, h]
theorem rns_len (s : ByteArray) : ∀ b pos, (rns s b pos).length ≤ s.size - pos
  | 0, _ => by simp [rns]
  | b + 1, pos => by
    unfold rns
    split
    · have := rns_len s b (pos + (Utf8.decode s pos).2)
      have := Lib.width_pos s pos
      simp only [List.length_cons]; omega
    · simp
theorem rns_range (s : ByteArray) : ∀ b pos, ∀ x ∈ rns s b pos, 0 ≤ x ∧ x ≤ 1114111
  | 0, _ => by simp [rns]
  | b + 1, pos => by
    unfold rns
    split
    · intro x hx
      rcases List.mem_cons.1 hx with rfl | hx
      · have := Lib.rune_le s pos; omega
      · exact rns_range s b _ x hx
    · simp
theorem runes_len (s : ByteArray) : (runes s).length ≤ s.size := by have := rns_len s s.size 0; unfold runes; omega
theorem runes_at (s : ByteArray) (i : Nat) : 0 ≤ (runes s).getD i 0 ∧ (runes s).getD i 0 ≤ 1114111 := by
  by_cases h : i < (runes s).length
  · have e : (runes s).getD i 0 = (runes s)[i] := by simp [List.getD_eq_getElem?_getD, h]
    rw [e]
    exact rns_range s s.size 0 _ (List.getElem_mem h)
  · have e : (runes s).getD i 0 = 0 := by simp [List.getD_eq_getElem?_getD, Nat.le_of_not_lt h]
    rw [e]; omega
def wsum (l : List Int) : Nat → Int
  | 0 => 0
  | k + 1 => wsum l k + ((k : Int) + 1) * l.getD k 0
def weight (s : ByteArray) : Int := wsum (runes s) (runes s).length
theorem wterm (k : Nat) (c : Int) (hk : k < 2000) (hc : 0 ≤ c ∧ c ≤ 1114111) : 0 ≤ ((k : Int) + 1) * c ∧ ((k : Int) + 1) * c ≤ 2228222000 := by
  refine ⟨Int.mul_nonneg (by omega) hc.1, ?_⟩
  calc ((k : Int) + 1) * c ≤ 2000 * c := Int.mul_le_mul_of_nonneg_right (by omega) hc.1
    _ ≤ 2228222000 := by omega
theorem wsum_range (l : List Int) (hl : ∀ i, 0 ≤ l.getD i 0 ∧ l.getD i 0 ≤ 1114111) : ∀ k, k ≤ 2000 → 0 ≤ wsum l k ∧ wsum l k ≤ 2228222000 * (k : Int)
  | 0, _ => by simp [wsum]
  | k + 1, h => by
    have ih := wsum_range l hl k (by omega)
    have ht := wterm k (l.getD k 0) (by omega) (hl k)
    unfold wsum
    omega
theorem weight_range (s : ByteArray) (hs : s.size ≤ 2000) : 0 ≤ weight s ∧ weight s ≤ 4456444000000 := by
  have hl := runes_len s
  have := wsum_range (runes s) (runes_at s) (runes s).length (by omega)
  unfold weight
  omega
end Go.Proofs.Ytnjeeedndnfglaa.Keys
end
section
namespace Go.Proofs.Ytnjeeedndnfglaa.Keys
open Go.RowKit Go.Proofs.YtnjeeedndnfglaaW.PrintWords Go.Proofs.YtnjeeedndnfglaaW.PrintLast Go.Proofs.YtnjeeedndnfglaaW.PrintMore Go.Proofs.Ytnjeeedndnfglaa.X
set_option linter.unusedSimpArgs false
set_option linter.unusedVariables false
theorem own_iter {w : World} {B e size n : Nat} {v : Value} {xs : List Value} {k : Nat} {s : ByteArray} {pos : Nat} (h : w.ownsRow B e size v n xs) (hk : w.heap[k]? = some (.stringIter s pos)) (pos' : Nat) : (w.iterAt k s pos').ownsRow B e size v n xs := by
  refine ⟨h.1, ?_⟩
  rcases h.2 with h0 | ⟨g, cap, cur, hv, hb, hg, rest⟩
  · exact .inl h0
  · refine .inr ⟨g, cap, cur, hv, hb, ?_, rest⟩
    rw [Lib.iterAt_other _ _ _ _ _ (fun e => by subst e; rw [hk] at hg; cases hg)]
    exact hg
theorem own_low {w : World} {B B' e size n : Nat} {v : Value} {xs : List Value} (h : w.ownsRow B e size v n xs) (hB : B' ≤ B) : w.ownsRow B' e size v n xs := by
  refine ⟨h.1, ?_⟩
  rcases h.2 with h0 | ⟨g, cap, cur, hv, hb, rest⟩
  · exact .inl h0
  · exact .inr ⟨g, cap, cur, hv, by omega, rest⟩
theorem own_cellsI {w : World} {base : Nat} {e : TypeId} {v : Value} {xs : List Int} (k : IntKind) (h : w.ownsRow base e 1 v xs.length (xs.map (Value.int k))) :
    ∃ A c, v = .slice A xs.length c ∧ ∀ j, j < xs.length → ∃ ad : Addr, A = some ad ∧ w.cell? (ad.add j) = some (.int k (xs.getD j 0)) ∧ ad.block < w.heap.size ∧ (ad.add j).block = ad.block := by
  rcases h.2 with ⟨rfl, h0⟩ | ⟨g, cap, cur, rfl, hg, hh, hn, _, hc, ht⟩
  · exact ⟨none, 0, by rw [h0], fun j hj => by omega⟩
  · refine ⟨_, cap, rfl, fun j hj => ⟨_, rfl, ?_⟩⟩
    have hj2 : j < cur.toList.length := by rw [Array.length_toList]; omega
    have e1 : (cur.toList.take (xs.length * 1))[j]? = (xs.map (Value.int k))[j]? := by rw [ht]
    rw [List.getElem?_take, if_pos (by omega), List.getElem?_map] at e1
    have e2 : xs[j]? = some (xs.getD j 0) := by simp [List.getD_eq_getElem?_getD, hj]
    rw [e2] at e1
    have h3 : w.cell? ⟨g, j, none⟩ = some (.int k (xs.getD j 0)) := by simp [World.cell?, hh]; simpa using e1
    have ha : (⟨g, 0, none⟩ : Addr).add j = ⟨g, j, none⟩ := by unfold Addr.add; split <;> simp_all
    rw [ha]
    exact ⟨h3, World.block_lt_of_cell? w ⟨g, j, none⟩ h3, rfl⟩
set_option maxRecDepth 1000000 in
set_option maxHeartbeats 4000000 in
theorem runes_any (s : ByteArray) (hs : s.size ≤ 2000) (w : World) :
    Calls Try.prog 59 #[.string s] w fun e w' => ∃ v, e = .returned v ∧ w'.ownsRow w.heap.size 21 1 v (runes s).length ((runes s).map (Value.int .i32)) ∧ Below w.heap.size w w' := by
  have hi : (Try.prog.info? 21).map (fun i => (i.zero, i.size, i.bytes)) = some (some (.int .i32 0), 1, 4) := by kernel_rfl
  have HI := Lib.hid hi
  clear hi
  go_enter Try.func59, Try.ntmps59
  go_wp2
  go_loopw [3] (fun v wr => ∃ (pos b : Nat) (acc : List Int), wr.heap[w.heap.size]? = some (.stringIter s pos) ∧ pos ≤ s.size ∧ acc.length ≤ pos ∧ s.size ≤ pos + b ∧ Hid (acc ++ rns s b pos = runes s) ∧ Hid (wr.ownsRow (w.heap.size + 1) 21 1 v acc.length (acc.map (Value.int .i32))) ∧ Hid (Below w.heap.size w wr)) (fun _ wr => s.size - wr.iterPos w.heap.size)
  case atStart => exact ⟨0, s.size, [], World.iter_heap w s 0, by omega, by simp, by omega, Lib.hid rfl, Lib.hid (own_none _ _ _ _), Lib.hid ((Below.refl _ w).alloc (Nat.le_refl _) _)⟩
  case round =>
    obtain ⟨pos, b, acc, hit, hpos, hacc, hfu, HL, HO, HB⟩ := hrel
    by_cases hps : pos < s.size
    · obtain ⟨b, rfl⟩ : ∃ b', b = b' + 1 := ⟨b - 1, by omega⟩
      have hnx : ∀ ty, (Instr.next (.pointer (some ⟨w.heap.size, 0, none⟩)) true ty).run Try.prog wr = _ := fun ty => Lib.run_next_any_at wr w.heap.size s pos ty hit hps
      have hwd := Lib.width_pos s pos
      have hwl := width_le s pos hps
      have hL2 := HL.out
      rw [rns, if_pos hps] at hL2
      obtain ⟨R, hR⟩ : ∃ R, (Utf8.decode s pos).1 = R := ⟨_, rfl⟩
      obtain ⟨K, hK⟩ : ∃ K, (Utf8.decode s pos).2 = K := ⟨_, rfl⟩
      rw [hR, hK] at hnx hL2
      rw [hK] at hwd hwl
      have HL3 := Lib.hid hL2
      have hit2 := Lib.iterAt_heap wr w.heap.size s pos (pos + K) hit
      have hbw2 := Lib.below_iterAt HB.out (k := w.heap.size) (Nat.le_refl _) s (pos + K)
      have hown2 := own_iter HO.out hit (pos + K)
      have hip : wr.iterPos w.heap.size = pos := by simp [World.iterPos, hit]
      clear hL2 hR hK HL HO HB hit
      obtain ⟨W, hWd⟩ : ∃ W, wr.iterAt w.heap.size s (pos + K) = W := ⟨_, rfl⟩
      rw [hWd] at hnx hit2 hbw2 hown2
      have HB2 := Lib.hid hbw2
      have HO2 := Lib.hid hown2
      have hsz2 : w.heap.size + 1 ≤ W.heap.size := (Array.getElem?_eq_some_iff.1 hit2).1
      clear hbw2 hown2
      go_wp2_with (at_builtin; refine append_one (w0 := W) (w.heap.size + 1) rfl (.tmp 11) (.tmp 13) 76 21 (.int .i32 0) 1 4 rfl Try.underlying76 HI.out rfl (by decide) (by decide) _ _ _ [.int .i32 (R : Int)] rfl rfl rfl (by simp [Value.oneCell']) HO2.out (Below.refl _ _) hsz2 (by omega) ?_; intro v1 w2 hown3 hb3 hs2; have HO3 := Lib.hid hown3; have HB3 := Lib.hid hb3; clear hown3 hb3)
      go_roundw
      case rel => exact ⟨pos + K, b, acc ++ [(R : Int)], (HB3.out.block _ (by omega)).trans hit2, hwl, (by simp only [List.length_append, List.length_singleton]; omega), (by omega), Lib.hid (by rw [List.append_assoc]; exact HL3.out), Lib.hid (by simpa using HO3.out), Lib.hid (HB2.out.trans (HB3.out.mono (by omega)))⟩
      case measure =>
        have : w2.iterPos w.heap.size = pos + K := by rw [World.iterPos, (HB3.out.block _ (by omega)).trans hit2]
        rw [hip, this]; omega
    · have hnx : ∀ ty, (Instr.next (.pointer (some ⟨w.heap.size, 0, none⟩)) true ty).run Try.prog wr = _ := fun ty => Lib.run_next_end_at wr w.heap.size s pos ty hit hps
      have hL2 := HL.out
      rw [rns_end s b pos hps, List.append_nil] at hL2
      subst hL2
      go_wp2
      go_ret
      exact ⟨_, rfl, own_low HO.out (by omega), HB.out⟩
theorem runes_len' (s : ByteArray) : Hid ((runes s).length ≤ s.size) := Lib.hid (runes_len s)
set_option maxRecDepth 1000000 in
set_option maxHeartbeats 4000000 in
theorem weight_any (s : ByteArray) (hs : s.size ≤ 2000) (x : Int) (hx : x = weight s) (w : World) :
    Calls Try.prog 52 #[.string s] w fun e w' => e = .returned (.int .i64 x) ∧ Below w.heap.size w w' := by
  have hl := runes_len s
  have HX := Lib.hid hx
  clear hx
  go_enter Try.func52, Try.ntmps52
  go_wp2_with (go_at_call 59; refine (runes_any s hs _).mono ?_; rintro e w2 ⟨v, rfl, hown, hb2⟩; obtain ⟨A, c, rfl, hcs⟩ := own_cellsI .i32 hown; have KC := Lib.hid hcs; have HB := Lib.hid hb2; clear hown hcs hb2)
  have HX2 : Hid (x = wsum (runes s) (runes s).length) := Lib.hid (by rw [HX.out]; rfl)
  have HR := Lib.hid (runes_at s)
  clear HX
  generalize runes s = l at hl KC HX2 HR
  obtain ⟨L, hL⟩ : ∃ L, l.length = L := ⟨_, rfl⟩
  rw [hL] at KC hl HX2
  rw [hL]
  clear hL
  go_loopw [3, 9] (fun n i wr => ∃ j : Nat, j ≤ L ∧ i = .int .i64 j ∧ n = .int .i64 (wsum l j) ∧ Hid (Below w2.heap.size w2 wr)) (fun _ i _ => L - (intOf i).toNat)
  case atStart => exact ⟨0, by omega, rfl, rfl, Lib.hid (Below.refl _ _)⟩
  case round =>
    obtain ⟨j, hj, rfl, rfl, hb⟩ := hrel
    by_cases hlt : j < L
    · obtain ⟨ad, rfl, hc1, hk1, ha1⟩ := KC.out j hlt
      have hcell : wr.cell? (ad.add j) = some (.int .i32 (l.getD j 0)) := by
        rw [hb.out.cell (p := ad.add j) (by rw [ha1]; exact hk1), hc1]
      have hr := HR.out j
      have hsum := wsum_range l HR.out j (by omega)
      have hterm := wterm j (l.getD j 0) (by omega) hr
      have hstep : wsum l (j + 1) = wsum l j + ((j : Int) + 1) * l.getD j 0 := rfl
      clear hc1 hk1 ha1
      generalize l.getD j 0 = z at hcell hr hterm hstep
      obtain ⟨y, hy⟩ : ∃ y : Int, y = ((j : Int) + 1) * z := ⟨_, rfl⟩
      rw [← hy] at hterm hstep
      have HY := Lib.hid hy
      have HST := Lib.hid hstep
      clear hy hstep
      go_wp2
      go_roundw
      case rel => exact ⟨j + 1, by omega, by go_num, by rw [HST.out]; simp only [go_sem, wrap64, IntKind.wrap_i64]; rw [← HY.out]; congr 1; omega, hb⟩
      case measure => simp [intOf]; omega
    · have e : j = L := by omega
      subst e
      go_wp2
      go_ret
      exact ⟨ret_int HX2.out.symm, HB.out.trans (hb.out.mono HB.out.size)⟩
/-- May a text be a key? -/
def okKey (s : ByteArray) : Bool := decide (1 ≤ s.size ∧ s.size ≤ 8)
theorem right_is (s : ByteArray) (x : Bool) (hx : x = okKey s) (w : World) :
    Calls Try.prog 51 #[.string s] w fun e w' => e = .returned (.bool x) ∧ Below w.heap.size w w' := by
  refine (keys_Right.calls s x w ?_).mono fun e w' h => ⟨h.1, h.2.below⟩
  unfold keys_Right.f
  rw [hx]; unfold okKey
  split
  · rw [Option.some.injEq, decide_eq_decide]; omega
  · simp; omega
def shardN (s : ByteArray) (m : Int) : Int := if okKey s = true ∧ 1 ≤ m ∧ m ≤ 4 then weight s % m else 0
def shardE (s : ByteArray) (m : Int) : Int := if okKey s = true ∧ 1 ≤ m ∧ m ≤ 4 then 0 else 1
theorem ret_two {a b c d : Int} {k k' : IntKind} (h : a = b) (h' : c = d) : Ending.returned (.tuple #[.int k a, .int k' c]) = .returned (.tuple #[.int k b, .int k' d]) := by rw [h, h']
theorem ok_size {s : ByteArray} (h : okKey s = true) : s.size ≤ 2000 := by
  have := of_decide_eq_true h
  omega
set_option maxRecDepth 1000000 in
set_option maxHeartbeats 4000000 in
theorem shard_is (s : ByteArray) (m : Int) (n e : Int) (hn : n = shardN s m) (he : e = shardE s m) (w : World) :
    Calls Try.prog 35 #[.string s, .int .i64 m] w fun x w' => x = .returned (.tuple #[.int .i64 n, .int .i64 e]) ∧ Below w.heap.size w w' := by
  cases hk : okKey s with
  | false =>
    have hn0 : n = 0 := by rw [hn]; simp [shardN, hk]
    have he0 : e = 1 := by rw [he]; simp [shardE, hk]
    subst hn0 he0
    clear hn he
    go_enter Try.func35, Try.ntmps35
    go_wp2_with (go_at_call 51; refine (right_is s false hk.symm _).mono ?_; rintro e w1 ⟨rfl, hb⟩)
    go_ret2
    exact ⟨rfl, hb⟩
  | true =>
    have hs := ok_size hk
    by_cases h1 : m < 1
    · have hn0 : n = 0 := by rw [hn]; unfold shardN; rw [if_neg (by omega)]
      have he0 : e = 1 := by rw [he]; unfold shardE; rw [if_neg (by omega)]
      have d1 : decide (m < 1) = true := decide_eq_true h1
      subst hn0 he0
      clear hn he
      go_enter Try.func35, Try.ntmps35
      go_wp2_with (go_at_call 51; refine (right_is s true hk.symm _).mono ?_; rintro e w1 ⟨rfl, hb⟩)
      go_ret2
      exact ⟨rfl, hb⟩
    · have d1 : decide (m < 1) = false := decide_eq_false h1
      by_cases h4 : 4 < m
      · have hn0 : n = 0 := by rw [hn]; unfold shardN; rw [if_neg (by omega)]
        have he0 : e = 1 := by rw [he]; unfold shardE; rw [if_neg (by omega)]
        have d4 : decide (4 < m) = true := decide_eq_true h4
        subst hn0 he0
        clear hn he
        go_enter Try.func35, Try.ntmps35
        go_wp2_with (go_at_call 51; refine (right_is s true hk.symm _).mono ?_; rintro e w1 ⟨rfl, hb⟩)
        go_ret2
        exact ⟨rfl, hb⟩
      · have d4 : decide (4 < m) = false := decide_eq_false h4
        have hw := weight_range s hs
        obtain ⟨W, hW⟩ : ∃ W : Int, W = weight s := ⟨_, rfl⟩
        have hn0 : n = W % m := by rw [hn, hW]; unfold shardN; rw [if_pos ⟨hk, by omega, by omega⟩]
        have he0 : e = 0 := by rw [he]; unfold shardE; rw [if_pos ⟨hk, by omega, by omega⟩]
        rw [← hW] at hw
        have HW := Lib.hid hW
        have HN := Lib.hid hn0
        have hm0 : ¬ m = 0 := by omega
        subst he0
        clear hn he hn0 hW
        go_enter Try.func35, Try.ntmps35
        go_wp2_with (first | (go_at_call 51; refine (right_is s true hk.symm _).mono ?_; rintro e w1 ⟨rfl, hb⟩) | (go_at_call 52; refine (weight_any s hs W HW.out _).mono ?_; rintro e w2 ⟨rfl, hb2⟩))
        go_ret2
        exact ⟨ret_two HN.out.symm rfl, hb.trans (hb2.mono hb.size)⟩
theorem ab_weight : weight ⟨#[97, 98]⟩ = 293 := by decide
end Go.Proofs.Ytnjeeedndnfglaa.Keys
end
section
namespace Go.Proofs.Ytnjeeedndnfglaa.X
open Go.RowKit Go.Proofs.Ytnjeeedndnfglaa.Keys Go.Proofs.YtnjeeedndnfglaaW.PrintWords Go.Proofs.YtnjeeedndnfglaaW.PrintLast Go.Proofs.YtnjeeedndnfglaaW.PrintMore
set_option linter.unusedVariables false
def keys_Runes.f (a0 : ByteArray) : Option (List Int) := if a0.size ≤ 2000 then some (runes a0) else none
theorem keys_Runes.calls (a0 : ByteArray) (r : List Int) (w : World) (h : keys_Runes.f a0 = some r) :
    Calls Try.prog 59 #[.string a0] w fun e w' => ∃ v0_ : Value, e = .returned (v0_) ∧ Kd.R (Kd.int .i32) 21 w' w.heap.size (fun _ => True) v0_ r ∧ Below w.heap.size w w' := by
  unfold keys_Runes.f at h
  by_cases hs : a0.size ≤ 2000
  · rw [if_pos hs] at h
    obtain rfl := Option.some.inj h
    refine (runes_any a0 hs w).mono ?_
    rintro e w' ⟨v, rfl, ho, hB⟩
    exact ⟨v, rfl, Kd.R_of_own ho (fun _ _ => trivial), hB⟩
  · rw [if_neg hs] at h; cases h
def keys_Weight.f (a0 : ByteArray) : Option Int := if a0.size ≤ 2000 then some (weight a0) else none
theorem keys_Weight.calls (a0 : ByteArray) (r : Int) (w : World) (h : keys_Weight.f a0 = some r) :
    Calls Try.prog 52 #[.string a0] w fun e w' => e = .returned (.int .i64 r) ∧ Below w.heap.size w w' := by
  unfold keys_Weight.f at h
  by_cases hs : a0.size ≤ 2000
  · rw [if_pos hs] at h
    exact weight_any a0 hs r (Option.some.inj h).symm w
  · rw [if_neg hs] at h; cases h
def keys_Shard.f (a0 : ByteArray) (a1 : Int) : Option (Int × Int) := some (shardN a0 a1, shardE a0 a1)
theorem keys_Shard.calls (a0 : ByteArray) (a1 : Int) (r1 : Int) (r2 : Int) (w : World) (h : keys_Shard.f a0 a1 = some (r1, r2)) :
    Calls Try.prog 35 #[.string a0, .int .i64 a1] w fun e w' => e = .returned (.tuple #[.int .i64 r1, .int .i64 r2]) ∧ Below w.heap.size w w' := by
  injection h with h; injection h with h1 h2
  exact shard_is a0 a1 r1 r2 h1.symm h2.symm w
end Go.Proofs.Ytnjeeedndnfglaa.X
end
section
namespace Go.Proofs.Ytnjeeedndnfglaa.Strs
open Go.RowKit Go.Proofs.Ytnjeeedndnfglaa.Keys Go.Proofs.YtnjeeedndnfglaaW.PrintWords Go.Proofs.YtnjeeedndnfglaaW.PrintLast Go.Proofs.YtnjeeedndnfglaaW.PrintMore Go.Proofs.Ytnjeeedndnfglaa.X
set_option linter.unusedSimpArgs false
set_option linter.unusedVariables false
/-- A loop that goes on while what it looks at is fine. -/
theorem Ev.scan {F : Nat → Int → Option Bool} (n : Nat) (ok : Nat → Bool) (fin : Bool)
    (h1 : ∀ i, i < n → ok i = true → ∀ r, Ev (fun k => F k ((i + 1 : Nat) : Int)) r → Ev (fun k => F k (i : Int)) r)
    (h2 : ∀ i, i < n → ok i = false → Ev (fun k => F k (i : Int)) false) (h3 : Ev (fun k => F k (n : Int)) fin) : Ev (fun k => F k 0) ((List.range n).all ok && fin) := by
  have h : ∀ d i, i + d = n → Ev (fun k => F k (i : Int)) ((List.range' i d).all ok && fin) := by
    intro d
    induction d with
    | zero =>
      intro i hi
      obtain rfl : i = n := by omega
      simpa using h3
    | succ d ih =>
      intro i hi
      rw [List.range'_succ, List.all_cons]
      cases hk : ok i with
      | true => simpa using h1 i (by omega) hk _ (ih (i + 1) (by omega))
      | false => simpa using h2 i (by omega) hk
  have := h n 0 (by omega)
  rwa [← List.range_eq_range'] at this
def okAt (l : List ByteArray) (i : Nat) : Bool := okKey (l.getD i ByteArray.empty) && (decide (i = 0) || decide (blt (l.getD (i - 1) ByteArray.empty) (l.getD i ByteArray.empty)))
def rightsB (l : List ByteArray) : Bool := (List.range l.length).all (okAt l) && decide (l.length ≤ 8)
theorem getD_at (l : List ByteArray) (i : Nat) (h : i < l.length) : l.getD i ByteArray.empty = l[i] := by simp [List.getD_eq_getElem?_getD, h]
theorem rightsB_iff (l : List ByteArray) : rightsB l = true ↔ (∀ x ∈ l, okKey x = true) ∧ l.Pairwise blt ∧ l.length ≤ 8 := by
  unfold rightsB
  rw [Bool.and_eq_true, List.all_eq_true, decide_eq_true_eq]
  constructor
  · rintro ⟨h, h8⟩
    have h' : ∀ i, i < l.length → okAt l i = true := fun i hi => h i (by simpa using hi)
    refine ⟨fun x hx => ?_, ?_, h8⟩
    · obtain ⟨i, hi, rfl⟩ := List.getElem_of_mem hx
      have := h' i hi
      unfold okAt at this
      rw [Bool.and_eq_true, getD_at l i hi] at this
      exact this.1
    · have hadj : ∀ i, (hi : i + 1 < l.length) → blt l[i] l[i + 1] := fun i hi => by
        have := h' (i + 1) hi
        unfold okAt at this
        rw [Bool.and_eq_true, getD_at l (i + 1) hi, show i + 1 - 1 = i by omega, getD_at l i (by omega), Bool.or_eq_true, decide_eq_true_eq, decide_eq_true_eq] at this
        rcases this.2 with h0 | h0
        · omega
        · exact h0
      rw [List.pairwise_iff_getElem]
      intro i j hi hj hij
      obtain ⟨d, rfl⟩ : ∃ d, j = i + 1 + d := ⟨j - i - 1, by omega⟩
      clear hij
      induction d with
      | zero => exact hadj i hj
      | succ d ih => exact blt_trans _ _ _ (ih (by omega)) (hadj (i + 1 + d) hj)
  · rintro ⟨hok, hp, h8⟩
    refine ⟨fun i hi => ?_, h8⟩
    have hil : i < l.length := by simpa using hi
    unfold okAt
    rw [Bool.and_eq_true, getD_at l i hil, Bool.or_eq_true, decide_eq_true_eq, decide_eq_true_eq]
    refine ⟨hok _ (List.getElem_mem hil), ?_⟩
    by_cases h0 : i = 0
    · exact .inl h0
    · right
      rw [getD_at l (i - 1) (by omega)]
      exact (List.pairwise_iff_getElem.1 hp) (i - 1) i (by omega) hil (by omega)
theorem right_f (x : ByteArray) : keys_Right.f x = some (okKey x) := by
  unfold keys_Right.f okKey
  by_cases h : (x.size : Int) ≥ 1
  · rw [if_pos h]; congr 1; rw [decide_eq_decide]; omega
  · rw [if_neg h]; congr 1; symm; rw [decide_eq_false_iff_not]; omega
theorem rd_getD (l : List ByteArray) (i : Nat) : rdOf ByteArray.empty l (i : Int) = l.getD i ByteArray.empty := by unfold rdOf; rw [Int.toNat_natCast]
theorem wm1 (i : Nat) (h : i ≤ 100000000) (h0 : i ≠ 0) : wrap64 ((i : Int) - 1) = ((i - 1 : Nat) : Int) := by unfold wrap64; omega
theorem rights_is (l : List ByteArray) (hl : l.length ≤ 2000) : Ev (fun k => keys_Rights.f k l) (rightsB l) := by
  refine Ev.scan (F := fun k i => keys_Rights.l0 k l l (l.length : Int) i) l.length (okAt l) _ (fun i hi hok r hr => ?_) (fun i hi hok => ?_) ?_
  · refine Ev.step (fun k => ?_) hr
    simp only [keys_Rights.l0]
    unfold okAt at hok
    rw [Bool.and_eq_true] at hok
    rw [if_pos (by omega), if_pos (by omega), if_pos (by omega), right_f, Option.bind_some, rd_getD, hok.1, if_pos rfl]
    by_cases h0 : i = 0
    · rw [if_neg (by omega), w1 i (by omega)]
    · have hb : blt (l.getD (i - 1) ByteArray.empty) (l.getD i ByteArray.empty) := by simpa [h0] using hok.2
      rw [if_pos (by omega), wm1 i (by omega) h0, if_pos (by omega), if_pos (by omega), rd_getD, if_pos ((less_blt _ _).2 hb), w1 i (by omega)]
  · refine Ev.step (f := fun _ => some false) (fun k => ?_) (Ev.const rfl)
    simp only [keys_Rights.l0]
    unfold okAt at hok
    rw [if_pos (by omega), if_pos (by omega), if_pos (by omega), right_f, Option.bind_some, rd_getD]
    cases ho : okKey (l.getD i ByteArray.empty) with
    | false => rw [if_neg (by simp)]
    | true =>
      rw [ho, Bool.true_and, Bool.or_eq_false_iff, decide_eq_false_iff_not, decide_eq_false_iff_not] at hok
      rw [if_pos rfl, if_pos (by omega), wm1 i (by omega) hok.1, if_pos (by omega), if_pos (by omega), rd_getD, if_neg (fun e => hok.2 ((less_blt _ _).1 e))]
  · refine Ev.step (f := fun _ => some (decide ((l.length : Int) ≤ 8))) (fun k => ?_) (Ev.const ?_)
    · simp only [keys_Rights.l0]
      rw [if_neg (by omega)]
    · congr 1; rw [decide_eq_decide]; omega
end Go.Proofs.Ytnjeeedndnfglaa.Strs
end
section
namespace Go.Proofs.Ytnjeeedndnfglaa.Strs
open Go.RowKit Go.Proofs.Ytnjeeedndnfglaa.Keys Go.Proofs.YtnjeeedndnfglaaW.PrintWords Go.Proofs.YtnjeeedndnfglaaW.PrintLast Go.Proofs.YtnjeeedndnfglaaW.PrintMore Go.Proofs.Ytnjeeedndnfglaa.X
set_option linter.unusedSimpArgs false
set_option linter.unusedVariables false
theorem Ev.bindT {β : Type} {g : Nat → Option Bool} {f1 f2 : Nat → Option β} {r : β} (h : Ev g true) (k : Ev f1 r) : Ev (fun n => (g n).bind fun t => if t = true then f1 n else f2 n) r := Ev.bind h (Ev.congr (fun _ => if_pos rfl) k)
theorem Ev.bindF {β : Type} {g : Nat → Option Bool} {f1 f2 : Nat → Option β} {r : β} (h : Ev g false) (k : Ev f2 r) : Ev (fun n => (g n).bind fun t => if t = true then f1 n else f2 n) r := Ev.bind h (Ev.congr (fun _ => if_neg (by simp)) k)
abbrev Rd := S38
abbrev Wr := S40
abbrev Cm := S29
def rk (r : List Rd) : List ByteArray := r.map (·.f0)
def wk (w : List Wr) : List ByteArray := w.map (·.f0)
theorem rdR (r : List Rd) (i : Nat) (h : i < r.length) : rd_T38 r (i : Int) = r[i] := by unfold rd_T38; rw [Int.toNat_natCast]; simp [List.getD_eq_getElem?_getD, h]
theorem rdW (w : List Wr) (i : Nat) (h : i < w.length) : rd_T40 w (i : Int) = w[i] := by unfold rd_T40; rw [Int.toNat_natCast]; simp [List.getD_eq_getElem?_getD, h]
theorem rdC (l : List Cm) (i : Nat) (h : i < l.length) : rd_T29 l (i : Int) = l[i] := by unfold rd_T29; rw [Int.toNat_natCast]; simp [List.getD_eq_getElem?_getD, h]
/-- A command that is gone through. -/
def small (r : List Rd) (w : List Wr) : Prop := r.length ≤ 20 ∧ w.length ≤ 20 ∧ (∀ x ∈ r, x.f0.size ≤ 100) ∧ ∀ x ∈ w, x.f0.size ≤ 100 ∧ x.f1.size ≤ 100
theorem small_nil : small [] [] := ⟨by simp, by simp, by simp, by simp⟩
theorem rk_few {r : List Rd} {w : List Wr} (h : small r w) : few (rk r) := ⟨by unfold rk; rw [List.length_map]; have := h.1; omega, fun x hx => by
  unfold rk at hx
  obtain ⟨y, hy, rfl⟩ := List.mem_map.1 hx
  exact h.2.2.1 y hy⟩
theorem wk_few {r : List Rd} {w : List Wr} (h : small r w) : few (wk w) := ⟨by unfold wk; rw [List.length_map]; have := h.2.1; omega, fun x hx => by
  unfold wk at hx
  obtain ⟨y, hy, rfl⟩ := List.mem_map.1 hx
  exact (h.2.2.2 y hy).1⟩
theorem read_l0 (r : List Rd) (hl : r.length ≤ 2000) : ∀ d i, i + d = r.length → Ev (fun k => command_read.l0 k (rk (r.take i)) r (r.length : Int) (i : Int)) (rk r)
  | 0, i, h => by
    refine Ev.step (f := fun _ => some (rk (r.take i))) (fun k => ?_) (Ev.const ?_)
    · simp only [command_read.l0]; rw [if_neg (by omega)]
    · rw [show i = r.length by omega, List.take_length]
  | d + 1, i, h => by
    have hi : i < r.length := by omega
    refine Ev.step (fun k => ?_) (read_l0 r hl d (i + 1) (by omega))
    simp only [command_read.l0]
    rw [if_pos (by omega), if_pos (by omega), if_pos (by omega), if_pos (by unfold rk; rw [List.length_map, List.length_take]; omega), rdR r i hi, w1 i (by omega), List.take_succ_eq_append_getElem hi]
    unfold rk
    rw [List.map_append]; rfl
theorem written_l0 (r : List Wr) (hl : r.length ≤ 2000) : ∀ d i, i + d = r.length → Ev (fun k => command_written.l0 k (wk (r.take i)) r (r.length : Int) (i : Int)) (wk r)
  | 0, i, h => by
    refine Ev.step (f := fun _ => some (wk (r.take i))) (fun k => ?_) (Ev.const ?_)
    · simp only [command_written.l0]; rw [if_neg (by omega)]
    · rw [show i = r.length by omega, List.take_length]
  | d + 1, i, h => by
    have hi : i < r.length := by omega
    refine Ev.step (fun k => ?_) (written_l0 r hl d (i + 1) (by omega))
    simp only [command_written.l0]
    rw [if_pos (by omega), if_pos (by omega), if_pos (by omega), if_pos (by unfold wk; rw [List.length_map, List.length_take]; omega), rdW r i hi, w1 i (by omega), List.take_succ_eq_append_getElem hi]
    unfold wk
    rw [List.map_append]; rfl
section
variable (a b c d e s : Int) (r : List Rd) (w : List Wr) (m : Bool) (a' b' c' d' e' s' : Int) (r' : List Rd) (w' : List Wr) (m' : Bool)
theorem read_is (hl : r.length ≤ 2000) : Ev (fun k => command_read.f k a b c d e s r w m) (rk r) := read_l0 r hl r.length 0 (by omega)
theorem written_is (hl : w.length ≤ 2000) : Ev (fun k => command_written.f k a b c d e s r w m) (wk w) := written_l0 w hl w.length 0 (by omega)
/-- A command's keys. -/
def keysB : List ByteArray := joinB (rk r) (wk w)
theorem keys_is (h : small r w) : Ev (fun k => command_Keys.f k a b c d e s r w m) (keysB r w) := by
  refine Ev.bind (read_is a b c d e s r w m (by have := h.1; omega)) (Ev.bind (written_is a b c d e s r w m (by have := h.2.1; omega)) (Ev.bind (Ev.const (join_f (few_big (rk_few h)) (few_big (wk_few h)))) (Ev.const rfl)))
/-- Do two commands interfere? -/
def interB (a b c : Int) (r : List Rd) (w : List Wr) (a' b' c' : Int) (r' : List Rd) (w' : List Wr) : Bool := !(decide (a = 0) || decide (a' = 0)) && ((b == b' && (c == c')) || meetB (keysB r w) (keysB r' w'))
theorem inter_j0 (h : small r w) (h' : small r' w') (x : Bool) : Ev (fun k => command_Interfere.j0 k x a b c d e s r w m a' b' c' d' e' s' r' w' m') (!x && ((b == b' && (c == c')) || meetB (keysB r w) (keysB r' w'))) := by
  cases x with
  | true =>
    refine Ev.step (f := fun _ => some false) (fun k => ?_) (Ev.const rfl)
    simp only [command_Interfere.j0]; rw [if_pos trivial]
  | false =>
    cases hx : (b == b' && (c == c')) with
    | true =>
      refine Ev.step (f := fun _ => some true) (fun k => ?_) (Ev.const rfl)
      simp only [command_Interfere.j0]; rw [if_neg (by simp), if_pos hx]
    | false =>
      have hM : Ev (fun k => (command_Keys.f k a b c d e s r w m).bind fun t130 => (command_Keys.f k a' b' c' d' e' s' r' w' m').bind fun t133 => (keys_Meet.f t130 t133).bind fun t136 => some t136) (meetB (keysB r w) (keysB r' w')) := Ev.bind (keys_is a b c d e s r w m h) (Ev.bind (keys_is a' b' c' d' e' s' r' w' m' h') (Ev.const rfl))
      rw [Bool.not_false, Bool.true_and, Bool.false_or]
      refine Ev.step (fun k => ?_) hM
      simp only [command_Interfere.j0]; rw [if_neg (by simp), if_neg (by simp [hx])]
theorem inter_is (h : small r w) (h' : small r' w') : Ev (fun k => command_Interfere.f k a b c d e s r w m a' b' c' d' e' s' r' w' m') (interB a b c r w a' b' c' r' w') := by
  unfold interB command_Interfere.f
  by_cases ha : a = 0
  · simp only [ha, ↓reduceIte, decide_true, Bool.true_or]
    exact inter_j0 0 b c d e s r w m a' b' c' d' e' s' r' w' m' h h' true
  · simp only [ha, ↓reduceIte, decide_false, Bool.false_or]
    exact inter_j0 a b c d e s r w m a' b' c' d' e' s' r' w' m' h h' (a' == 0)
end
theorem meetB_iff (l m : List ByteArray) : meetB l m = true ↔ ∃ x, x ∈ l ∧ x ∈ m := by
  unfold meetB
  rw [List.any_eq_true]
  simp only [inB_iff]
theorem meetB_symm (l m : List ByteArray) : meetB l m = meetB m l := by
  rw [Bool.eq_iff_iff, meetB_iff, meetB_iff]
  exact ⟨fun ⟨x, h1, h2⟩ => ⟨x, h2, h1⟩, fun ⟨x, h1, h2⟩ => ⟨x, h2, h1⟩⟩
theorem interB_symm (a b c : Int) (r : List Rd) (w : List Wr) (a' b' c' : Int) (r' : List Rd) (w' : List Wr) : interB a b c r w a' b' c' r' w' = interB a' b' c' r' w' a b c r w := by
  unfold interB
  rw [meetB_symm, Bool.or_comm (decide (a = 0)), show (b == b') = (b' == b) from Bool.beq_comm, show (c == c') = (c' == c) from Bool.beq_comm]
theorem eqR_l0 (r : List Rd) (hl : r.length ≤ 2000) : ∀ d i, i + d = r.length → Ev (fun k => api_Read.l0 k r r (r.length : Int) (i : Int)) true
  | 0, i, h => by
    refine Ev.step (f := fun _ => some true) (fun k => ?_) (Ev.const rfl)
    simp only [api_Read.l0]; rw [if_neg (by omega)]
  | d + 1, i, h => by
    refine Ev.step (fun k => ?_) (eqR_l0 r hl d (i + 1) (by omega))
    simp only [api_Read.l0]
    rw [if_pos (by omega), if_pos (by omega), if_pos (by omega), if_pos (by omega), if_neg (by simp), w1 i (by omega)]
theorem eqW_l0 (r : List Wr) (hl : r.length ≤ 2000) : ∀ d i, i + d = r.length → Ev (fun k => api_Write.l0 k r r (r.length : Int) (i : Int)) true
  | 0, i, h => by
    refine Ev.step (f := fun _ => some true) (fun k => ?_) (Ev.const rfl)
    simp only [api_Write.l0]; rw [if_neg (by omega)]
  | d + 1, i, h => by
    refine Ev.step (fun k => ?_) (eqW_l0 r hl d (i + 1) (by omega))
    simp only [api_Write.l0]
    rw [if_pos (by omega), if_pos (by omega), if_pos (by omega), if_pos (by omega), if_neg (by simp), w1 i (by omega)]
theorem eqR_self (r : List Rd) (hl : r.length ≤ 2000) : Ev (fun k => api_Read.f k r r) true := Ev.congr (f := fun k => api_Read.l0 k r r (r.length : Int) ((0 : Nat) : Int)) (fun k => by unfold api_Read.f; rw [if_pos rfl]; rfl) (eqR_l0 r hl r.length 0 (by omega))
theorem eqW_self (r : List Wr) (hl : r.length ≤ 2000) : Ev (fun k => api_Write.f k r r) true := Ev.congr (f := fun k => api_Write.l0 k r r (r.length : Int) ((0 : Nat) : Int)) (fun k => by unfold api_Write.f; rw [if_pos rfl]; rfl) (eqW_l0 r hl r.length 0 (by omega))
theorem eqR_nil (r : List Rd) (hl : r.length ≤ 2000) : Ev (fun k => api_Read.f k r []) (decide (r = [])) := by
  cases r with
  | nil => exact eqR_self [] (by simp)
  | cons x l => exact Ev.congr (f := fun _ => some false) (fun k => by unfold api_Read.f; rw [if_neg (by simp; omega)]) (Ev.const (by simp))
theorem eqW_nil (r : List Wr) (hl : r.length ≤ 2000) : Ev (fun k => api_Write.f k r []) (decide (r = [])) := by
  cases r with
  | nil => exact eqW_self [] (by simp)
  | cons x l => exact Ev.congr (f := fun _ => some false) (fun k => by unfold api_Write.f; rw [if_neg (by simp; omega)]) (Ev.const (by simp))
section
variable (a b c d e s : Int) (r : List Rd) (w : List Wr) (m : Bool)
theorem same_self (h : small r w) : Ev (fun k => command_Same.f k a b c d e s r w m a b c d e s r w m) true := by
  unfold command_Same.f
  simp only [BEq.rfl, Bool.and_self, ↓reduceIte]
  exact Ev.bindT (eqR_self r (by have := h.1; omega)) (Ev.bind (eqW_self w (by have := h.2.1; omega)) (Ev.const rfl))
/-- Is a command the zero one? -/
def zeroB : Bool := (b == 0 && (c == 0)) && (d == 0 && (e == 0)) && decide (s = 0) && !m && decide (r = []) && decide (w = [])
theorem same_zero (h : small r w) : Ev (fun k => command_Same.f k 0 b c d e s r w m 0 0 0 0 0 0 [] [] false) (zeroB b c d e s r w m) := by
  unfold zeroB command_Same.f
  cases h1 : (b == 0 && (c == 0)) with
  | false => simp only [Bool.false_eq_true, ↓reduceIte, Bool.false_and]; exact Ev.const rfl
  | true =>
    cases h2 : (d == 0 && (e == 0)) with
    | false => simp only [Bool.false_eq_true, ↓reduceIte, Bool.false_and, Bool.and_false]; exact Ev.const rfl
    | true =>
      by_cases h3 : s = 0
      · cases m with
        | true => simp only [h3, ↓reduceIte, Bool.true_and, decide_true, Bool.not_true, Bool.false_and]; exact Ev.const (by simp)
        | false =>
          simp only [h3, ↓reduceIte, Bool.true_and, decide_true, Bool.not_false, BEq.rfl]
          cases h4 : decide (r = []) with
          | false => exact Ev.bindF (h4 ▸ eqR_nil r (by have := h.1; omega)) (Ev.const rfl)
          | true => exact Ev.bindT (h4 ▸ eqR_nil r (by have := h.1; omega)) (Ev.bind (eqW_nil w (by have := h.2.1; omega)) (Ev.const (by simp)))
      · simp only [h3, ↓reduceIte, decide_false, Bool.and_false, Bool.false_and]; exact Ev.const rfl
/-- A transaction's name that may be. -/
def txnB (b c : Int) : Bool := decide (0 ≤ b ∧ b ≤ 3) && decide (1 ≤ c ∧ c ≤ 1099511627776)
theorem stamp_RightTxn_val (b c : Int) : stamp_RightTxn.f b c = some (txnB b c) := by
  unfold stamp_RightTxn.f stamp_within_int.f txnB
  by_cases h1 : b ≥ 0 <;> by_cases h2 : b ≤ 3 <;> by_cases h3 : c ≥ 1 <;> by_cases h4 : c ≤ 1099511627776 <;> simp [h1, h2, h3, h4] <;> omega
/-- Is a read older than the command? -/
def oldB (d e : Int) (x : Rd) : Bool := stampB x.f1.f0 x.f1.f1 && decide (ordI x.f1.f0 x.f1.f1 d e < 0)
def okR (d e : Int) (r : List Rd) (i : Nat) : Bool := oldB d e (rd_T38 r (i : Int))
def okW (w : List Wr) (i : Nat) : Bool := decide ((rd_T40 w (i : Int)).f1.size ≤ 8)
def tailB : Bool := (List.range r.length).all (okR d e r) && ((List.range w.length).all (okW w) && (rightsB (rk r) && rightsB (wk w)))
def preB : Bool := txnB b c && stampB d e && decide (1 ≤ d) && decide (e = b) && decide (1 ≤ s) && decide (s ≤ 15) && decide (r.length + w.length ≠ 0) && !(m && (a == 1))
/-- May a command be? -/
def rightB : Bool := if a = 0 then zeroB b c d e s r w m else if a = 1 ∨ a = 2 then preB a b c d e s r w m && tailB d e r w else false
theorem right_l1 (h : small r w) : Ev (fun k => command_Right.l1 k w (w.length : Int) 0 a b c d e s r w m) ((List.range w.length).all (okW w) && (rightsB (rk r) && rightsB (wk w))) := by
  have hw := h.2.1
  have hr := h.1
  refine Ev.scan (F := fun k i => command_Right.l1 k w (w.length : Int) i a b c d e s r w m) w.length (okW w) _ (fun i hi hok q hq => ?_) (fun i hi hok => ?_) ?_
  · unfold okW at hok
    rw [decide_eq_true_eq] at hok
    refine Ev.step (fun k => ?_) hq
    simp only [command_Right.l1]
    rw [if_pos (by omega), if_pos (by omega), if_pos (by omega), if_neg (by omega), w1 i (by omega)]
  · unfold okW at hok
    rw [decide_eq_false_iff_not] at hok
    refine Ev.step (f := fun _ => some false) (fun k => ?_) (Ev.const rfl)
    simp only [command_Right.l1]
    rw [if_pos (by omega), if_pos (by omega), if_pos (by omega), if_pos (by omega)]
  · refine Ev.step (f := fun k => (command_read.f k a b c d e s r w m).bind fun t166 => (keys_Rights.f k t166).bind fun t169 => if t169 = true then (command_written.f k a b c d e s r w m).bind fun t170 => (keys_Rights.f k t170).bind fun t173 => some t173 else some false) (fun k => ?_) (Ev.bind (read_is a b c d e s r w m (by omega)) ?_)
    · simp only [command_Right.l1]; rw [if_neg (by omega)]
    · have hq := rights_is (rk r) (by have := (rk_few h).1; omega)
      cases hR : rightsB (rk r) with
      | false => exact Ev.bindF (hR ▸ hq) (Ev.const rfl)
      | true =>
        refine Ev.bindT (hR ▸ hq) (Ev.bind (written_is a b c d e s r w m (by omega)) (Ev.bind (rights_is (wk w) (by have := (wk_few h).1; omega)) (Ev.const ?_)))
        rw [Bool.true_and]
theorem right_l0 (h : small r w) : Ev (fun k => command_Right.l0 k r (r.length : Int) 0 a b c d e s r w m) (tailB d e r w) := by
  have hr := h.1
  refine Ev.scan (F := fun k i => command_Right.l0 k r (r.length : Int) i a b c d e s r w m) r.length (okR d e r) _ (fun i hi hok q hq => ?_) (fun i hi hok => ?_) ?_
  · refine Ev.step (fun k => ?_) hq
    simp only [command_Right.l0]
    rw [if_pos (by omega), if_pos (by omega), if_pos (by omega)]
    unfold okR oldB at hok
    simp only [command_Right_1.f, Option.bind_some]
    rw [hok, if_pos rfl, w1 i (by omega)]
  · refine Ev.step (f := fun _ => some false) (fun k => ?_) (Ev.const rfl)
    simp only [command_Right.l0]
    rw [if_pos (by omega), if_pos (by omega), if_pos (by omega)]
    unfold okR oldB at hok
    simp only [command_Right_1.f, Option.bind_some]
    rw [hok, if_neg (by simp)]
  · refine Ev.step (fun k => ?_) (right_l1 a b c d e s r w m h)
    simp only [command_Right.l0]; rw [if_neg (by omega)]
theorem right_j1 (h : small r w) (x : Bool) : Ev (fun k => command_Right.j1 k x a b c d e s r w m) (!x && tailB d e r w) := by
  cases x with
  | true =>
    refine Ev.step (f := fun _ => some false) (fun k => ?_) (Ev.const (by simp))
    simp only [command_Right.j1]; rw [if_pos trivial]
  | false =>
    refine Ev.step (fun k => ?_) (by simpa using right_l0 a b c d e s r w m h)
    simp only [command_Right.j1]; rw [if_neg (by simp)]
theorem right_j0 (h : small r w) : Ev (fun k => command_Right.j0 k a b c d e s r w m) (preB a b c d e s r w m && tailB d e r w) := by
  have hr := h.1
  have hw := h.2.1
  refine Ev.step (f := fun k => command_Right.j1 k (!preB a b c d e s r w m) a b c d e s r w m) (fun k => ?_) (by simpa using right_j1 a b c d e s r w m h (!preB a b c d e s r w m))
  simp only [command_Right.j0, stamp_RightTxn_val, stamp_RightStamp_val, Option.bind_some]
  rw [show wrap64 ((r.length : Int) + (w.length : Int)) = ((r.length + w.length : Nat) : Int) by unfold wrap64; omega]
  unfold preB
  cases h1 : txnB b c with
  | false => rw [if_neg (by simp)]; simp
  | true =>
    rw [if_pos rfl]
    cases h2 : stampB d e with
    | false => rw [if_neg (by simp)]; simp
    | true =>
      rw [if_pos rfl]
      by_cases h3 : d < 1
      · rw [if_pos h3]; simp [show ¬ 1 ≤ d by omega]
      · rw [if_neg h3]
        by_cases h4 : e = b
        · rw [if_pos h4]
          by_cases h5 : s < 1
          · rw [if_pos h5]; simp [show ¬ 1 ≤ s by omega]
          · rw [if_neg h5]
            by_cases h6 : s > 15
            · rw [if_pos h6]; simp [show ¬ s ≤ 15 by omega]
            · rw [if_neg h6]
              by_cases h7 : r.length + w.length = 0
              · rw [if_pos (by omega)]; simp [h7]
              · rw [if_neg (by omega), decide_eq_true (show 1 ≤ d by omega), decide_eq_true h4, decide_eq_true (show 1 ≤ s by omega), decide_eq_true (show s ≤ 15 by omega), decide_eq_true (show r.length + w.length ≠ 0 from h7)]
                cases m with
                | true => rw [if_pos rfl]; simp
                | false => rw [if_neg (by simp)]; simp
        · rw [if_neg h4]; simp [h4]
theorem right_is (h : small r w) : Ev (fun k => command_Right.f k a b c d e s r w m) (rightB a b c d e s r w m) := by
  unfold rightB command_Right.f
  by_cases h0 : a = 0
  · simp only [h0, ↓reduceIte]
    exact Ev.bind (same_zero b c d e s r w m h) (Ev.const rfl)
  · by_cases h1 : a = 1
    · simp only [h0, h1, ↓reduceIte, true_or, Int.reduceEq]
      exact right_j0 1 b c d e s r w m h
    · by_cases h2 : a = 2
      · simp only [h0, h1, h2, ↓reduceIte, or_true, Int.reduceEq]
        exact right_j0 2 b c d e s r w m h
      · simp only [h0, h1, h2, ↓reduceIte, or_self]
        exact Ev.const rfl
theorem right_two (m' : Bool) (h : rightB 1 b c d e s r w m = true) : rightB 2 b c d e s r w m' = true := by
  unfold rightB at h ⊢
  rw [if_neg (by decide), if_pos (.inl rfl), Bool.and_eq_true] at h
  rw [if_neg (by decide), if_pos (.inr rfl), Bool.and_eq_true]
  refine ⟨?_, h.2⟩
  have h1 := h.1
  unfold preB at h1 ⊢
  rw [Bool.and_eq_true] at h1
  rw [h1.1]
  simp
end
theorem right_noop : rightB 0 0 0 0 0 0 [] [] false = true := by decide
end Go.Proofs.Ytnjeeedndnfglaa.Strs
end
section
namespace Go.Proofs.Ytnjeeedndnfglaa.Strs
open Go.RowKit Go.Proofs.Ytnjeeedndnfglaa.Keys Go.Proofs.YtnjeeedndnfglaaW.PrintWords Go.Proofs.YtnjeeedndnfglaaW.PrintLast Go.Proofs.YtnjeeedndnfglaaW.PrintMore Go.Proofs.Ytnjeeedndnfglaa.X
set_option linter.unusedSimpArgs false
set_option linter.unusedVariables false
section
variable (l : List Cm) (n j : Int) (a b c d e s : Int) (r : List Rd) (w : List Wr) (m : Bool) (P : Prop)
theorem few_j4 (hn : ∃ q, Ev (fun k => althinglaw05_Few.l0 k l n (wrap64 (j + 1))) q ∧ (q = true → P)) (i : Int) : ∃ q, Ev (fun k => althinglaw05_Few.j4 k i l n j false a b c d e s r w m) q ∧ (q = true → P ∧ r.length ≤ 20 ∧ w.length ≤ 20) := by
  by_cases h1 : (r.length : Int) > 20
  · refine ⟨false, Ev.step (f := fun _ => some false) (fun k => ?_) (Ev.const rfl), fun e => by cases e⟩
    simp only [althinglaw05_Few.j4]; rw [if_neg (by simp), if_pos h1]
  · by_cases h2 : (w.length : Int) > 20
    · refine ⟨false, Ev.step (f := fun _ => some false) (fun k => ?_) (Ev.const rfl), fun e => by cases e⟩
      simp only [althinglaw05_Few.j4]; rw [if_neg (by simp), if_neg h1, if_pos h2]
    · obtain ⟨q, hq, hp⟩ := hn
      refine ⟨q, Ev.step (fun k => ?_) hq, fun e => ⟨hp e, by omega, by omega⟩⟩
      simp only [althinglaw05_Few.j4]; rw [if_neg (by simp), if_neg h1, if_neg h2]
theorem few_l2 (hn : ∃ q, Ev (fun k => althinglaw05_Few.l0 k l n (wrap64 (j + 1))) q ∧ (q = true → P)) : ∀ dd i, i + dd = min w.length 21 → ∃ q, Ev (fun k => althinglaw05_Few.l2 k (i : Int) l n j a b c d e s r w m) q ∧ (q = true → P ∧ r.length ≤ 20 ∧ w.length ≤ 20 ∧ ∀ x ∈ w.drop i, x.f0.size ≤ 100 ∧ x.f1.size ≤ 100)
  | 0, i, hi => by
    obtain ⟨q, hq, hp⟩ := few_j4 l n j a b c d e s r w m P hn (i : Int)
    refine ⟨q, Ev.step (fun k => ?_) hq, fun e => ⟨(hp e).1, (hp e).2.1, (hp e).2.2, fun x hx => ?_⟩⟩
    · simp only [althinglaw05_Few.l2]
      by_cases h1 : (i : Int) < (w.length : Int)
      · rw [if_pos h1, decide_eq_false (by omega)]
      · rw [if_neg h1]
    · have := (hp e).2.2
      rw [List.drop_eq_nil_of_le (by omega)] at hx
      cases hx
  | dd + 1, i, hi => by
    have hil : i < w.length := by omega
    have hstep : ∀ k, althinglaw05_Few.l2 (k + 1) (i : Int) l n j a b c d e s r w m = althinglaw05_Few.j4 k (i : Int) l n j true a b c d e s r w m := fun k => by
      simp only [althinglaw05_Few.l2]; rw [if_pos (by omega), decide_eq_true (by omega)]
    have hj : ∃ q, Ev (fun k => althinglaw05_Few.j4 k (i : Int) l n j true a b c d e s r w m) q ∧ (q = true → P ∧ r.length ≤ 20 ∧ w.length ≤ 20 ∧ ∀ x ∈ w.drop i, x.f0.size ≤ 100 ∧ x.f1.size ≤ 100) := by
      by_cases h1 : (w[i].f0.size : Int) > 100
      · refine ⟨false, Ev.step (f := fun _ => some false) (fun k => ?_) (Ev.const rfl), fun e => by cases e⟩
        simp only [althinglaw05_Few.j4]; rw [if_pos trivial, if_pos (by omega), if_pos (by omega), rdW w i hil, if_pos h1]
      · by_cases h2 : (w[i].f1.size : Int) > 100
        · refine ⟨false, Ev.step (f := fun _ => some false) (fun k => ?_) (Ev.const rfl), fun e => by cases e⟩
          simp only [althinglaw05_Few.j4]; rw [if_pos trivial, if_pos (by omega), if_pos (by omega), rdW w i hil, if_neg h1, if_pos h2]
        · obtain ⟨q, hq, hp⟩ := few_l2 hn dd (i + 1) (by omega)
          refine ⟨q, Ev.step (fun k => ?_) hq, fun e => ⟨(hp e).1, (hp e).2.1, (hp e).2.2.1, fun x hx => ?_⟩⟩
          · simp only [althinglaw05_Few.j4]; rw [if_pos trivial, if_pos (by omega), if_pos (by omega), rdW w i hil, if_neg h1, if_neg h2, w1 i (by omega)]
          · rw [List.drop_eq_getElem_cons hil] at hx
            rcases List.mem_cons.1 hx with rfl | hx
            · exact ⟨by omega, by omega⟩
            · exact (hp e).2.2.2 x hx
    obtain ⟨q, hq, hp⟩ := hj
    exact ⟨q, Ev.step hstep hq, hp⟩
theorem few_l1 (hn : ∃ q, Ev (fun k => althinglaw05_Few.l0 k l n (wrap64 (j + 1))) q ∧ (q = true → P)) : ∀ dd i, i + dd = min r.length 21 → ∃ q, Ev (fun k => althinglaw05_Few.l1 k (i : Int) l n j a b c d e s r w m) q ∧ (q = true → P ∧ r.length ≤ 20 ∧ w.length ≤ 20 ∧ (∀ x ∈ r.drop i, x.f0.size ≤ 100) ∧ ∀ x ∈ w, x.f0.size ≤ 100 ∧ x.f1.size ≤ 100)
  | 0, i, hi => by
    obtain ⟨q, hq, hp⟩ := few_l2 l n j a b c d e s r w m P hn (min w.length 21) 0 (by omega)
    refine ⟨q, Ev.step (f := fun k => althinglaw05_Few.j2 k (i : Int) l n j false a b c d e s r w m) (fun k => ?_) (Ev.step (fun k => ?_) hq), fun e => ⟨(hp e).1, (hp e).2.1, (hp e).2.2.1, fun x hx => ?_, by simpa using (hp e).2.2.2⟩⟩
    · simp only [althinglaw05_Few.l1]
      by_cases h1 : (i : Int) < (r.length : Int)
      · rw [if_pos h1, decide_eq_false (by omega)]
      · rw [if_neg h1]
    · simp only [althinglaw05_Few.j2]; rw [if_neg (by simp)]; rfl
    · have := (hp e).2.1
      rw [List.drop_eq_nil_of_le (by omega)] at hx
      cases hx
  | dd + 1, i, hi => by
    have hil : i < r.length := by omega
    have hstep : ∀ k, althinglaw05_Few.l1 (k + 1) (i : Int) l n j a b c d e s r w m = althinglaw05_Few.j2 k (i : Int) l n j true a b c d e s r w m := fun k => by
      simp only [althinglaw05_Few.l1]; rw [if_pos (by omega), decide_eq_true (by omega)]
    have hj : ∃ q, Ev (fun k => althinglaw05_Few.j2 k (i : Int) l n j true a b c d e s r w m) q ∧ (q = true → P ∧ r.length ≤ 20 ∧ w.length ≤ 20 ∧ (∀ x ∈ r.drop i, x.f0.size ≤ 100) ∧ ∀ x ∈ w, x.f0.size ≤ 100 ∧ x.f1.size ≤ 100) := by
      by_cases h1 : (r[i].f0.size : Int) > 100
      · refine ⟨false, Ev.step (f := fun _ => some false) (fun k => ?_) (Ev.const rfl), fun e => by cases e⟩
        simp only [althinglaw05_Few.j2]; rw [if_pos trivial, if_pos (by omega), if_pos (by omega), rdR r i hil, if_pos h1]
      · obtain ⟨q, hq, hp⟩ := few_l1 hn dd (i + 1) (by omega)
        refine ⟨q, Ev.step (fun k => ?_) hq, fun e => ⟨(hp e).1, (hp e).2.1, (hp e).2.2.1, fun x hx => ?_, (hp e).2.2.2.2⟩⟩
        · simp only [althinglaw05_Few.j2]; rw [if_pos trivial, if_pos (by omega), if_pos (by omega), rdR r i hil, if_neg h1, w1 i (by omega)]
        · rw [List.drop_eq_getElem_cons hil] at hx
          rcases List.mem_cons.1 hx with rfl | hx
          · omega
          · exact (hp e).2.2.2.1 x hx
    obtain ⟨q, hq, hp⟩ := hj
    exact ⟨q, Ev.step hstep hq, hp⟩
end
theorem few_l0 (l : List Cm) (hl : l.length ≤ 1000) : ∀ dd i, i + dd = l.length → ∃ q, Ev (fun k => althinglaw05_Few.l0 k l (l.length : Int) (i : Int)) q ∧ (q = true → ∀ c ∈ l.drop i, small c.f4 c.f5)
  | 0, i, hi => by
    refine ⟨true, Ev.step (f := fun _ => some true) (fun k => ?_) (Ev.const rfl), fun _ c hc => ?_⟩
    · simp only [althinglaw05_Few.l0]; rw [if_neg (by omega)]
    · rw [List.drop_eq_nil_of_le (by omega)] at hc; cases hc
  | dd + 1, i, hi => by
    have hil : i < l.length := by omega
    obtain ⟨q0, hq0, hp0⟩ := few_l0 l hl dd (i + 1) (by omega)
    have hn : ∃ q, Ev (fun k => althinglaw05_Few.l0 k l (l.length : Int) (wrap64 ((i : Int) + 1))) q ∧ (q = true → ∀ c ∈ l.drop (i + 1), small c.f4 c.f5) := ⟨q0, by rw [w1 i (by omega)]; exact hq0, hp0⟩
    obtain ⟨q, hq, hp⟩ := few_l1 l (l.length : Int) (i : Int) l[i].f0 l[i].f1.f0 l[i].f1.f1 l[i].f2.f0 l[i].f2.f1 l[i].f3 l[i].f4 l[i].f5 l[i].f6 _ hn (min l[i].f4.length 21) 0 (by omega)
    refine ⟨q, Ev.step (fun k => ?_) hq, fun e c hc => ?_⟩
    · simp only [althinglaw05_Few.l0]; rw [if_pos (by omega), if_pos (by omega), if_pos (by omega), rdC l i hil]; rfl
    · rw [List.drop_eq_getElem_cons hil] at hc
      rcases List.mem_cons.1 hc with rfl | hc
      · have := hp e
        exact ⟨this.2.1, this.2.2.1, by simpa using this.2.2.2.1, this.2.2.2.2⟩
      · exact (hp e).1 c hc
theorem few_ex (l : List Cm) (hl : l.length ≤ 1000) : ∃ q, Ev (fun k => althinglaw05_Few.f k l) q ∧ (q = true → ∀ c ∈ l, small c.f4 c.f5) := by
  obtain ⟨q, hq, hp⟩ := few_l0 l hl l.length 0 (by omega)
  exact ⟨q, hq, by simpa using hp⟩
def someR : List Rd := [⟨⟨#[97]⟩, ⟨0, 0⟩⟩]
def someW : List Wr := [⟨⟨#[98]⟩, ⟨#[49]⟩⟩]
theorem some_small : small someR someW := ⟨by decide, by decide, by unfold someR; simp; decide, by unfold someW; simp; decide⟩
theorem some_right : rightB 1 0 1 1 0 1 someR someW false = true := by decide
theorem some_keys : (keysB someR someW).length = 2 := by
  unfold keysB joinB
  rw [srt_length]
  decide
theorem awake_is : Ev (fun k => althinglaw05_awake.f k) true := by
  unfold althinglaw05_awake.f althinglaw05_some.f
  simp only [Option.bind_some]
  refine Ev.bindT (some_right ▸ right_is 1 0 1 1 0 1 someR someW false some_small) ?_
  refine Ev.bindT ((show interB 1 0 1 someR someW 1 0 1 someR someW = true by simp [interB]) ▸ inter_is 1 0 1 1 0 1 someR someW false 1 0 1 1 0 1 someR someW false some_small some_small) ?_
  refine Ev.bind (keys_is 1 0 1 1 0 1 someR someW false some_small) (Ev.congr (fun k => if_pos (by rw [some_keys]; rfl)) ?_)
  exact Ev.bind (same_self 1 0 1 1 0 1 someR someW false some_small) (Ev.const rfl)
end Go.Proofs.Ytnjeeedndnfglaa.Strs
end
