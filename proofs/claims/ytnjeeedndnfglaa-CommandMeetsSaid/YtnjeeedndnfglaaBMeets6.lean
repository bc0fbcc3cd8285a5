/- What the claim Meets leans on: texts joined by bundle.py, a program of ours; the words cut down to what is used. -/
import Derived.Test.YtnjeeedndnfglaaBMeets5
import Derived.Lib.RuneCountTail
import Derived.Lib.TrimU
import Derived.Lib.OthersKept
section
namespace Go.Proofs.Ytnjeeedndnfglaa.X
open Go.RowKit Go.Proofs.YtnjeeedndnfglaaW.PrintWords Go.Proofs.YtnjeeedndnfglaaW.PrintLast Go.Proofs.YtnjeeedndnfglaaW.PrintMore
attribute [local go_sem] max2_int min2_int max_two min_two max_three min_three max_four min_four   -- for this text's walks alone
set_option linter.unusedVariables false
set_option linter.unusedSimpArgs false

/-! ### althinglaw05_CommandMeets: function 4 -/
def althinglaw05_CommandMeets.j0 : Nat → Bool → Int → Int → Int → Int → Int → Int → List (S38) → List (S40) → Bool → Int → Int → Int → Int → Int → Int → List (S38) → List (S40) → Bool → Option (Bool)
  | 0, _, _, _, _, _, _, _, _, _, _, _, _, _, _, _, _, _, _, _ => none
  | k + 1, x33, x375000, x375001, x375002, x375003, x375004, x375005, x375006, x375007, x375008, x376000, x376001, x376002, x376003, x376004, x376005, x376006, x376007, x376008 => if x33 = true then (none) else ((command_Interfere.f k x375000 x375001 x375002 x375003 x375004 x375005 x375006 x375007 x375008 x376000 x376001 x376002 x376003 x376004 x376005 x376006 x376007 x376008).bind fun t398 => ((command_Interfere.f k x376000 x376001 x376002 x376003 x376004 x376005 x376006 x376007 x376008 x375000 x375001 x375002 x375003 x375004 x375005 x375006 x375007 x375008).bind fun t399 => (if (t398 == t399) = true then ((command_Interfere.f k x375000 x375001 x375002 x375003 x375004 x375005 x375006 x375007 x375008 x375000 x375001 x375002 x375003 x375004 x375005 x375006 x375007 x375008).bind fun t400 => (if (t400 == (x375000 != 0)) = true then ((command_Interfere.f k x375000 x375001 x375002 x375003 x375004 x375005 x375006 x375007 x375008 0 0 0 0 0 0 ([] : List (S38)) ([] : List (S40)) false).bind fun t401 => (if t401 = true then (none) else ((command_Right.f k 0 0 0 0 0 0 ([] : List (S38)) ([] : List (S40)) false).bind fun t402 => (if t402 = true then ((althinglaw05_awake.f k).bind fun t403 => (some t403)) else (none))))) else (none))) else (none))))
def althinglaw05_CommandMeets.f (k : Nat) (a0_0 : Int) (a0_1 : Int) (a0_2 : Int) (a0_3 : Int) (a0_4 : Int) (a0_5 : Int) (l0_6 : List (S38)) (l0_7 : List (S40)) (a0_8 : Bool) (a1_0 : Int) (a1_1 : Int) (a1_2 : Int) (a1_3 : Int) (a1_4 : Int) (a1_5 : Int) (l1_6 : List (S38)) (l1_7 : List (S40)) (a1_8 : Bool) (a2 : Bool) : Option (Bool) := (althinglaw05_Few.f k (([(⟨a0_0, (⟨a0_1, a0_2⟩ : S23), (⟨a0_3, a0_4⟩ : S25), a0_5, l0_6, l0_7, a0_8⟩ : S29), (⟨a1_0, (⟨a1_1, a1_2⟩ : S23), (⟨a1_3, a1_4⟩ : S25), a1_5, l1_6, l1_7, a1_8⟩ : S29)] : List (S29)))).bind fun t379 => (if t379 = true then ((command_Decided.f k a0_0 a0_1 a0_2 a0_3 a0_4 a0_5 l0_6 l0_7 a0_8 a2).bind fun bt381 => (if bt381.2.2.2.2.2.2.2.2.2 = 0 then ((command_Interfere.f k a0_0 a0_1 a0_2 a0_3 a0_4 a0_5 l0_6 l0_7 a0_8 bt381.1 bt381.2.1 bt381.2.2.1 bt381.2.2.2.1 bt381.2.2.2.2.1 bt381.2.2.2.2.2.1 bt381.2.2.2.2.2.2.1 bt381.2.2.2.2.2.2.2.1 bt381.2.2.2.2.2.2.2.2.1).bind fun t396 => (if t396 = true then ((command_Right.f k bt381.1 bt381.2.1 bt381.2.2.1 bt381.2.2.2.1 bt381.2.2.2.2.1 bt381.2.2.2.2.2.1 bt381.2.2.2.2.2.2.1 bt381.2.2.2.2.2.2.2.1 bt381.2.2.2.2.2.2.2.2.1).bind fun t397 => (althinglaw05_CommandMeets.j0 k (!t397) a0_0 a0_1 a0_2 a0_3 a0_4 a0_5 l0_6 l0_7 a0_8 a1_0 a1_1 a1_2 a1_3 a1_4 a1_5 l1_6 l1_7 a1_8)) else (althinglaw05_CommandMeets.j0 k true a0_0 a0_1 a0_2 a0_3 a0_4 a0_5 l0_6 l0_7 a0_8 a1_0 a1_1 a1_2 a1_3 a1_4 a1_5 l1_6 l1_7 a1_8))) else (althinglaw05_CommandMeets.j0 k false a0_0 a0_1 a0_2 a0_3 a0_4 a0_5 l0_6 l0_7 a0_8 a1_0 a1_1 a1_2 a1_3 a1_4 a1_5 l1_6 l1_7 a1_8))) else ((althinglaw05_awake.f k).bind fun t380 => (some t380)))
theorem althinglaw05_CommandMeets.mono_l : ∀ k, (∀ y0 y1 y2 y3 y4 y5 y6 y7 y8 y9 y10 y11 y12 y13 y14 y15 y16 y17 y18, LeO (althinglaw05_CommandMeets.j0 k y0 y1 y2 y3 y4 y5 y6 y7 y8 y9 y10 y11 y12 y13 y14 y15 y16 y17 y18) (althinglaw05_CommandMeets.j0 (k + 1) y0 y1 y2 y3 y4 y5 y6 y7 y8 y9 y10 y11 y12 y13 y14 y15 y16 y17 y18))
  | 0 => fun _ _ _ _ _ _ _ _ _ _ _ _ _ _ _ _ _ _ _ r h => by simp [althinglaw05_CommandMeets.j0] at h
  | k + 1 => by
    have ih0 := althinglaw05_CommandMeets.mono_l k
    · intro y0 y1 y2 y3 y4 y5 y6 y7 y8 y9 y10 y11 y12 y13 y14 y15 y16 y17 y18
      unfold althinglaw05_CommandMeets.j0
      repeat' first
      | (with_reducible exact ih0 _ _ _ _ _ _ _ _ _ _ _ _ _ _ _ _ _ _ _)
      | (with_reducible exact althinglaw05_Few.mono _ _)
      | (with_reducible exact althinglaw05_awake.mono _)
      | (with_reducible exact command_Decided.mono _ _ _ _ _ _ _ _ _ _ _)
      | (with_reducible exact command_Interfere.mono _ _ _ _ _ _ _ _ _ _ _ _ _ _ _ _ _ _ _)
      | (with_reducible exact command_Right.mono _ _ _ _ _ _ _ _ _ _)
      | (with_reducible exact LeO.refl _)
      | (with_reducible exact LeO.none _)
      | (with_reducible refine LeO.ite ?_ ?_)
      | (with_reducible refine LeO.bind ?_ (fun _ => ?_))
      | exact ih0 _ _ _ _ _ _ _ _ _ _ _ _ _ _ _ _ _ _ _
      | exact althinglaw05_Few.mono _ _
      | exact althinglaw05_awake.mono _
      | exact command_Decided.mono _ _ _ _ _ _ _ _ _ _ _
      | exact command_Interfere.mono _ _ _ _ _ _ _ _ _ _ _ _ _ _ _ _ _ _ _
      | exact command_Right.mono _ _ _ _ _ _ _ _ _ _
      | exact LeO.none _
      | refine LeO.ite ?_ ?_
      | refine LeO.bind ?_ (fun _ => ?_)
theorem althinglaw05_CommandMeets.mono : ∀ a0 a1 a2 a3 a4 a5 a6 a7 a8 a9 a10 a11 a12 a13 a14 a15 a16 a17 a18 k, LeO (althinglaw05_CommandMeets.f k a0 a1 a2 a3 a4 a5 a6 a7 a8 a9 a10 a11 a12 a13 a14 a15 a16 a17 a18) (althinglaw05_CommandMeets.f (k + 1) a0 a1 a2 a3 a4 a5 a6 a7 a8 a9 a10 a11 a12 a13 a14 a15 a16 a17 a18) := by
  intro a0 a1 a2 a3 a4 a5 a6 a7 a8 a9 a10 a11 a12 a13 a14 a15 a16 a17 a18 k
  have ih0 := althinglaw05_CommandMeets.mono_l k
  unfold althinglaw05_CommandMeets.f
  repeat' first
      | (with_reducible exact ih0 _ _ _ _ _ _ _ _ _ _ _ _ _ _ _ _ _ _ _)
      | (with_reducible exact althinglaw05_Few.mono _ _)
      | (with_reducible exact althinglaw05_awake.mono _)
      | (with_reducible exact command_Decided.mono _ _ _ _ _ _ _ _ _ _ _)
      | (with_reducible exact command_Interfere.mono _ _ _ _ _ _ _ _ _ _ _ _ _ _ _ _ _ _ _)
      | (with_reducible exact command_Right.mono _ _ _ _ _ _ _ _ _ _)
      | (with_reducible exact LeO.refl _)
      | (with_reducible exact LeO.none _)
      | (with_reducible refine LeO.ite ?_ ?_)
      | (with_reducible refine LeO.bind ?_ (fun _ => ?_))
      | exact ih0 _ _ _ _ _ _ _ _ _ _ _ _ _ _ _ _ _ _ _
      | exact althinglaw05_Few.mono _ _
      | exact althinglaw05_awake.mono _
      | exact command_Decided.mono _ _ _ _ _ _ _ _ _ _ _
      | exact command_Interfere.mono _ _ _ _ _ _ _ _ _ _ _ _ _ _ _ _ _ _ _
      | exact command_Right.mono _ _ _ _ _ _ _ _ _ _
      | exact LeO.none _
      | refine LeO.ite ?_ ?_
      | refine LeO.bind ?_ (fun _ => ?_)
def althinglaw05_CommandMeets.T6 : Bool × List (List Nat × List Nat) := (true, [([], []), ([], []), ([0, 1], [0, 1]), ([], []), ([], []), ([3, 4, 2], [3, 4]), ([2, 5], [2, 5]), ([6, 5], [6]), ([7], [7]), ([7], [7]), ([8, 9, 7, 7], [7, 8, 9]), ([7], [7]), ([11, 7], [7, 11]), ([12, 7], [7, 12]), ([10, 13, 7], [7, 10, 13]), ([7, 14], [7, 14]), ([15, 10], [15]), ([16], [16]), ([16], [16]), ([17, 18, 16, 16], [16, 17, 18]), ([19, 16], [16, 19]), ([16, 20], [16, 20]), ([21, 19], [21]), ([22], [22]), ([23, 22, 22], [22, 23]), ([22, 24], [22, 24]), ([25, 24], [25]), ([26, 26], [26]), ([26, 27], [26, 27]), ([28, 27, 0, 1, 2, 3, 4, 5, 6, 7, 8, 9, 10, 11, 12, 13, 14, 15, 16, 17, 18, 19, 20, 21, 22, 23, 24, 25, 26, 27, 28], [28])])
def althinglaw05_CommandMeets.B6 : List Nat := [0, 0, 3, 0, 0, 31, 63, 127, 255, 255, 1023, 255, 2303, 6399, 16383, 32767, 65535, 131071, 131071, 524287, 1048575, 2097151, 4194303, 8388607, 16777215, 33554431, 67108863, 134217727, 268435455, 536870911]
theorem althinglaw05_CommandMeets.tab6 : rtab .any (opsOf Try.f4 6) = althinglaw05_CommandMeets.T6 := by kernel_rfl
theorem althinglaw05_CommandMeets.bits6 : waitsOk althinglaw05_CommandMeets.T6.2 althinglaw05_CommandMeets.B6 = true := by kernel_rfl
set_option maxHeartbeats 8000000 in
set_option maxRecDepth 100000 in
theorem althinglaw05_CommandMeets.calls (k : Nat) (a0_0 : Int) (a0_1 : Int) (a0_2 : Int) (a0_3 : Int) (a0_4 : Int) (a0_5 : Int) (P0_6_ : Nat → Prop) (A0_6 : Option Addr) (c0_6 : Nat) (l0_6 : List (S38)) (P0_7_ : Nat → Prop) (A0_7 : Option Addr) (c0_7 : Nat) (l0_7 : List (S40)) (a0_8 : Bool) (a1_0 : Int) (a1_1 : Int) (a1_2 : Int) (a1_3 : Int) (a1_4 : Int) (a1_5 : Int) (P1_6_ : Nat → Prop) (A1_6 : Option Addr) (c1_6 : Nat) (l1_6 : List (S38)) (P1_7_ : Nat → Prop) (A1_7 : Option Addr) (c1_7 : Nat) (l1_7 : List (S40)) (a1_8 : Bool) (a2 : Bool) (r : Bool) (w : World) (hs0_6 : Kd.V k38 38 w w.heap.size (fun k_ => P0_6_ k_) (.slice A0_6 l0_6.length c0_6) l0_6) (hs0_7 : Kd.V k40 40 w w.heap.size (fun k_ => P0_7_ k_) (.slice A0_7 l0_7.length c0_7) l0_7) (hs1_6 : Kd.V k38 38 w w.heap.size (fun k_ => P1_6_ k_) (.slice A1_6 l1_6.length c1_6) l1_6) (hs1_7 : Kd.V k40 40 w w.heap.size (fun k_ => P1_7_ k_) (.slice A1_7 l1_7.length c1_7) l1_7) (h : althinglaw05_CommandMeets.f k a0_0 a0_1 a0_2 a0_3 a0_4 a0_5 l0_6 l0_7 a0_8 a1_0 a1_1 a1_2 a1_3 a1_4 a1_5 l1_6 l1_7 a1_8 a2 = some r) :
    Calls Try.prog 4 #[.agg #[.int .i64 a0_0, .int .i64 a0_1, .int .i64 a0_2, .int .i64 a0_3, .int .i64 a0_4, .int .i64 a0_5, .slice A0_6 l0_6.length c0_6, .slice A0_7 l0_7.length c0_7, .bool a0_8], .agg #[.int .i64 a1_0, .int .i64 a1_1, .int .i64 a1_2, .int .i64 a1_3, .int .i64 a1_4, .int .i64 a1_5, .slice A1_6 l1_6.length c1_6, .slice A1_7 l1_7.length c1_7, .bool a1_8], .bool a2] w fun e w' => e = .returned (.bool r) ∧ Below w.heap.size w w' := by
  have hu29 := Try.underlying29
  have HO0_6 := Aside0.mk (show Kd.V k38 38 w w.heap.size (fun k_ => ((P0_6_ k_ ∨ P0_7_ k_ ∨ P1_6_ k_ ∨ P1_7_ k_) ∨ w.heap.size ≤ k_)) (.slice A0_6 l0_6.length c0_6) l0_6 from Kd.V_mono hs0_6 (fun k_ hk => .inl (.inl hk)))
  have HO0_7 := Aside0.mk (show Kd.V k40 40 w w.heap.size (fun k_ => ((P0_6_ k_ ∨ P0_7_ k_ ∨ P1_6_ k_ ∨ P1_7_ k_) ∨ w.heap.size ≤ k_)) (.slice A0_7 l0_7.length c0_7) l0_7 from Kd.V_mono hs0_7 (fun k_ hk => .inl (.inr (.inl hk))))
  have HO1_6 := Aside0.mk (show Kd.V k38 38 w w.heap.size (fun k_ => ((P0_6_ k_ ∨ P0_7_ k_ ∨ P1_6_ k_ ∨ P1_7_ k_) ∨ w.heap.size ≤ k_)) (.slice A1_6 l1_6.length c1_6) l1_6 from Kd.V_mono hs1_6 (fun k_ hk => .inl (.inr (.inr (.inl hk)))))
  have HO1_7 := Aside0.mk (show Kd.V k40 40 w w.heap.size (fun k_ => ((P0_6_ k_ ∨ P0_7_ k_ ∨ P1_6_ k_ ∨ P1_7_ k_) ∨ w.heap.size ≤ k_)) (.slice A1_7 l1_7.length c1_7) l1_7 from Kd.V_mono hs1_7 (fun k_ hk => .inl (.inr (.inr (.inr hk)))))
  have HB := Aside0.mk (Below.refl w.heap.size w)
  have H : ((althinglaw05_Few.f k (([(⟨a0_0, (⟨a0_1, a0_2⟩ : S23), (⟨a0_3, a0_4⟩ : S25), a0_5, l0_6, l0_7, a0_8⟩ : S29), (⟨a1_0, (⟨a1_1, a1_2⟩ : S23), (⟨a1_3, a1_4⟩ : S25), a1_5, l1_6, l1_7, a1_8⟩ : S29)] : List (S29)))).bind fun t379 => (if t379 = true then ((command_Decided.f k a0_0 a0_1 a0_2 a0_3 a0_4 a0_5 l0_6 l0_7 a0_8 a2).bind fun bt381 => (if bt381.2.2.2.2.2.2.2.2.2 = 0 then ((command_Interfere.f k a0_0 a0_1 a0_2 a0_3 a0_4 a0_5 l0_6 l0_7 a0_8 bt381.1 bt381.2.1 bt381.2.2.1 bt381.2.2.2.1 bt381.2.2.2.2.1 bt381.2.2.2.2.2.1 bt381.2.2.2.2.2.2.1 bt381.2.2.2.2.2.2.2.1 bt381.2.2.2.2.2.2.2.2.1).bind fun t396 => (if t396 = true then ((command_Right.f k bt381.1 bt381.2.1 bt381.2.2.1 bt381.2.2.2.1 bt381.2.2.2.2.1 bt381.2.2.2.2.2.1 bt381.2.2.2.2.2.2.1 bt381.2.2.2.2.2.2.2.1 bt381.2.2.2.2.2.2.2.2.1).bind fun t397 => (althinglaw05_CommandMeets.j0 k (!t397) a0_0 a0_1 a0_2 a0_3 a0_4 a0_5 l0_6 l0_7 a0_8 a1_0 a1_1 a1_2 a1_3 a1_4 a1_5 l1_6 l1_7 a1_8)) else (althinglaw05_CommandMeets.j0 k true a0_0 a0_1 a0_2 a0_3 a0_4 a0_5 l0_6 l0_7 a0_8 a1_0 a1_1 a1_2 a1_3 a1_4 a1_5 l1_6 l1_7 a1_8))) else (althinglaw05_CommandMeets.j0 k false a0_0 a0_1 a0_2 a0_3 a0_4 a0_5 l0_6 l0_7 a0_8 a1_0 a1_1 a1_2 a1_3 a1_4 a1_5 l1_6 l1_7 a1_8))) else ((althinglaw05_awake.f k).bind fun t380 => (some t380)))) = some r := h
  clear h
  obtain ⟨y376, hy376⟩ : ∃ y_ : List (S29), y_ = (([(⟨a0_0, (⟨a0_1, a0_2⟩ : S23), (⟨a0_3, a0_4⟩ : S25), a0_5, l0_6, l0_7, a0_8⟩ : S29), (⟨a1_0, (⟨a1_1, a1_2⟩ : S23), (⟨a1_3, a1_4⟩ : S25), a1_5, l1_6, l1_7, a1_8⟩ : S29)] : List (S29))) := ⟨_, rfl⟩
  replace H : ((althinglaw05_Few.f k y376).bind fun t379 => (if t379 = true then ((command_Decided.f k a0_0 a0_1 a0_2 a0_3 a0_4 a0_5 l0_6 l0_7 a0_8 a2).bind fun bt381 => (if bt381.2.2.2.2.2.2.2.2.2 = 0 then ((command_Interfere.f k a0_0 a0_1 a0_2 a0_3 a0_4 a0_5 l0_6 l0_7 a0_8 bt381.1 bt381.2.1 bt381.2.2.1 bt381.2.2.2.1 bt381.2.2.2.2.1 bt381.2.2.2.2.2.1 bt381.2.2.2.2.2.2.1 bt381.2.2.2.2.2.2.2.1 bt381.2.2.2.2.2.2.2.2.1).bind fun t396 => (if t396 = true then ((command_Right.f k bt381.1 bt381.2.1 bt381.2.2.1 bt381.2.2.2.1 bt381.2.2.2.2.1 bt381.2.2.2.2.2.1 bt381.2.2.2.2.2.2.1 bt381.2.2.2.2.2.2.2.1 bt381.2.2.2.2.2.2.2.2.1).bind fun t397 => (althinglaw05_CommandMeets.j0 k (!t397) a0_0 a0_1 a0_2 a0_3 a0_4 a0_5 l0_6 l0_7 a0_8 a1_0 a1_1 a1_2 a1_3 a1_4 a1_5 l1_6 l1_7 a1_8)) else (althinglaw05_CommandMeets.j0 k true a0_0 a0_1 a0_2 a0_3 a0_4 a0_5 l0_6 l0_7 a0_8 a1_0 a1_1 a1_2 a1_3 a1_4 a1_5 l1_6 l1_7 a1_8))) else (althinglaw05_CommandMeets.j0 k false a0_0 a0_1 a0_2 a0_3 a0_4 a0_5 l0_6 l0_7 a0_8 a1_0 a1_1 a1_2 a1_3 a1_4 a1_5 l1_6 l1_7 a1_8))) else ((althinglaw05_awake.f k).bind fun t380 => (some t380)))) = some r := by first | (rw [hy376]; with_reducible exact H) | (have H2_ := (Option.bind_some _ _).symm.trans H; rw [hy376]; with_reducible exact H2_) | (have H2_ := (Option.bind_some _ _).symm.trans H; with_reducible exact H2_) | with_reducible exact H | (rw [hy376]; exact H) | exact H
  have Ny376 := Aside0.mk hy376
  clear hy376
  replace H := Option.bind_eq_some_iff.mp H
  obtain ⟨t379, A40, H⟩ := H
  replace H : (if t379 = true then ((command_Decided.f k a0_0 a0_1 a0_2 a0_3 a0_4 a0_5 l0_6 l0_7 a0_8 a2).bind fun bt381 => (if bt381.2.2.2.2.2.2.2.2.2 = 0 then ((command_Interfere.f k a0_0 a0_1 a0_2 a0_3 a0_4 a0_5 l0_6 l0_7 a0_8 bt381.1 bt381.2.1 bt381.2.2.1 bt381.2.2.2.1 bt381.2.2.2.2.1 bt381.2.2.2.2.2.1 bt381.2.2.2.2.2.2.1 bt381.2.2.2.2.2.2.2.1 bt381.2.2.2.2.2.2.2.2.1).bind fun t396 => (if t396 = true then ((command_Right.f k bt381.1 bt381.2.1 bt381.2.2.1 bt381.2.2.2.1 bt381.2.2.2.2.1 bt381.2.2.2.2.2.1 bt381.2.2.2.2.2.2.1 bt381.2.2.2.2.2.2.2.1 bt381.2.2.2.2.2.2.2.2.1).bind fun t397 => (althinglaw05_CommandMeets.j0 k (!t397) a0_0 a0_1 a0_2 a0_3 a0_4 a0_5 l0_6 l0_7 a0_8 a1_0 a1_1 a1_2 a1_3 a1_4 a1_5 l1_6 l1_7 a1_8)) else (althinglaw05_CommandMeets.j0 k true a0_0 a0_1 a0_2 a0_3 a0_4 a0_5 l0_6 l0_7 a0_8 a1_0 a1_1 a1_2 a1_3 a1_4 a1_5 l1_6 l1_7 a1_8))) else (althinglaw05_CommandMeets.j0 k false a0_0 a0_1 a0_2 a0_3 a0_4 a0_5 l0_6 l0_7 a0_8 a1_0 a1_1 a1_2 a1_3 a1_4 a1_5 l1_6 l1_7 a1_8))) else ((althinglaw05_awake.f k).bind fun t380 => (some t380))) = some r := H
  have A4 := Aside0.mk A40
  clear A40
  by_cases c5 : t379 = true
  · subst c5
    have H1 : ((command_Decided.f k a0_0 a0_1 a0_2 a0_3 a0_4 a0_5 l0_6 l0_7 a0_8 a2).bind fun bt381 => (if bt381.2.2.2.2.2.2.2.2.2 = 0 then ((command_Interfere.f k a0_0 a0_1 a0_2 a0_3 a0_4 a0_5 l0_6 l0_7 a0_8 bt381.1 bt381.2.1 bt381.2.2.1 bt381.2.2.2.1 bt381.2.2.2.2.1 bt381.2.2.2.2.2.1 bt381.2.2.2.2.2.2.1 bt381.2.2.2.2.2.2.2.1 bt381.2.2.2.2.2.2.2.2.1).bind fun t396 => (if t396 = true then ((command_Right.f k bt381.1 bt381.2.1 bt381.2.2.1 bt381.2.2.2.1 bt381.2.2.2.2.1 bt381.2.2.2.2.2.1 bt381.2.2.2.2.2.2.1 bt381.2.2.2.2.2.2.2.1 bt381.2.2.2.2.2.2.2.2.1).bind fun t397 => (althinglaw05_CommandMeets.j0 k (!t397) a0_0 a0_1 a0_2 a0_3 a0_4 a0_5 l0_6 l0_7 a0_8 a1_0 a1_1 a1_2 a1_3 a1_4 a1_5 l1_6 l1_7 a1_8)) else (althinglaw05_CommandMeets.j0 k true a0_0 a0_1 a0_2 a0_3 a0_4 a0_5 l0_6 l0_7 a0_8 a1_0 a1_1 a1_2 a1_3 a1_4 a1_5 l1_6 l1_7 a1_8))) else (althinglaw05_CommandMeets.j0 k false a0_0 a0_1 a0_2 a0_3 a0_4 a0_5 l0_6 l0_7 a0_8 a1_0 a1_1 a1_2 a1_3 a1_4 a1_5 l1_6 l1_7 a1_8))) = some r := by rw [if_pos rfl] at H; exact H
    clear H
    have H := H1
    clear H1
    replace H := Option.bind_eq_some_iff.mp H
    obtain ⟨⟨t381, t382, t383, t384, t385, t386, t387, t390, t393, t394⟩, A60, H⟩ := H
    replace H : (if t394 = 0 then ((command_Interfere.f k a0_0 a0_1 a0_2 a0_3 a0_4 a0_5 l0_6 l0_7 a0_8 t381 t382 t383 t384 t385 t386 t387 t390 t393).bind fun t396 => (if t396 = true then ((command_Right.f k t381 t382 t383 t384 t385 t386 t387 t390 t393).bind fun t397 => (althinglaw05_CommandMeets.j0 k (!t397) a0_0 a0_1 a0_2 a0_3 a0_4 a0_5 l0_6 l0_7 a0_8 a1_0 a1_1 a1_2 a1_3 a1_4 a1_5 l1_6 l1_7 a1_8)) else (althinglaw05_CommandMeets.j0 k true a0_0 a0_1 a0_2 a0_3 a0_4 a0_5 l0_6 l0_7 a0_8 a1_0 a1_1 a1_2 a1_3 a1_4 a1_5 l1_6 l1_7 a1_8))) else (althinglaw05_CommandMeets.j0 k false a0_0 a0_1 a0_2 a0_3 a0_4 a0_5 l0_6 l0_7 a0_8 a1_0 a1_1 a1_2 a1_3 a1_4 a1_5 l1_6 l1_7 a1_8)) = some r := H
    have A6 := Aside0.mk A60
    clear A60
    have HC7 := Aside0.mk H
    clear H
    go_enter Try.func4, Try.ntmps4
    go_upto_region 4 with (first | ((with_reducible refine gate_dst (N := 3) rfl ?_); refine box_event ?hg (N := 3) ?hd (cs := #[.int .i64 a0_0, .int .i64 a0_1, .int .i64 a0_2, .int .i64 a0_3, .int .i64 a0_4, .int .i64 a0_5, .slice A0_6 l0_6.length c0_6, .slice A0_7 l0_7.length c0_7, .bool a0_8]) (t := 29) ?hr ?_; (case hd => rfl); (case hg => rfl); (case hr => first | (go_simp; done) | (go_simp; rfl)); intro gb374 hg w8 hbox hb; have n0_ := Aside0.mk (Kd.V_below (Kd.V_elderB (by (with_reducible repeat (first | apply Kd.V_alloc | apply Kd.V_drewN | apply Kd.V_drew)); exact HO0_6.out) gb374 (Nat.le_of_eq hg.symm)) hb); have n1_ := Aside0.mk (Kd.V_below (Kd.V_elderB (by (with_reducible repeat (first | apply Kd.V_alloc | apply Kd.V_drewN | apply Kd.V_drew)); exact HO0_7.out) gb374 (Nat.le_of_eq hg.symm)) hb); have n2_ := Aside0.mk (Kd.V_below (Kd.V_elderB (by (with_reducible repeat (first | apply Kd.V_alloc | apply Kd.V_drewN | apply Kd.V_drew)); exact HO1_6.out) gb374 (Nat.le_of_eq hg.symm)) hb); have n3_ := Aside0.mk (Kd.V_below (Kd.V_elderB (by (with_reducible repeat (first | apply Kd.V_alloc | apply Kd.V_drewN | apply Kd.V_drew)); exact HO1_7.out) gb374 (Nat.le_of_eq hg.symm)) hb); have n4_ := Aside0.mk (below_step (by repeat (first | (with_reducible first | exact HB.out | apply below_alloc | apply pw_below_drewN | apply below_drew1) | exact HB.out)) hb); have n5_ := Aside0.mk (hbox); have n6_ := Aside0.mk ((by rw [hg]; exact (below_size (by repeat (first | (with_reducible first | exact HB.out | apply below_alloc | apply pw_below_drewN | apply below_drew1) | exact HB.out))) : w.heap.size ≤ gb374)); have n7_ := Aside0.mk ((by rw [hg]; exact (below_size (by repeat (first | (with_reducible first | exact HB.out | apply below_alloc | apply pw_below_drewN | apply below_drew1) | exact HB.out))) : w.heap.size ≤ gb374)); clear HO0_6; clear HO0_7; clear HO1_6; clear HO1_7; clear HB; have HO0_6 := n0_; have HO0_7 := n1_; have HO1_6 := n2_; have HO1_7 := n3_; have HB := n4_; have BK374 := n5_; have GW374 := n6_; have GE374 := n7_; clear n0_ n1_ n2_ n3_ n4_ n5_ n6_ n7_; clear hb hbox hg) | ((with_reducible refine gate_dst (N := 4) rfl ?_); refine box_event ?hg (N := 4) ?hd (cs := #[.int .i64 a1_0, .int .i64 a1_1, .int .i64 a1_2, .int .i64 a1_3, .int .i64 a1_4, .int .i64 a1_5, .slice A1_6 l1_6.length c1_6, .slice A1_7 l1_7.length c1_7, .bool a1_8]) (t := 29) ?hr ?_; (case hd => rfl); (case hg => rfl); (case hr => first | (go_simp; done) | (go_simp; rfl)); intro gb375 hg w9 hbox hb; have n0_ := Aside0.mk (Kd.V_below (Kd.V_elderB (by (with_reducible repeat (first | apply Kd.V_alloc | apply Kd.V_drewN | apply Kd.V_drew)); exact HO0_6.out) gb375 (Nat.le_of_eq hg.symm)) hb); have n1_ := Aside0.mk (Kd.V_below (Kd.V_elderB (by (with_reducible repeat (first | apply Kd.V_alloc | apply Kd.V_drewN | apply Kd.V_drew)); exact HO0_7.out) gb375 (Nat.le_of_eq hg.symm)) hb); have n2_ := Aside0.mk (Kd.V_below (Kd.V_elderB (by (with_reducible repeat (first | apply Kd.V_alloc | apply Kd.V_drewN | apply Kd.V_drew)); exact HO1_6.out) gb375 (Nat.le_of_eq hg.symm)) hb); have n3_ := Aside0.mk (Kd.V_below (Kd.V_elderB (by (with_reducible repeat (first | apply Kd.V_alloc | apply Kd.V_drewN | apply Kd.V_drew)); exact HO1_7.out) gb375 (Nat.le_of_eq hg.symm)) hb); have n4_ := Aside0.mk (blk_below (g := gb374) (o := .cells #[.int .i64 a0_0, .int .i64 a0_1, .int .i64 a0_2, .int .i64 a0_3, .int .i64 a0_4, .int .i64 a0_5, .slice A0_6 l0_6.length c0_6, .slice A0_7 l0_7.length c0_7, .bool a0_8] 29 (0, 0)) (by (with_reducible repeat (first | refine blk_drewN ?_ _ | refine blk_drew ?_ | refine blk_alloc ?_ _)); exact BK374.out) hb); have n5_ := Aside0.mk (below_step (by repeat (first | (with_reducible first | exact HB.out | apply below_alloc | apply pw_below_drewN | apply below_drew1 | refine below_set ?_ GE374.out) | exact HB.out)) hb); have n6_ := Aside0.mk (hbox); have n7_ := Aside0.mk ((by rw [hg]; exact (below_size (by repeat (first | (with_reducible first | exact HB.out | apply below_alloc | apply pw_below_drewN | apply below_drew1 | refine below_set ?_ GE374.out) | exact HB.out))) : w.heap.size ≤ gb375)); have n8_ := Aside0.mk ((by rw [hg]; exact (below_size (by repeat (first | (with_reducible first | exact HB.out | apply below_alloc | apply pw_below_drewN | apply below_drew1 | refine below_set ?_ GE374.out) | exact HB.out))) : w.heap.size ≤ gb375)); have n9_ := Aside0.mk ((by rw [hg]; exact Nat.ne_of_lt (blk_lt (g := gb374) (o := .cells #[.int .i64 a0_0, .int .i64 a0_1, .int .i64 a0_2, .int .i64 a0_3, .int .i64 a0_4, .int .i64 a0_5, .slice A0_6 l0_6.length c0_6, .slice A0_7 l0_7.length c0_7, .bool a0_8] 29 (0, 0)) (by (with_reducible repeat (first | refine blk_drewN ?_ _ | refine blk_drew ?_ | refine blk_alloc ?_ _)); exact BK374.out)) : gb374 ≠ gb375)); have n10_ := Aside0.mk ((by rw [hg]; exact Nat.ne_of_gt (blk_lt (g := gb374) (o := .cells #[.int .i64 a0_0, .int .i64 a0_1, .int .i64 a0_2, .int .i64 a0_3, .int .i64 a0_4, .int .i64 a0_5, .slice A0_6 l0_6.length c0_6, .slice A0_7 l0_7.length c0_7, .bool a0_8] 29 (0, 0)) (by (with_reducible repeat (first | refine blk_drewN ?_ _ | refine blk_drew ?_ | refine blk_alloc ?_ _)); exact BK374.out)) : gb375 ≠ gb374)); clear HO0_6; clear HO0_7; clear HO1_6; clear HO1_7; clear BK374; clear HB; have HO0_6 := n0_; have HO0_7 := n1_; have HO1_6 := n2_; have HO1_7 := n3_; have BK374 := n4_; have HB := n5_; have BK375 := n6_; have GW375 := n7_; have GE375 := n8_; have NB374_375 := n9_; have NB375_374 := n10_; clear n0_ n1_ n2_ n3_ n4_ n5_ n6_ n7_ n8_ n9_ n10_; clear hb hbox hg; have hnb10 := NB374_375.out; have hnc10 := NB375_374.out; have hcz11_0 : w9.cell? ⟨gb374, 0, none⟩ = some (.int .i64 a0_0) := (blk_cell BK374.out 0).trans rfl; have hcz11_1 : w9.cell? ⟨gb374, 1, none⟩ = some (.int .i64 a0_1) := (blk_cell BK374.out 1).trans rfl; have hcz11_2 : w9.cell? ⟨gb374, 2, none⟩ = some (.int .i64 a0_2) := (blk_cell BK374.out 2).trans rfl; have hcz11_3 : w9.cell? ⟨gb374, 3, none⟩ = some (.int .i64 a0_3) := (blk_cell BK374.out 3).trans rfl; have hcz11_4 : w9.cell? ⟨gb374, 4, none⟩ = some (.int .i64 a0_4) := (blk_cell BK374.out 4).trans rfl; have hcz11_5 : w9.cell? ⟨gb374, 5, none⟩ = some (.int .i64 a0_5) := (blk_cell BK374.out 5).trans rfl; have hcz11_6 : w9.cell? ⟨gb374, 6, none⟩ = some (.slice A0_6 l0_6.length c0_6) := (blk_cell BK374.out 6).trans rfl; have hcz11_7 : w9.cell? ⟨gb374, 7, none⟩ = some (.slice A0_7 l0_7.length c0_7) := (blk_cell BK374.out 7).trans rfl; have hcz11_8 : w9.cell? ⟨gb374, 8, none⟩ = some (.bool a0_8) := (blk_cell BK374.out 8).trans rfl; have hfz11_0 := blk_frozen BK374.out 0; have hfz11_1 := blk_frozen BK374.out 1; have hfz11_2 := blk_frozen BK374.out 2; have hfz11_3 := blk_frozen BK374.out 3; have hfz11_4 := blk_frozen BK374.out 4; have hfz11_5 := blk_frozen BK374.out 5; have hfz11_6 := blk_frozen BK374.out 6; have hfz11_7 := blk_frozen BK374.out 7; have hfz11_8 := blk_frozen BK374.out 8; have hcz12_0 : w9.cell? ⟨gb375, 0, none⟩ = some (.int .i64 a1_0) := (blk_cell BK375.out 0).trans rfl; have hcz12_1 : w9.cell? ⟨gb375, 1, none⟩ = some (.int .i64 a1_1) := (blk_cell BK375.out 1).trans rfl; have hcz12_2 : w9.cell? ⟨gb375, 2, none⟩ = some (.int .i64 a1_2) := (blk_cell BK375.out 2).trans rfl; have hcz12_3 : w9.cell? ⟨gb375, 3, none⟩ = some (.int .i64 a1_3) := (blk_cell BK375.out 3).trans rfl; have hcz12_4 : w9.cell? ⟨gb375, 4, none⟩ = some (.int .i64 a1_4) := (blk_cell BK375.out 4).trans rfl; have hcz12_5 : w9.cell? ⟨gb375, 5, none⟩ = some (.int .i64 a1_5) := (blk_cell BK375.out 5).trans rfl; have hcz12_6 : w9.cell? ⟨gb375, 6, none⟩ = some (.slice A1_6 l1_6.length c1_6) := (blk_cell BK375.out 6).trans rfl; have hcz12_7 : w9.cell? ⟨gb375, 7, none⟩ = some (.slice A1_7 l1_7.length c1_7) := (blk_cell BK375.out 7).trans rfl; have hcz12_8 : w9.cell? ⟨gb375, 8, none⟩ = some (.bool a1_8) := (blk_cell BK375.out 8).trans rfl; have hfz12_0 := blk_frozen BK375.out 0; have hfz12_1 := blk_frozen BK375.out 1; have hfz12_2 := blk_frozen BK375.out 2; have hfz12_3 := blk_frozen BK375.out 3; have hfz12_4 := blk_frozen BK375.out 4; have hfz12_5 := blk_frozen BK375.out 5; have hfz12_6 := blk_frozen BK375.out 6; have hfz12_7 := blk_frozen BK375.out 7; have hfz12_8 := blk_frozen BK375.out 8) | ((with_reducible refine gate_dst (N := 11) rfl ?_); refine Kd.N_lit k29 _ 29 ?hg (N' := 11) ?hd (xs := ([(⟨a0_0, (⟨a0_1, a0_2⟩ : S23), (⟨a0_3, a0_4⟩ : S25), a0_5, l0_6, l0_7, a0_8⟩ : S29), (⟨a1_0, (⟨a1_1, a1_2⟩ : S23), (⟨a1_3, a1_4⟩ : S25), a1_5, l1_6, l1_7, a1_8⟩ : S29)] : List (S29))) (inner := [.int .i64 a0_0, .int .i64 a0_1, .int .i64 a0_2, .int .i64 a0_3, .int .i64 a0_4, .int .i64 a0_5, .slice A0_6 l0_6.length c0_6, .slice A0_7 l0_7.length c0_7, .bool a0_8, .int .i64 a1_0, .int .i64 a1_1, .int .i64 a1_2, .int .i64 a1_3, .int .i64 a1_4, .int .i64 a1_5, .slice A1_6 l1_6.length c1_6, .slice A1_7 l1_7.length c1_7, .bool a1_8]) (ok := (fun k_ => ((P0_6_ k_ ∨ P0_7_ k_ ∨ P1_6_ k_ ∨ P1_7_ k_) ∨ w.heap.size ≤ k_) ∧ k_ ≠ gb374 ∧ k_ ≠ gb375)) (okp := (fun k_ => ((P0_6_ k_ ∨ P0_7_ k_ ∨ P1_6_ k_ ∨ P1_7_ k_) ∨ w.heap.size ≤ k_) ∧ k_ ≠ gb374 ∧ k_ ≠ gb375)) ?hr ?hp (fun _ hk => hk) ((show ∀ k_, w9.heap.size ≤ k_ → (fun k_ => ((P0_6_ k_ ∨ P0_7_ k_ ∨ P1_6_ k_ ∨ P1_7_ k_) ∨ w.heap.size ≤ k_) ∧ k_ ≠ gb374 ∧ k_ ≠ gb375) k_ from fun k_ hk => ⟨(.inr (Nat.le_trans (below_size (by repeat (first | (with_reducible first | exact HB.out | apply below_alloc | apply pw_below_drewN | apply below_drew1 | refine below_set ?_ GE374.out | refine below_set ?_ GE375.out) | exact HB.out))) hk)), Kd.freshB (g := gb374) (o := .cells #[.int .i64 a0_0, .int .i64 a0_1, .int .i64 a0_2, .int .i64 a0_3, .int .i64 a0_4, .int .i64 a0_5, .slice A0_6 l0_6.length c0_6, .slice A0_7 l0_7.length c0_7, .bool a0_8] 29 (0, 0)) (by (with_reducible repeat (first | refine blk_drewN ?_ _ | refine blk_drew ?_ | refine blk_alloc ?_ _)); exact BK374.out) k_ hk, Kd.freshB (g := gb375) (o := .cells #[.int .i64 a1_0, .int .i64 a1_1, .int .i64 a1_2, .int .i64 a1_3, .int .i64 a1_4, .int .i64 a1_5, .slice A1_6 l1_6.length c1_6, .slice A1_7 l1_7.length c1_7, .bool a1_8] 29 (0, 0)) (by (with_reducible repeat (first | refine blk_drewN ?_ _ | refine blk_drew ?_ | refine blk_alloc ?_ _)); exact BK375.out) k_ hk⟩) _ (Nat.le_refl _)) (Below.refl _ _) (Nat.le_refl _) (by simp) ?_; (case hd => rfl); (case hg => rfl); (case hr => first | (go_simp; done) | (go_simp; rfl)); (case hp => exact (Reps.c9 (show Kd.FK k29 _ _ (⟨a0_0, (⟨a0_1, a0_2⟩ : S23), (⟨a0_3, a0_4⟩ : S25), a0_5, l0_6, l0_7, a0_8⟩ : S29) [.int .i64 a0_0, .int .i64 a0_1, .int .i64 a0_2, .int .i64 a0_3, .int .i64 a0_4, .int .i64 a0_5, .slice A0_6 l0_6.length c0_6, .slice A0_7 l0_7.length c0_7, .bool a0_8] from (k29_mkF _ _ (⟨a0_0, (⟨a0_1, a0_2⟩ : S23), (⟨a0_3, a0_4⟩ : S25), a0_5, l0_6, l0_7, a0_8⟩ : S29) (Kd.V_reads' (Kd.V_mono (ok' := (fun k_ => ((P0_6_ k_ ∨ P0_7_ k_ ∨ P1_6_ k_ ∨ P1_7_ k_) ∨ w.heap.size ≤ k_) ∧ k_ ≠ gb374 ∧ k_ ≠ gb375)) (HO0_6.out) (fun k_ hk => ⟨hk.1.1, ⟨hk.1.2, hk.2⟩⟩))).2.1 (Kd.V_F (Kd.V_mono (ok' := (fun k_ => ((P0_6_ k_ ∨ P0_7_ k_ ∨ P1_6_ k_ ∨ P1_7_ k_) ∨ w.heap.size ≤ k_) ∧ k_ ≠ gb374 ∧ k_ ≠ gb375)) (HO0_6.out) (fun k_ hk => ⟨hk.1.1, ⟨hk.1.2, hk.2⟩⟩))) (Kd.V_reads' (Kd.V_mono (ok' := (fun k_ => ((P0_6_ k_ ∨ P0_7_ k_ ∨ P1_6_ k_ ∨ P1_7_ k_) ∨ w.heap.size ≤ k_) ∧ k_ ≠ gb374 ∧ k_ ≠ gb375)) (HO0_7.out) (fun k_ hk => ⟨hk.1.1, ⟨hk.1.2, hk.2⟩⟩))).2.1 (Kd.V_F (Kd.V_mono (ok' := (fun k_ => ((P0_6_ k_ ∨ P0_7_ k_ ∨ P1_6_ k_ ∨ P1_7_ k_) ∨ w.heap.size ≤ k_) ∧ k_ ≠ gb374 ∧ k_ ≠ gb375)) (HO0_7.out) (fun k_ hk => ⟨hk.1.1, ⟨hk.1.2, hk.2⟩⟩))))) (Reps.c9 (show Kd.FK k29 _ _ (⟨a1_0, (⟨a1_1, a1_2⟩ : S23), (⟨a1_3, a1_4⟩ : S25), a1_5, l1_6, l1_7, a1_8⟩ : S29) [.int .i64 a1_0, .int .i64 a1_1, .int .i64 a1_2, .int .i64 a1_3, .int .i64 a1_4, .int .i64 a1_5, .slice A1_6 l1_6.length c1_6, .slice A1_7 l1_7.length c1_7, .bool a1_8] from (k29_mkF _ _ (⟨a1_0, (⟨a1_1, a1_2⟩ : S23), (⟨a1_3, a1_4⟩ : S25), a1_5, l1_6, l1_7, a1_8⟩ : S29) (Kd.V_reads' (Kd.V_mono (ok' := (fun k_ => ((P0_6_ k_ ∨ P0_7_ k_ ∨ P1_6_ k_ ∨ P1_7_ k_) ∨ w.heap.size ≤ k_) ∧ k_ ≠ gb374 ∧ k_ ≠ gb375)) (HO1_6.out) (fun k_ hk => ⟨hk.1.1, ⟨hk.1.2, hk.2⟩⟩))).2.1 (Kd.V_F (Kd.V_mono (ok' := (fun k_ => ((P0_6_ k_ ∨ P0_7_ k_ ∨ P1_6_ k_ ∨ P1_7_ k_) ∨ w.heap.size ≤ k_) ∧ k_ ≠ gb374 ∧ k_ ≠ gb375)) (HO1_6.out) (fun k_ hk => ⟨hk.1.1, ⟨hk.1.2, hk.2⟩⟩))) (Kd.V_reads' (Kd.V_mono (ok' := (fun k_ => ((P0_6_ k_ ∨ P0_7_ k_ ∨ P1_6_ k_ ∨ P1_7_ k_) ∨ w.heap.size ≤ k_) ∧ k_ ≠ gb374 ∧ k_ ≠ gb375)) (HO1_7.out) (fun k_ hk => ⟨hk.1.1, ⟨hk.1.2, hk.2⟩⟩))).2.1 (Kd.V_F (Kd.V_mono (ok' := (fun k_ => ((P0_6_ k_ ∨ P0_7_ k_ ∨ P1_6_ k_ ∨ P1_7_ k_) ∨ w.heap.size ≤ k_) ∧ k_ ≠ gb374 ∧ k_ ≠ gb375)) (HO1_7.out) (fun k_ hk => ⟨hk.1.1, ⟨hk.1.2, hk.2⟩⟩))))) (Reps.none _ _)))); intro v377 w13 ho14 hb hg_ hnew_; clear hg_ hnew_; (first | rw [← Ny376.out] at ho14 | (simp only [Int.reduceToNat] at ho14; rw [← Ny376.out] at ho14)); have n0_ := Aside0.mk (Kd.V_elder' (by (with_reducible repeat (first | apply Kd.V_alloc | apply Kd.V_drewN | apply Kd.V_drew)); exact HO0_6.out) (Kd.N_base ho14) hb); have n1_ := Aside0.mk (Kd.V_elder' (by (with_reducible repeat (first | apply Kd.V_alloc | apply Kd.V_drewN | apply Kd.V_drew)); exact HO0_7.out) (Kd.N_base ho14) hb); have n2_ := Aside0.mk (Kd.V_elder' (by (with_reducible repeat (first | apply Kd.V_alloc | apply Kd.V_drewN | apply Kd.V_drew)); exact HO1_6.out) (Kd.N_base ho14) hb); have n3_ := Aside0.mk (Kd.V_elder' (by (with_reducible repeat (first | apply Kd.V_alloc | apply Kd.V_drewN | apply Kd.V_drew)); exact HO1_7.out) (Kd.N_base ho14) hb); have n4_ := Aside0.mk (Kd.N_lower ho14 (below_size (by repeat (first | (with_reducible first | exact HB.out | apply below_alloc | apply pw_below_drewN | apply below_drew1 | refine below_set ?_ GE374.out | refine below_set ?_ GE375.out) | exact HB.out)))); have n5_ := Aside0.mk (blk_below (g := gb374) (o := .cells #[.int .i64 a0_0, .int .i64 a0_1, .int .i64 a0_2, .int .i64 a0_3, .int .i64 a0_4, .int .i64 a0_5, .slice A0_6 l0_6.length c0_6, .slice A0_7 l0_7.length c0_7, .bool a0_8] 29 (0, 0)) (by (with_reducible repeat (first | refine blk_drewN ?_ _ | refine blk_drew ?_ | refine blk_alloc ?_ _)); exact BK374.out) hb); have n6_ := Aside0.mk (blk_below (g := gb375) (o := .cells #[.int .i64 a1_0, .int .i64 a1_1, .int .i64 a1_2, .int .i64 a1_3, .int .i64 a1_4, .int .i64 a1_5, .slice A1_6 l1_6.length c1_6, .slice A1_7 l1_7.length c1_7, .bool a1_8] 29 (0, 0)) (by (with_reducible repeat (first | refine blk_drewN ?_ _ | refine blk_drew ?_ | refine blk_alloc ?_ _)); exact BK375.out) hb); have n7_ := Aside0.mk (below_step (by repeat (first | (with_reducible first | exact HB.out | apply below_alloc | apply pw_below_drewN | apply below_drew1 | refine below_set ?_ GE374.out | refine below_set ?_ GE375.out) | exact HB.out)) hb); clear HO0_6; clear HO0_7; clear HO1_6; clear HO1_7; clear BK374; clear BK375; clear HB; have HO0_6 := n0_; have HO0_7 := n1_; have HO1_6 := n2_; have HO1_7 := n3_; have HO378 := n4_; have BK374 := n5_; have BK375 := n6_; have HB := n7_; clear n0_ n1_ n2_ n3_ n4_ n5_ n6_ n7_; clear hb ho14; obtain ⟨Ao15, co15, eo15⟩ := Kd.N_slice HO378.out; subst eo15) | ((with_reducible refine gate_callee (f := 8) rfl ?_); refine goesL_ (some 12) rfl rfl Try.func8 (by kernel_rfl) rfl #[.slice Ao15 y376.length co15] rfl (by (try simp only [List.map_toArray, List.map_cons, List.map_nil]); first | done | rfl | (simp only [List.length_drop, List.length_take]; rfl)) ?_; (with_reducible refine (althinglaw05_Few.calls k _ _ y376 true _ ?side1 ?side2 A4.out).mono ?_); (case side1 => repeat (first | exact (Kd.N_reads' HO378.out).2.2 | (with_reducible refine Kd.C_alloc ?_ _) | (with_reducible refine Kd.C_drewN ?_ _) | (with_reducible refine Kd.C_drew ?_))); (case side2 => exact (Kd.N_reads' HO378.out).2.1); rintro e w16 ⟨rfl, hb⟩; refine ⟨_, rfl, ?_⟩; have n0_ := Aside0.mk (Kd.V_below (by (with_reducible repeat (first | apply Kd.V_alloc | apply Kd.V_drewN | apply Kd.V_drew)); exact HO0_6.out) hb); have n1_ := Aside0.mk (Kd.V_below (by (with_reducible repeat (first | apply Kd.V_alloc | apply Kd.V_drewN | apply Kd.V_drew)); exact HO0_7.out) hb); have n2_ := Aside0.mk (Kd.V_below (by (with_reducible repeat (first | apply Kd.V_alloc | apply Kd.V_drewN | apply Kd.V_drew)); exact HO1_6.out) hb); have n3_ := Aside0.mk (Kd.V_below (by (with_reducible repeat (first | apply Kd.V_alloc | apply Kd.V_drewN | apply Kd.V_drew)); exact HO1_7.out) hb); have n4_ := Aside0.mk (Kd.N_below (by (with_reducible repeat (first | apply Kd.N_alloc | apply Kd.N_drewN | apply Kd.N_drew)); exact HO378.out) hb); have n5_ := Aside0.mk (blk_below (g := gb374) (o := .cells #[.int .i64 a0_0, .int .i64 a0_1, .int .i64 a0_2, .int .i64 a0_3, .int .i64 a0_4, .int .i64 a0_5, .slice A0_6 l0_6.length c0_6, .slice A0_7 l0_7.length c0_7, .bool a0_8] 29 (0, 0)) (by (with_reducible repeat (first | refine blk_drewN ?_ _ | refine blk_drew ?_ | refine blk_alloc ?_ _)); exact BK374.out) hb); have n6_ := Aside0.mk (blk_below (g := gb375) (o := .cells #[.int .i64 a1_0, .int .i64 a1_1, .int .i64 a1_2, .int .i64 a1_3, .int .i64 a1_4, .int .i64 a1_5, .slice A1_6 l1_6.length c1_6, .slice A1_7 l1_7.length c1_7, .bool a1_8] 29 (0, 0)) (by (with_reducible repeat (first | refine blk_drewN ?_ _ | refine blk_drew ?_ | refine blk_alloc ?_ _)); exact BK375.out) hb); have n7_ := Aside0.mk (below_step (by repeat (first | (with_reducible first | exact HB.out | apply below_alloc | apply pw_below_drewN | apply below_drew1 | refine below_set ?_ GE374.out | refine below_set ?_ GE375.out) | exact HB.out)) hb); clear HO0_6; clear HO0_7; clear HO1_6; clear HO1_7; clear HO378; clear BK374; clear BK375; clear HB; have HO0_6 := n0_; have HO0_7 := n1_; have HO1_6 := n2_; have HO1_7 := n3_; have HO378 := n4_; have BK374 := n5_; have BK375 := n6_; have HB := n7_; clear n0_ n1_ n2_ n3_ n4_ n5_ n6_ n7_; (try clear hb); (try clear hb2); (try clear hk); (try clear hi); have hcz17_0 : w16.cell? ⟨gb374, 0, none⟩ = some (.int .i64 a0_0) := (blk_cell BK374.out 0).trans rfl; have hcz17_1 : w16.cell? ⟨gb374, 1, none⟩ = some (.int .i64 a0_1) := (blk_cell BK374.out 1).trans rfl; have hcz17_2 : w16.cell? ⟨gb374, 2, none⟩ = some (.int .i64 a0_2) := (blk_cell BK374.out 2).trans rfl; have hcz17_3 : w16.cell? ⟨gb374, 3, none⟩ = some (.int .i64 a0_3) := (blk_cell BK374.out 3).trans rfl; have hcz17_4 : w16.cell? ⟨gb374, 4, none⟩ = some (.int .i64 a0_4) := (blk_cell BK374.out 4).trans rfl; have hcz17_5 : w16.cell? ⟨gb374, 5, none⟩ = some (.int .i64 a0_5) := (blk_cell BK374.out 5).trans rfl; have hcz17_6 : w16.cell? ⟨gb374, 6, none⟩ = some (.slice A0_6 l0_6.length c0_6) := (blk_cell BK374.out 6).trans rfl; have hcz17_7 : w16.cell? ⟨gb374, 7, none⟩ = some (.slice A0_7 l0_7.length c0_7) := (blk_cell BK374.out 7).trans rfl; have hcz17_8 : w16.cell? ⟨gb374, 8, none⟩ = some (.bool a0_8) := (blk_cell BK374.out 8).trans rfl; have hfz17_0 := blk_frozen BK374.out 0; have hfz17_1 := blk_frozen BK374.out 1; have hfz17_2 := blk_frozen BK374.out 2; have hfz17_3 := blk_frozen BK374.out 3; have hfz17_4 := blk_frozen BK374.out 4; have hfz17_5 := blk_frozen BK374.out 5; have hfz17_6 := blk_frozen BK374.out 6; have hfz17_7 := blk_frozen BK374.out 7; have hfz17_8 := blk_frozen BK374.out 8) | ((with_reducible refine gate_callee (f := 12) rfl ?_); refine goesL_ (some 18) rfl rfl Try.func12 (by kernel_rfl) rfl #[.agg #[.int .i64 a0_0, .int .i64 a0_1, .int .i64 a0_2, .int .i64 a0_3, .int .i64 a0_4, .int .i64 a0_5, .slice A0_6 l0_6.length c0_6, .slice A0_7 l0_7.length c0_7, .bool a0_8], .bool a2] rfl (by (try simp only [List.map_toArray, List.map_cons, List.map_nil]); first | done | rfl | (simp only [List.length_drop, List.length_take]; rfl)) ?_; (with_reducible refine (command_Decided.calls k a0_0 a0_1 a0_2 a0_3 a0_4 a0_5 _ _ l0_6 _ _ l0_7 a0_8 a2 t381 t382 t383 t384 t385 t386 t387 t390 t393 t394 _ ?side1 ?side2 ?side3 ?side4 A6.out).mono ?_); (case side1 => repeat (first | exact (Kd.V_reads' HO0_6.out).2.2 | (with_reducible refine Kd.C_alloc ?_ _) | (with_reducible refine Kd.C_drewN ?_ _) | (with_reducible refine Kd.C_drew ?_))); (case side2 => exact (Kd.V_reads' HO0_6.out).2.1); (case side3 => repeat (first | exact (Kd.V_reads' HO0_7.out).2.2 | (with_reducible refine Kd.C_alloc ?_ _) | (with_reducible refine Kd.C_drewN ?_ _) | (with_reducible refine Kd.C_drew ?_))); (case side4 => exact (Kd.V_reads' HO0_7.out).2.1); rintro e w18 ⟨v388, v391, rfl, ho0, ho1, hb⟩; refine ⟨_, rfl, ?_⟩; have n0_ := Aside0.mk (Kd.V_mono (Kd.V_told (Kd.V_told (Kd.V_old (by (with_reducible repeat (first | apply Kd.V_alloc | apply Kd.V_drewN | apply Kd.V_drew)); exact HO0_6.out) hb) (Kd.R_base ho0)) (Kd.R_base ho1)) (fun _ h_ => h_.1)); have n1_ := Aside0.mk (Kd.V_mono (Kd.V_told (Kd.V_told (Kd.V_old (by (with_reducible repeat (first | apply Kd.V_alloc | apply Kd.V_drewN | apply Kd.V_drew)); exact HO0_7.out) hb) (Kd.R_base ho0)) (Kd.R_base ho1)) (fun _ h_ => h_.1)); have n2_ := Aside0.mk (Kd.V_mono (Kd.V_told (Kd.V_told (Kd.V_old (by (with_reducible repeat (first | apply Kd.V_alloc | apply Kd.V_drewN | apply Kd.V_drew)); exact HO1_6.out) hb) (Kd.R_base ho0)) (Kd.R_base ho1)) (fun _ h_ => h_.1)); have n3_ := Aside0.mk (Kd.V_mono (Kd.V_told (Kd.V_told (Kd.V_old (by (with_reducible repeat (first | apply Kd.V_alloc | apply Kd.V_drewN | apply Kd.V_drew)); exact HO1_7.out) hb) (Kd.R_base ho0)) (Kd.R_base ho1)) (fun _ h_ => h_.1)); have n4_ := Aside0.mk (Kd.N_mono (Kd.N_told (Kd.N_told (Kd.N_old (by (with_reducible repeat (first | apply Kd.N_alloc | apply Kd.N_drewN | apply Kd.N_drew)); exact HO378.out) hb) (Kd.R_base ho0)) (Kd.R_base ho1)) (fun _ h_ => h_.1)); have n5_ := Aside0.mk (Kd.R_lower (Kd.R_newM (M := fun k_ => (w.heap.size ≤ k_)) ho0 (below_size (by repeat (first | (with_reducible first | exact HB.out | apply below_alloc | apply pw_below_drewN | apply below_drew1 | refine below_set ?_ GE374.out | refine below_set ?_ GE375.out) | exact HB.out))) (fun k_ h_ => h_)) (below_size (by repeat (first | (with_reducible first | exact HB.out | apply below_alloc | apply pw_below_drewN | apply below_drew1 | refine below_set ?_ GE374.out | refine below_set ?_ GE375.out) | exact HB.out)))); have n6_ := Aside0.mk (Kd.R_lower (Kd.R_newM (M := fun k_ => (w.heap.size ≤ k_)) ho1 (below_size (by repeat (first | (with_reducible first | exact HB.out | apply below_alloc | apply pw_below_drewN | apply below_drew1 | refine below_set ?_ GE374.out | refine below_set ?_ GE375.out) | exact HB.out))) (fun k_ h_ => h_)) (below_size (by repeat (first | (with_reducible first | exact HB.out | apply below_alloc | apply pw_below_drewN | apply below_drew1 | refine below_set ?_ GE374.out | refine below_set ?_ GE375.out) | exact HB.out)))); have n7_ := Aside0.mk (blk_below (g := gb374) (o := .cells #[.int .i64 a0_0, .int .i64 a0_1, .int .i64 a0_2, .int .i64 a0_3, .int .i64 a0_4, .int .i64 a0_5, .slice A0_6 l0_6.length c0_6, .slice A0_7 l0_7.length c0_7, .bool a0_8] 29 (0, 0)) (by (with_reducible repeat (first | refine blk_drewN ?_ _ | refine blk_drew ?_ | refine blk_alloc ?_ _)); exact BK374.out) hb); have n8_ := Aside0.mk (blk_below (g := gb375) (o := .cells #[.int .i64 a1_0, .int .i64 a1_1, .int .i64 a1_2, .int .i64 a1_3, .int .i64 a1_4, .int .i64 a1_5, .slice A1_6 l1_6.length c1_6, .slice A1_7 l1_7.length c1_7, .bool a1_8] 29 (0, 0)) (by (with_reducible repeat (first | refine blk_drewN ?_ _ | refine blk_drew ?_ | refine blk_alloc ?_ _)); exact BK375.out) hb); have n9_ := Aside0.mk (below_step (by repeat (first | (with_reducible first | exact HB.out | apply below_alloc | apply pw_below_drewN | apply below_drew1 | refine below_set ?_ GE374.out | refine below_set ?_ GE375.out) | exact HB.out)) hb); clear HO0_6; clear HO0_7; clear HO1_6; clear HO1_7; clear HO378; clear BK374; clear BK375; clear HB; have HO0_6 := n0_; have HO0_7 := n1_; have HO1_6 := n2_; have HO1_7 := n3_; have HO378 := n4_; have HO389 := n5_; have HO392 := n6_; have BK374 := n7_; have BK375 := n8_; have HB := n9_; clear n0_ n1_ n2_ n3_ n4_ n5_ n6_ n7_ n8_ n9_; (try clear hb); (try clear hb2); (try clear hk); (try clear hi); (try clear ho0); (try clear ho1)) | ((with_reducible refine gate_dst (N := 7) rfl ?_); refine box_event ?hg (N := 7) ?hd (cs := #[.int .i64 0, .int .i64 0, .int .i64 0, .int .i64 0, .int .i64 0, .int .i64 0, .slice none 0 0, .slice none 0 0, .bool false]) (t := 29) ?hr ?_; (case hd => rfl); (case hg => rfl); (case hr => first | (go_simp; done) | (go_simp; rfl)); intro gb395 hg w19 hbox hb; have n0_ := Aside0.mk (Kd.V_below (Kd.V_elderB (by (with_reducible repeat (first | apply Kd.V_alloc | apply Kd.V_drewN | apply Kd.V_drew)); exact HO0_6.out) gb395 (Nat.le_of_eq hg.symm)) hb); have n1_ := Aside0.mk (Kd.V_below (Kd.V_elderB (by (with_reducible repeat (first | apply Kd.V_alloc | apply Kd.V_drewN | apply Kd.V_drew)); exact HO0_7.out) gb395 (Nat.le_of_eq hg.symm)) hb); have n2_ := Aside0.mk (Kd.V_below (Kd.V_elderB (by (with_reducible repeat (first | apply Kd.V_alloc | apply Kd.V_drewN | apply Kd.V_drew)); exact HO1_6.out) gb395 (Nat.le_of_eq hg.symm)) hb); have n3_ := Aside0.mk (Kd.V_below (Kd.V_elderB (by (with_reducible repeat (first | apply Kd.V_alloc | apply Kd.V_drewN | apply Kd.V_drew)); exact HO1_7.out) gb395 (Nat.le_of_eq hg.symm)) hb); have n4_ := Aside0.mk (Kd.N_below (Kd.N_elderB (by (with_reducible repeat (first | apply Kd.N_alloc | apply Kd.N_drewN | apply Kd.N_drew)); exact HO378.out) gb395 (Nat.le_of_eq hg.symm)) hb); have n5_ := Aside0.mk (Kd.R_below (by (with_reducible repeat (first | apply Kd.R_alloc | apply Kd.R_drewN | apply Kd.R_drew)); exact HO389.out) hb); have n6_ := Aside0.mk (Kd.R_below (by (with_reducible repeat (first | apply Kd.R_alloc | apply Kd.R_drewN | apply Kd.R_drew)); exact HO392.out) hb); have n7_ := Aside0.mk (blk_below (g := gb374) (o := .cells #[.int .i64 a0_0, .int .i64 a0_1, .int .i64 a0_2, .int .i64 a0_3, .int .i64 a0_4, .int .i64 a0_5, .slice A0_6 l0_6.length c0_6, .slice A0_7 l0_7.length c0_7, .bool a0_8] 29 (0, 0)) (by (with_reducible repeat (first | refine blk_drewN ?_ _ | refine blk_drew ?_ | refine blk_alloc ?_ _)); exact BK374.out) hb); have n8_ := Aside0.mk (blk_below (g := gb375) (o := .cells #[.int .i64 a1_0, .int .i64 a1_1, .int .i64 a1_2, .int .i64 a1_3, .int .i64 a1_4, .int .i64 a1_5, .slice A1_6 l1_6.length c1_6, .slice A1_7 l1_7.length c1_7, .bool a1_8] 29 (0, 0)) (by (with_reducible repeat (first | refine blk_drewN ?_ _ | refine blk_drew ?_ | refine blk_alloc ?_ _)); exact BK375.out) hb); have n9_ := Aside0.mk (below_step (by repeat (first | (with_reducible first | exact HB.out | apply below_alloc | apply pw_below_drewN | apply below_drew1 | refine below_set ?_ GE374.out | refine below_set ?_ GE375.out) | exact HB.out)) hb); have n10_ := Aside0.mk (hbox); have n11_ := Aside0.mk ((by rw [hg]; exact (below_size (by repeat (first | (with_reducible first | exact HB.out | apply below_alloc | apply pw_below_drewN | apply below_drew1 | refine below_set ?_ GE374.out | refine below_set ?_ GE375.out) | exact HB.out))) : w.heap.size ≤ gb395)); have n12_ := Aside0.mk ((by rw [hg]; exact (below_size (by repeat (first | (with_reducible first | exact HB.out | apply below_alloc | apply pw_below_drewN | apply below_drew1 | refine below_set ?_ GE374.out | refine below_set ?_ GE375.out) | exact HB.out))) : w.heap.size ≤ gb395)); have n13_ := Aside0.mk ((by rw [hg]; exact Nat.ne_of_lt (blk_lt (g := gb374) (o := .cells #[.int .i64 a0_0, .int .i64 a0_1, .int .i64 a0_2, .int .i64 a0_3, .int .i64 a0_4, .int .i64 a0_5, .slice A0_6 l0_6.length c0_6, .slice A0_7 l0_7.length c0_7, .bool a0_8] 29 (0, 0)) (by (with_reducible repeat (first | refine blk_drewN ?_ _ | refine blk_drew ?_ | refine blk_alloc ?_ _)); exact BK374.out)) : gb374 ≠ gb395)); have n14_ := Aside0.mk ((by rw [hg]; exact Nat.ne_of_gt (blk_lt (g := gb374) (o := .cells #[.int .i64 a0_0, .int .i64 a0_1, .int .i64 a0_2, .int .i64 a0_3, .int .i64 a0_4, .int .i64 a0_5, .slice A0_6 l0_6.length c0_6, .slice A0_7 l0_7.length c0_7, .bool a0_8] 29 (0, 0)) (by (with_reducible repeat (first | refine blk_drewN ?_ _ | refine blk_drew ?_ | refine blk_alloc ?_ _)); exact BK374.out)) : gb395 ≠ gb374)); have n15_ := Aside0.mk ((by rw [hg]; exact Nat.ne_of_lt (blk_lt (g := gb375) (o := .cells #[.int .i64 a1_0, .int .i64 a1_1, .int .i64 a1_2, .int .i64 a1_3, .int .i64 a1_4, .int .i64 a1_5, .slice A1_6 l1_6.length c1_6, .slice A1_7 l1_7.length c1_7, .bool a1_8] 29 (0, 0)) (by (with_reducible repeat (first | refine blk_drewN ?_ _ | refine blk_drew ?_ | refine blk_alloc ?_ _)); exact BK375.out)) : gb375 ≠ gb395)); have n16_ := Aside0.mk ((by rw [hg]; exact Nat.ne_of_gt (blk_lt (g := gb375) (o := .cells #[.int .i64 a1_0, .int .i64 a1_1, .int .i64 a1_2, .int .i64 a1_3, .int .i64 a1_4, .int .i64 a1_5, .slice A1_6 l1_6.length c1_6, .slice A1_7 l1_7.length c1_7, .bool a1_8] 29 (0, 0)) (by (with_reducible repeat (first | refine blk_drewN ?_ _ | refine blk_drew ?_ | refine blk_alloc ?_ _)); exact BK375.out)) : gb395 ≠ gb375)); clear HO0_6; clear HO0_7; clear HO1_6; clear HO1_7; clear HO378; clear HO389; clear HO392; clear BK374; clear BK375; clear HB; have HO0_6 := n0_; have HO0_7 := n1_; have HO1_6 := n2_; have HO1_7 := n3_; have HO378 := n4_; have HO389 := n5_; have HO392 := n6_; have BK374 := n7_; have BK375 := n8_; have HB := n9_; have BK395 := n10_; have GW395 := n11_; have GE395 := n12_; have NB374_395 := n13_; have NB395_374 := n14_; have NB375_395 := n15_; have NB395_375 := n16_; clear n0_ n1_ n2_ n3_ n4_ n5_ n6_ n7_ n8_ n9_ n10_ n11_ n12_ n13_ n14_ n15_ n16_; clear hb hbox hg; have hnb20 := NB395_374.out; have hnc20 := NB374_395.out; have hnb21 := NB395_375.out; have hnc21 := NB375_395.out; have hcz22_0 : w19.cell? ⟨gb395, 0, none⟩ = some (.int .i64 0) := (blk_cell BK395.out 0).trans rfl; have hcz22_1 : w19.cell? ⟨gb395, 1, none⟩ = some (.int .i64 0) := (blk_cell BK395.out 1).trans rfl; have hcz22_2 : w19.cell? ⟨gb395, 2, none⟩ = some (.int .i64 0) := (blk_cell BK395.out 2).trans rfl; have hcz22_3 : w19.cell? ⟨gb395, 3, none⟩ = some (.int .i64 0) := (blk_cell BK395.out 3).trans rfl; have hcz22_4 : w19.cell? ⟨gb395, 4, none⟩ = some (.int .i64 0) := (blk_cell BK395.out 4).trans rfl; have hcz22_5 : w19.cell? ⟨gb395, 5, none⟩ = some (.int .i64 0) := (blk_cell BK395.out 5).trans rfl; have hcz22_6 : w19.cell? ⟨gb395, 6, none⟩ = some (.slice none 0 0) := (blk_cell BK395.out 6).trans rfl; have hcz22_7 : w19.cell? ⟨gb395, 7, none⟩ = some (.slice none 0 0) := (blk_cell BK395.out 7).trans rfl; have hcz22_8 : w19.cell? ⟨gb395, 8, none⟩ = some (.bool false) := (blk_cell BK395.out 8).trans rfl; have hfz22_0 := blk_frozen BK395.out 0; have hfz22_1 := blk_frozen BK395.out 1; have hfz22_2 := blk_frozen BK395.out 2; have hfz22_3 := blk_frozen BK395.out 3; have hfz22_4 := blk_frozen BK395.out 4; have hfz22_5 := blk_frozen BK395.out 5; have hfz22_6 := blk_frozen BK395.out 6; have hfz22_7 := blk_frozen BK395.out 7; have hfz22_8 := blk_frozen BK395.out 8; obtain ⟨Ao23, co23, eo23⟩ := Kd.R_slice HO389.out; subst eo23; obtain ⟨Ao24, co24, eo24⟩ := Kd.R_slice HO392.out; subst eo24) | ((with_reducible refine gate_store (t := 29) (p := 7) rfl ?_); refine store_event (t := 29) (p := 7) (v := ?vo_w25) (w1 := (((((((((w19.setCell ⟨gb395, 0, none⟩ (.int .i64 t381)).setCell ⟨gb395, 1, none⟩ (.int .i64 t382)).setCell ⟨gb395, 2, none⟩ (.int .i64 t383)).setCell ⟨gb395, 3, none⟩ (.int .i64 t384)).setCell ⟨gb395, 4, none⟩ (.int .i64 t385)).setCell ⟨gb395, 5, none⟩ (.int .i64 t386)).setCell ⟨gb395, 6, none⟩ (.slice Ao23 t387.length co23)).setCell ⟨gb395, 7, none⟩ (.slice Ao24 t390.length co24)).setCell ⟨gb395, 8, none⟩ (.bool t393))) ?hg ?ho ?hn ?hr ?_; (case ho => rfl); (case hg => rfl); (case hn => rfl); (case hr => first | (go_simp; done) | (go_simp; rfl)); intro w25 hw; have n0_ : Aside0 (Kd.V k38 38 w25 w.heap.size (fun k_ => ((P0_6_ k_ ∨ P0_7_ k_ ∨ P1_6_ k_ ∨ P1_7_ k_) ∨ w.heap.size ≤ k_) ∧ some k_ ≠ (.slice Ao15 y376.length co15 : Value).ownBlock ∧ some k_ ≠ (.slice Ao23 t387.length co23 : Value).ownBlock ∧ some k_ ≠ (.slice Ao24 t390.length co24 : Value).ownBlock ∧ k_ ≠ gb374 ∧ k_ ≠ gb375 ∧ k_ ≠ gb395) (.slice A0_6 l0_6.length c0_6) l0_6) := ⟨(by rw [hw]; exact (by (with_reducible repeat (first | apply Kd.V_alloc | apply Kd.V_drewN | apply Kd.V_drew)); exact Kd.V_mono (Kd.V_far (p := ⟨gb395, 8, none⟩) (Kd.V_far (p := ⟨gb395, 7, none⟩) (Kd.V_far (p := ⟨gb395, 6, none⟩) (Kd.V_far (p := ⟨gb395, 5, none⟩) (Kd.V_far (p := ⟨gb395, 4, none⟩) (Kd.V_far (p := ⟨gb395, 3, none⟩) (Kd.V_far (p := ⟨gb395, 2, none⟩) (Kd.V_far (p := ⟨gb395, 1, none⟩) (Kd.V_far (p := ⟨gb395, 0, none⟩) (Kd.V_mono HO0_6.out (fun k_ hk => (⟨hk, hk.2⟩ : _ ∧ k_ ≠ gb395))) (fun _ hk => hk.2) (.int .i64 t381)) (fun _ hk => hk.2) (.int .i64 t382)) (fun _ hk => hk.2) (.int .i64 t383)) (fun _ hk => hk.2) (.int .i64 t384)) (fun _ hk => hk.2) (.int .i64 t385)) (fun _ hk => hk.2) (.int .i64 t386)) (fun _ hk => hk.2) (.slice Ao23 t387.length co23)) (fun _ hk => hk.2) (.slice Ao24 t390.length co24)) (fun _ hk => hk.2) (.bool t393)) (fun _ hk => ⟨hk.1.1.1.1.1.1.1, ⟨hk.1.1.1.1.2, ⟨hk.1.1.1.2, ⟨hk.1.1.2, ⟨hk.1.1.1.1.1.1.2, ⟨hk.1.1.1.1.1.2, hk.1.2⟩⟩⟩⟩⟩⟩)))⟩; have n1_ : Aside0 (Kd.V k40 40 w25 w.heap.size (fun k_ => ((P0_6_ k_ ∨ P0_7_ k_ ∨ P1_6_ k_ ∨ P1_7_ k_) ∨ w.heap.size ≤ k_) ∧ some k_ ≠ (.slice Ao15 y376.length co15 : Value).ownBlock ∧ some k_ ≠ (.slice Ao23 t387.length co23 : Value).ownBlock ∧ some k_ ≠ (.slice Ao24 t390.length co24 : Value).ownBlock ∧ k_ ≠ gb374 ∧ k_ ≠ gb375 ∧ k_ ≠ gb395) (.slice A0_7 l0_7.length c0_7) l0_7) := ⟨(by rw [hw]; exact (by (with_reducible repeat (first | apply Kd.V_alloc | apply Kd.V_drewN | apply Kd.V_drew)); exact Kd.V_mono (Kd.V_far (p := ⟨gb395, 8, none⟩) (Kd.V_far (p := ⟨gb395, 7, none⟩) (Kd.V_far (p := ⟨gb395, 6, none⟩) (Kd.V_far (p := ⟨gb395, 5, none⟩) (Kd.V_far (p := ⟨gb395, 4, none⟩) (Kd.V_far (p := ⟨gb395, 3, none⟩) (Kd.V_far (p := ⟨gb395, 2, none⟩) (Kd.V_far (p := ⟨gb395, 1, none⟩) (Kd.V_far (p := ⟨gb395, 0, none⟩) (Kd.V_mono HO0_7.out (fun k_ hk => (⟨hk, hk.2⟩ : _ ∧ k_ ≠ gb395))) (fun _ hk => hk.2) (.int .i64 t381)) (fun _ hk => hk.2) (.int .i64 t382)) (fun _ hk => hk.2) (.int .i64 t383)) (fun _ hk => hk.2) (.int .i64 t384)) (fun _ hk => hk.2) (.int .i64 t385)) (fun _ hk => hk.2) (.int .i64 t386)) (fun _ hk => hk.2) (.slice Ao23 t387.length co23)) (fun _ hk => hk.2) (.slice Ao24 t390.length co24)) (fun _ hk => hk.2) (.bool t393)) (fun _ hk => ⟨hk.1.1.1.1.1.1.1, ⟨hk.1.1.1.1.2, ⟨hk.1.1.1.2, ⟨hk.1.1.2, ⟨hk.1.1.1.1.1.1.2, ⟨hk.1.1.1.1.1.2, hk.1.2⟩⟩⟩⟩⟩⟩)))⟩; have n2_ : Aside0 (Kd.V k38 38 w25 w.heap.size (fun k_ => ((P0_6_ k_ ∨ P0_7_ k_ ∨ P1_6_ k_ ∨ P1_7_ k_) ∨ w.heap.size ≤ k_) ∧ some k_ ≠ (.slice Ao15 y376.length co15 : Value).ownBlock ∧ some k_ ≠ (.slice Ao23 t387.length co23 : Value).ownBlock ∧ some k_ ≠ (.slice Ao24 t390.length co24 : Value).ownBlock ∧ k_ ≠ gb374 ∧ k_ ≠ gb375 ∧ k_ ≠ gb395) (.slice A1_6 l1_6.length c1_6) l1_6) := ⟨(by rw [hw]; exact (by (with_reducible repeat (first | apply Kd.V_alloc | apply Kd.V_drewN | apply Kd.V_drew)); exact Kd.V_mono (Kd.V_far (p := ⟨gb395, 8, none⟩) (Kd.V_far (p := ⟨gb395, 7, none⟩) (Kd.V_far (p := ⟨gb395, 6, none⟩) (Kd.V_far (p := ⟨gb395, 5, none⟩) (Kd.V_far (p := ⟨gb395, 4, none⟩) (Kd.V_far (p := ⟨gb395, 3, none⟩) (Kd.V_far (p := ⟨gb395, 2, none⟩) (Kd.V_far (p := ⟨gb395, 1, none⟩) (Kd.V_far (p := ⟨gb395, 0, none⟩) (Kd.V_mono HO1_6.out (fun k_ hk => (⟨hk, hk.2⟩ : _ ∧ k_ ≠ gb395))) (fun _ hk => hk.2) (.int .i64 t381)) (fun _ hk => hk.2) (.int .i64 t382)) (fun _ hk => hk.2) (.int .i64 t383)) (fun _ hk => hk.2) (.int .i64 t384)) (fun _ hk => hk.2) (.int .i64 t385)) (fun _ hk => hk.2) (.int .i64 t386)) (fun _ hk => hk.2) (.slice Ao23 t387.length co23)) (fun _ hk => hk.2) (.slice Ao24 t390.length co24)) (fun _ hk => hk.2) (.bool t393)) (fun _ hk => ⟨hk.1.1.1.1.1.1.1, ⟨hk.1.1.1.1.2, ⟨hk.1.1.1.2, ⟨hk.1.1.2, ⟨hk.1.1.1.1.1.1.2, ⟨hk.1.1.1.1.1.2, hk.1.2⟩⟩⟩⟩⟩⟩)))⟩; have n3_ : Aside0 (Kd.V k40 40 w25 w.heap.size (fun k_ => ((P0_6_ k_ ∨ P0_7_ k_ ∨ P1_6_ k_ ∨ P1_7_ k_) ∨ w.heap.size ≤ k_) ∧ some k_ ≠ (.slice Ao15 y376.length co15 : Value).ownBlock ∧ some k_ ≠ (.slice Ao23 t387.length co23 : Value).ownBlock ∧ some k_ ≠ (.slice Ao24 t390.length co24 : Value).ownBlock ∧ k_ ≠ gb374 ∧ k_ ≠ gb375 ∧ k_ ≠ gb395) (.slice A1_7 l1_7.length c1_7) l1_7) := ⟨(by rw [hw]; exact (by (with_reducible repeat (first | apply Kd.V_alloc | apply Kd.V_drewN | apply Kd.V_drew)); exact Kd.V_mono (Kd.V_far (p := ⟨gb395, 8, none⟩) (Kd.V_far (p := ⟨gb395, 7, none⟩) (Kd.V_far (p := ⟨gb395, 6, none⟩) (Kd.V_far (p := ⟨gb395, 5, none⟩) (Kd.V_far (p := ⟨gb395, 4, none⟩) (Kd.V_far (p := ⟨gb395, 3, none⟩) (Kd.V_far (p := ⟨gb395, 2, none⟩) (Kd.V_far (p := ⟨gb395, 1, none⟩) (Kd.V_far (p := ⟨gb395, 0, none⟩) (Kd.V_mono HO1_7.out (fun k_ hk => (⟨hk, hk.2⟩ : _ ∧ k_ ≠ gb395))) (fun _ hk => hk.2) (.int .i64 t381)) (fun _ hk => hk.2) (.int .i64 t382)) (fun _ hk => hk.2) (.int .i64 t383)) (fun _ hk => hk.2) (.int .i64 t384)) (fun _ hk => hk.2) (.int .i64 t385)) (fun _ hk => hk.2) (.int .i64 t386)) (fun _ hk => hk.2) (.slice Ao23 t387.length co23)) (fun _ hk => hk.2) (.slice Ao24 t390.length co24)) (fun _ hk => hk.2) (.bool t393)) (fun _ hk => ⟨hk.1.1.1.1.1.1.1, ⟨hk.1.1.1.1.2, ⟨hk.1.1.1.2, ⟨hk.1.1.2, ⟨hk.1.1.1.1.1.1.2, ⟨hk.1.1.1.1.1.2, hk.1.2⟩⟩⟩⟩⟩⟩)))⟩; have n4_ : Aside0 (Kd.N k29 29 w25 w.heap.size (fun k_ => ((P0_6_ k_ ∨ P0_7_ k_ ∨ P1_6_ k_ ∨ P1_7_ k_) ∨ w.heap.size ≤ k_) ∧ some k_ ≠ (.slice Ao23 t387.length co23 : Value).ownBlock ∧ some k_ ≠ (.slice Ao24 t390.length co24 : Value).ownBlock ∧ k_ ≠ gb374 ∧ k_ ≠ gb375 ∧ k_ ≠ gb395) (.slice Ao15 y376.length co15) y376) := ⟨(by rw [hw]; exact (by (with_reducible repeat (first | apply Kd.N_alloc | apply Kd.N_drewN | apply Kd.N_drew)); exact Kd.N_mono (Kd.N_far (p := ⟨gb395, 8, none⟩) (Kd.N_far (p := ⟨gb395, 7, none⟩) (Kd.N_far (p := ⟨gb395, 6, none⟩) (Kd.N_far (p := ⟨gb395, 5, none⟩) (Kd.N_far (p := ⟨gb395, 4, none⟩) (Kd.N_far (p := ⟨gb395, 3, none⟩) (Kd.N_far (p := ⟨gb395, 2, none⟩) (Kd.N_far (p := ⟨gb395, 1, none⟩) (Kd.N_far (p := ⟨gb395, 0, none⟩) (Kd.N_mono HO378.out (fun k_ hk => (⟨hk, hk.2⟩ : _ ∧ k_ ≠ gb395))) (fun _ hk => hk.2) (.int .i64 t381)) (fun _ hk => hk.2) (.int .i64 t382)) (fun _ hk => hk.2) (.int .i64 t383)) (fun _ hk => hk.2) (.int .i64 t384)) (fun _ hk => hk.2) (.int .i64 t385)) (fun _ hk => hk.2) (.int .i64 t386)) (fun _ hk => hk.2) (.slice Ao23 t387.length co23)) (fun _ hk => hk.2) (.slice Ao24 t390.length co24)) (fun _ hk => hk.2) (.bool t393)) (fun _ hk => ⟨hk.1.1.1.1.1, ⟨hk.1.1.1.2, ⟨hk.1.1.2, ⟨hk.1.1.1.1.2.1, ⟨hk.1.1.1.1.2.2, hk.1.2⟩⟩⟩⟩⟩)))⟩; have n5_ : Aside0 (Kd.R k38 38 w25 w.heap.size (fun k_ => (w.heap.size ≤ k_)) (.slice Ao23 t387.length co23) t387) := ⟨(by rw [hw]; exact (by (with_reducible repeat (first | apply Kd.R_alloc | apply Kd.R_drewN | apply Kd.R_drew)); exact Kd.R_mono (Kd.R_far (p := ⟨gb395, 8, none⟩) (Kd.R_far (p := ⟨gb395, 7, none⟩) (Kd.R_far (p := ⟨gb395, 6, none⟩) (Kd.R_far (p := ⟨gb395, 5, none⟩) (Kd.R_far (p := ⟨gb395, 4, none⟩) (Kd.R_far (p := ⟨gb395, 3, none⟩) (Kd.R_far (p := ⟨gb395, 2, none⟩) (Kd.R_far (p := ⟨gb395, 1, none⟩) (Kd.R_far (p := ⟨gb395, 0, none⟩) (Kd.R_types HO389.out BK395.out (by decide)) (fun _ hk => hk.2) (.int .i64 t381)) (fun _ hk => hk.2) (.int .i64 t382)) (fun _ hk => hk.2) (.int .i64 t383)) (fun _ hk => hk.2) (.int .i64 t384)) (fun _ hk => hk.2) (.int .i64 t385)) (fun _ hk => hk.2) (.int .i64 t386)) (fun _ hk => hk.2) (.slice Ao23 t387.length co23)) (fun _ hk => hk.2) (.slice Ao24 t390.length co24)) (fun _ hk => hk.2) (.bool t393)) (fun _ hk => hk.1.1)))⟩; have n6_ : Aside0 (Kd.R k40 40 w25 w.heap.size (fun k_ => (w.heap.size ≤ k_)) (.slice Ao24 t390.length co24) t390) := ⟨(by rw [hw]; exact (by (with_reducible repeat (first | apply Kd.R_alloc | apply Kd.R_drewN | apply Kd.R_drew)); exact Kd.R_mono (Kd.R_far (p := ⟨gb395, 8, none⟩) (Kd.R_far (p := ⟨gb395, 7, none⟩) (Kd.R_far (p := ⟨gb395, 6, none⟩) (Kd.R_far (p := ⟨gb395, 5, none⟩) (Kd.R_far (p := ⟨gb395, 4, none⟩) (Kd.R_far (p := ⟨gb395, 3, none⟩) (Kd.R_far (p := ⟨gb395, 2, none⟩) (Kd.R_far (p := ⟨gb395, 1, none⟩) (Kd.R_far (p := ⟨gb395, 0, none⟩) (Kd.R_types HO392.out BK395.out (by decide)) (fun _ hk => hk.2) (.int .i64 t381)) (fun _ hk => hk.2) (.int .i64 t382)) (fun _ hk => hk.2) (.int .i64 t383)) (fun _ hk => hk.2) (.int .i64 t384)) (fun _ hk => hk.2) (.int .i64 t385)) (fun _ hk => hk.2) (.int .i64 t386)) (fun _ hk => hk.2) (.slice Ao23 t387.length co23)) (fun _ hk => hk.2) (.slice Ao24 t390.length co24)) (fun _ hk => hk.2) (.bool t393)) (fun _ hk => hk.1.1)))⟩; have n7_ : Aside0 (w25.heap[gb374]? = some (.cells #[.int .i64 a0_0, .int .i64 a0_1, .int .i64 a0_2, .int .i64 a0_3, .int .i64 a0_4, .int .i64 a0_5, .slice A0_6 l0_6.length c0_6, .slice A0_7 l0_7.length c0_7, .bool a0_8] 29 (0, 0))) := ⟨(by rw [hw]; exact (by (with_reducible repeat (first | refine blk_drewN ?_ _ | refine blk_drew ?_ | refine blk_alloc ?_ _)); refine blk_far ?_ NB374_395.out _; (with_reducible repeat (first | refine blk_drewN ?_ _ | refine blk_drew ?_ | refine blk_alloc ?_ _)); refine blk_far ?_ NB374_395.out _; (with_reducible repeat (first | refine blk_drewN ?_ _ | refine blk_drew ?_ | refine blk_alloc ?_ _)); refine blk_far ?_ NB374_395.out _; (with_reducible repeat (first | refine blk_drewN ?_ _ | refine blk_drew ?_ | refine blk_alloc ?_ _)); refine blk_far ?_ NB374_395.out _; (with_reducible repeat (first | refine blk_drewN ?_ _ | refine blk_drew ?_ | refine blk_alloc ?_ _)); refine blk_far ?_ NB374_395.out _; (with_reducible repeat (first | refine blk_drewN ?_ _ | refine blk_drew ?_ | refine blk_alloc ?_ _)); refine blk_far ?_ NB374_395.out _; (with_reducible repeat (first | refine blk_drewN ?_ _ | refine blk_drew ?_ | refine blk_alloc ?_ _)); refine blk_far ?_ NB374_395.out _; (with_reducible repeat (first | refine blk_drewN ?_ _ | refine blk_drew ?_ | refine blk_alloc ?_ _)); refine blk_far ?_ NB374_395.out _; (with_reducible repeat (first | refine blk_drewN ?_ _ | refine blk_drew ?_ | refine blk_alloc ?_ _)); refine blk_far ?_ NB374_395.out _; (with_reducible repeat (first | refine blk_drewN ?_ _ | refine blk_drew ?_ | refine blk_alloc ?_ _)); exact BK374.out))⟩; have n8_ : Aside0 (w25.heap[gb375]? = some (.cells #[.int .i64 a1_0, .int .i64 a1_1, .int .i64 a1_2, .int .i64 a1_3, .int .i64 a1_4, .int .i64 a1_5, .slice A1_6 l1_6.length c1_6, .slice A1_7 l1_7.length c1_7, .bool a1_8] 29 (0, 0))) := ⟨(by rw [hw]; exact (by (with_reducible repeat (first | refine blk_drewN ?_ _ | refine blk_drew ?_ | refine blk_alloc ?_ _)); refine blk_far ?_ NB375_395.out _; (with_reducible repeat (first | refine blk_drewN ?_ _ | refine blk_drew ?_ | refine blk_alloc ?_ _)); refine blk_far ?_ NB375_395.out _; (with_reducible repeat (first | refine blk_drewN ?_ _ | refine blk_drew ?_ | refine blk_alloc ?_ _)); refine blk_far ?_ NB375_395.out _; (with_reducible repeat (first | refine blk_drewN ?_ _ | refine blk_drew ?_ | refine blk_alloc ?_ _)); refine blk_far ?_ NB375_395.out _; (with_reducible repeat (first | refine blk_drewN ?_ _ | refine blk_drew ?_ | refine blk_alloc ?_ _)); refine blk_far ?_ NB375_395.out _; (with_reducible repeat (first | refine blk_drewN ?_ _ | refine blk_drew ?_ | refine blk_alloc ?_ _)); refine blk_far ?_ NB375_395.out _; (with_reducible repeat (first | refine blk_drewN ?_ _ | refine blk_drew ?_ | refine blk_alloc ?_ _)); refine blk_far ?_ NB375_395.out _; (with_reducible repeat (first | refine blk_drewN ?_ _ | refine blk_drew ?_ | refine blk_alloc ?_ _)); refine blk_far ?_ NB375_395.out _; (with_reducible repeat (first | refine blk_drewN ?_ _ | refine blk_drew ?_ | refine blk_alloc ?_ _)); refine blk_far ?_ NB375_395.out _; (with_reducible repeat (first | refine blk_drewN ?_ _ | refine blk_drew ?_ | refine blk_alloc ?_ _)); exact BK375.out))⟩; have n9_ : Aside0 (w25.heap[gb395]? = some (.cells #[.int .i64 t381, .int .i64 t382, .int .i64 t383, .int .i64 t384, .int .i64 t385, .int .i64 t386, .slice Ao23 t387.length co23, .slice Ao24 t390.length co24, .bool t393] 29 (0, 0))) := ⟨(by rw [hw]; exact (by (with_reducible repeat (first | refine blk_drewN ?_ _ | refine blk_drew ?_ | refine blk_alloc ?_ _)); refine blk_put (cs := #[.int .i64 t381, .int .i64 t382, .int .i64 t383, .int .i64 t384, .int .i64 t385, .int .i64 t386, .slice Ao23 t387.length co23, .slice Ao24 t390.length co24, .bool false]) ?_ 8 _ rfl; (with_reducible repeat (first | refine blk_drewN ?_ _ | refine blk_drew ?_ | refine blk_alloc ?_ _)); refine blk_put (cs := #[.int .i64 t381, .int .i64 t382, .int .i64 t383, .int .i64 t384, .int .i64 t385, .int .i64 t386, .slice Ao23 t387.length co23, .slice none 0 0, .bool false]) ?_ 7 _ rfl; (with_reducible repeat (first | refine blk_drewN ?_ _ | refine blk_drew ?_ | refine blk_alloc ?_ _)); refine blk_put (cs := #[.int .i64 t381, .int .i64 t382, .int .i64 t383, .int .i64 t384, .int .i64 t385, .int .i64 t386, .slice none 0 0, .slice none 0 0, .bool false]) ?_ 6 _ rfl; (with_reducible repeat (first | refine blk_drewN ?_ _ | refine blk_drew ?_ | refine blk_alloc ?_ _)); refine blk_put (cs := #[.int .i64 t381, .int .i64 t382, .int .i64 t383, .int .i64 t384, .int .i64 t385, .int .i64 0, .slice none 0 0, .slice none 0 0, .bool false]) ?_ 5 _ rfl; (with_reducible repeat (first | refine blk_drewN ?_ _ | refine blk_drew ?_ | refine blk_alloc ?_ _)); refine blk_put (cs := #[.int .i64 t381, .int .i64 t382, .int .i64 t383, .int .i64 t384, .int .i64 0, .int .i64 0, .slice none 0 0, .slice none 0 0, .bool false]) ?_ 4 _ rfl; (with_reducible repeat (first | refine blk_drewN ?_ _ | refine blk_drew ?_ | refine blk_alloc ?_ _)); refine blk_put (cs := #[.int .i64 t381, .int .i64 t382, .int .i64 t383, .int .i64 0, .int .i64 0, .int .i64 0, .slice none 0 0, .slice none 0 0, .bool false]) ?_ 3 _ rfl; (with_reducible repeat (first | refine blk_drewN ?_ _ | refine blk_drew ?_ | refine blk_alloc ?_ _)); refine blk_put (cs := #[.int .i64 t381, .int .i64 t382, .int .i64 0, .int .i64 0, .int .i64 0, .int .i64 0, .slice none 0 0, .slice none 0 0, .bool false]) ?_ 2 _ rfl; (with_reducible repeat (first | refine blk_drewN ?_ _ | refine blk_drew ?_ | refine blk_alloc ?_ _)); refine blk_put (cs := #[.int .i64 t381, .int .i64 0, .int .i64 0, .int .i64 0, .int .i64 0, .int .i64 0, .slice none 0 0, .slice none 0 0, .bool false]) ?_ 1 _ rfl; (with_reducible repeat (first | refine blk_drewN ?_ _ | refine blk_drew ?_ | refine blk_alloc ?_ _)); refine blk_put (cs := #[.int .i64 0, .int .i64 0, .int .i64 0, .int .i64 0, .int .i64 0, .int .i64 0, .slice none 0 0, .slice none 0 0, .bool false]) ?_ 0 _ rfl; (with_reducible repeat (first | refine blk_drewN ?_ _ | refine blk_drew ?_ | refine blk_alloc ?_ _)); exact BK395.out))⟩; have n10_ : Aside0 (Below w.heap.size w w25) := ⟨(by rw [hw]; exact (by repeat (first | (with_reducible first | exact HB.out | apply below_alloc | apply pw_below_drewN | apply below_drew1 | refine below_set ?_ GE374.out | refine below_set ?_ GE375.out | refine below_set ?_ GE395.out) | exact HB.out)))⟩; clear hw; clear HO0_6; clear HO0_7; clear HO1_6; clear HO1_7; clear HO378; clear HO389; clear HO392; clear BK374; clear BK375; clear BK395; clear HB; have HO0_6 := n0_; have HO0_7 := n1_; have HO1_6 := n2_; have HO1_7 := n3_; have HO378 := n4_; have HO389 := n5_; have HO392 := n6_; have BK374 := n7_; have BK375 := n8_; have BK395 := n9_; have HB := n10_; clear n0_ n1_ n2_ n3_ n4_ n5_ n6_ n7_ n8_ n9_ n10_))
    (try simp only [Act.put, List.setIfInBounds_toArray, List.set_cons_zero, List.set_cons_succ])
    go_cut [33] (fun v33 wc => ∃ (kq : Nat) (x33_6 : Bool), v33 = .bool x33_6 ∧ Aside0 (althinglaw05_CommandMeets.j0 kq x33_6 a0_0 a0_1 a0_2 a0_3 a0_4 a0_5 l0_6 l0_7 a0_8 a1_0 a1_1 a1_2 a1_3 a1_4 a1_5 l1_6 l1_7 a1_8 = some r) ∧ Aside0 (kq ≤ k) ∧ Aside0 (Kd.V k38 38 wc w.heap.size (fun k_ => ((P0_6_ k_ ∨ P0_7_ k_ ∨ P1_6_ k_ ∨ P1_7_ k_) ∨ w.heap.size ≤ k_) ∧ some k_ ≠ ((.slice Ao23 t387.length co23) : Value).ownBlock ∧ some k_ ≠ ((.slice Ao24 t390.length co24) : Value).ownBlock ∧ k_ ≠ gb374 ∧ k_ ≠ gb375 ∧ k_ ≠ gb395) (.slice A0_6 l0_6.length c0_6) l0_6) ∧ Aside0 (Kd.V k40 40 wc w.heap.size (fun k_ => ((P0_6_ k_ ∨ P0_7_ k_ ∨ P1_6_ k_ ∨ P1_7_ k_) ∨ w.heap.size ≤ k_) ∧ some k_ ≠ ((.slice Ao23 t387.length co23) : Value).ownBlock ∧ some k_ ≠ ((.slice Ao24 t390.length co24) : Value).ownBlock ∧ k_ ≠ gb374 ∧ k_ ≠ gb375 ∧ k_ ≠ gb395) (.slice A0_7 l0_7.length c0_7) l0_7) ∧ Aside0 (Kd.V k38 38 wc w.heap.size (fun k_ => ((P0_6_ k_ ∨ P0_7_ k_ ∨ P1_6_ k_ ∨ P1_7_ k_) ∨ w.heap.size ≤ k_) ∧ some k_ ≠ ((.slice Ao23 t387.length co23) : Value).ownBlock ∧ some k_ ≠ ((.slice Ao24 t390.length co24) : Value).ownBlock ∧ k_ ≠ gb374 ∧ k_ ≠ gb375 ∧ k_ ≠ gb395) (.slice A1_6 l1_6.length c1_6) l1_6) ∧ Aside0 (Kd.V k40 40 wc w.heap.size (fun k_ => ((P0_6_ k_ ∨ P0_7_ k_ ∨ P1_6_ k_ ∨ P1_7_ k_) ∨ w.heap.size ≤ k_) ∧ some k_ ≠ ((.slice Ao23 t387.length co23) : Value).ownBlock ∧ some k_ ≠ ((.slice Ao24 t390.length co24) : Value).ownBlock ∧ k_ ≠ gb374 ∧ k_ ≠ gb375 ∧ k_ ≠ gb395) (.slice A1_7 l1_7.length c1_7) l1_7) ∧ Aside0 (Kd.R k38 38 wc w.heap.size (fun k_ => (w.heap.size ≤ k_)) (.slice Ao23 t387.length co23) t387) ∧ Aside0 (Kd.R k40 40 wc w.heap.size (fun k_ => (w.heap.size ≤ k_)) (.slice Ao24 t390.length co24) t390) ∧ Aside0 (wc.heap[gb374]? = some (.cells #[.int .i64 a0_0, .int .i64 a0_1, .int .i64 a0_2, .int .i64 a0_3, .int .i64 a0_4, .int .i64 a0_5, (.slice A0_6 l0_6.length c0_6), (.slice A0_7 l0_7.length c0_7), .bool a0_8] 29 (0, 0))) ∧ Aside0 (wc.heap[gb375]? = some (.cells #[.int .i64 a1_0, .int .i64 a1_1, .int .i64 a1_2, .int .i64 a1_3, .int .i64 a1_4, .int .i64 a1_5, (.slice A1_6 l1_6.length c1_6), (.slice A1_7 l1_7.length c1_7), .bool a1_8] 29 (0, 0))) ∧ Aside0 (wc.heap[gb395]? = some (.cells #[.int .i64 t381, .int .i64 t382, .int .i64 t383, .int .i64 t384, .int .i64 t385, .int .i64 t386, (.slice Ao23 t387.length co23), (.slice Ao24 t390.length co24), .bool t393] 29 (0, 0))) ∧ Aside0 (Below w.heap.size w wc))
    case first =>
      have H := HC7.out
      clear HC7
      by_cases c26 : t394 = 0
      · rw [if_pos c26] at H
        have c26b0 : (t394 == 0) = true := beq_iff_eq.mpr c26
        have c26b1 : (t394 != 0) = false := bne_eq_false_iff_eq.mpr c26
        clear c26
        (first | rw [c26b0] | (simp only [i64_w, i32_w]; rw [c26b0]) | skip)
        replace H := Option.bind_eq_some_iff.mp H
        obtain ⟨t396, A270, H⟩ := H
        replace H : (if t396 = true then ((command_Right.f k t381 t382 t383 t384 t385 t386 t387 t390 t393).bind fun t397 => (althinglaw05_CommandMeets.j0 k (!t397) a0_0 a0_1 a0_2 a0_3 a0_4 a0_5 l0_6 l0_7 a0_8 a1_0 a1_1 a1_2 a1_3 a1_4 a1_5 l1_6 l1_7 a1_8)) else (althinglaw05_CommandMeets.j0 k true a0_0 a0_1 a0_2 a0_3 a0_4 a0_5 l0_6 l0_7 a0_8 a1_0 a1_1 a1_2 a1_3 a1_4 a1_5 l1_6 l1_7 a1_8)) = some r := H
        have A27 := Aside0.mk A270
        clear A270
        by_cases c28 : t396 = true
        · subst c28
          have H1 : ((command_Right.f k t381 t382 t383 t384 t385 t386 t387 t390 t393).bind fun t397 => (althinglaw05_CommandMeets.j0 k (!t397) a0_0 a0_1 a0_2 a0_3 a0_4 a0_5 l0_6 l0_7 a0_8 a1_0 a1_1 a1_2 a1_3 a1_4 a1_5 l1_6 l1_7 a1_8)) = some r := by rw [if_pos rfl] at H; exact H
          clear H
          have H := H1
          clear H1
          replace H := Option.bind_eq_some_iff.mp H
          obtain ⟨t397, A290, H⟩ := H
          replace H : (althinglaw05_CommandMeets.j0 k (!t397) a0_0 a0_1 a0_2 a0_3 a0_4 a0_5 l0_6 l0_7 a0_8 a1_0 a1_1 a1_2 a1_3 a1_4 a1_5 l1_6 l1_7 a1_8) = some r := H
          have A29 := Aside0.mk A290
          clear A290
          have H' := Aside0.mk H
          clear H
          have hnb30 := NB374_375.out
          have hnc30 := NB375_374.out
          have hnb31 := NB374_395.out
          have hnc31 := NB395_374.out
          have hcz32_0 : w25.cell? ⟨gb374, 0, none⟩ = some (.int .i64 a0_0) := (blk_cell BK374.out 0).trans rfl
          have hcz32_1 : w25.cell? ⟨gb374, 1, none⟩ = some (.int .i64 a0_1) := (blk_cell BK374.out 1).trans rfl
          have hcz32_2 : w25.cell? ⟨gb374, 2, none⟩ = some (.int .i64 a0_2) := (blk_cell BK374.out 2).trans rfl
          have hcz32_3 : w25.cell? ⟨gb374, 3, none⟩ = some (.int .i64 a0_3) := (blk_cell BK374.out 3).trans rfl
          have hcz32_4 : w25.cell? ⟨gb374, 4, none⟩ = some (.int .i64 a0_4) := (blk_cell BK374.out 4).trans rfl
          have hcz32_5 : w25.cell? ⟨gb374, 5, none⟩ = some (.int .i64 a0_5) := (blk_cell BK374.out 5).trans rfl
          have hcz32_6 : w25.cell? ⟨gb374, 6, none⟩ = some (.slice A0_6 l0_6.length c0_6) := (blk_cell BK374.out 6).trans rfl
          have hcz32_7 : w25.cell? ⟨gb374, 7, none⟩ = some (.slice A0_7 l0_7.length c0_7) := (blk_cell BK374.out 7).trans rfl
          have hcz32_8 : w25.cell? ⟨gb374, 8, none⟩ = some (.bool a0_8) := (blk_cell BK374.out 8).trans rfl
          have hfz32_0 := blk_frozen BK374.out 0
          have hfz32_1 := blk_frozen BK374.out 1
          have hfz32_2 := blk_frozen BK374.out 2
          have hfz32_3 := blk_frozen BK374.out 3
          have hfz32_4 := blk_frozen BK374.out 4
          have hfz32_5 := blk_frozen BK374.out 5
          have hfz32_6 := blk_frozen BK374.out 6
          have hfz32_7 := blk_frozen BK374.out 7
          have hfz32_8 := blk_frozen BK374.out 8
          have hnb33 := NB395_375.out
          have hnc33 := NB375_395.out
          have hcz34_0 : w25.cell? ⟨gb395, 0, none⟩ = some (.int .i64 t381) := (blk_cell BK395.out 0).trans rfl
          have hcz34_1 : w25.cell? ⟨gb395, 1, none⟩ = some (.int .i64 t382) := (blk_cell BK395.out 1).trans rfl
          have hcz34_2 : w25.cell? ⟨gb395, 2, none⟩ = some (.int .i64 t383) := (blk_cell BK395.out 2).trans rfl
          have hcz34_3 : w25.cell? ⟨gb395, 3, none⟩ = some (.int .i64 t384) := (blk_cell BK395.out 3).trans rfl
          have hcz34_4 : w25.cell? ⟨gb395, 4, none⟩ = some (.int .i64 t385) := (blk_cell BK395.out 4).trans rfl
          have hcz34_5 : w25.cell? ⟨gb395, 5, none⟩ = some (.int .i64 t386) := (blk_cell BK395.out 5).trans rfl
          have hcz34_6 : w25.cell? ⟨gb395, 6, none⟩ = some (.slice Ao23 t387.length co23) := (blk_cell BK395.out 6).trans rfl
          have hcz34_7 : w25.cell? ⟨gb395, 7, none⟩ = some (.slice Ao24 t390.length co24) := (blk_cell BK395.out 7).trans rfl
          have hcz34_8 : w25.cell? ⟨gb395, 8, none⟩ = some (.bool t393) := (blk_cell BK395.out 8).trans rfl
          have hfz34_0 := blk_frozen BK395.out 0
          have hfz34_1 := blk_frozen BK395.out 1
          have hfz34_2 := blk_frozen BK395.out 2
          have hfz34_3 := blk_frozen BK395.out 3
          have hfz34_4 := blk_frozen BK395.out 4
          have hfz34_5 := blk_frozen BK395.out 5
          have hfz34_6 := blk_frozen BK395.out 6
          have hfz34_7 := blk_frozen BK395.out 7
          have hfz34_8 := blk_frozen BK395.out 8
          go_wp2_with (first | (go_at_call 13; (with_reducible refine (command_Interfere.calls k a0_0 a0_1 a0_2 a0_3 a0_4 a0_5 _ _ l0_6 _ _ l0_7 a0_8 t381 t382 t383 t384 t385 t386 _ _ t387 _ _ t390 t393 true _ ?side1 ?side2 ?side3 ?side4 ?side5 ?side6 ?side7 ?side8 A27.out).mono ?_); (case side1 => repeat (first | exact (Kd.V_reads' HO0_6.out).2.2 | (with_reducible refine Kd.C_alloc ?_ _) | (with_reducible refine Kd.C_drewN ?_ _) | (with_reducible refine Kd.C_drew ?_))); (case side2 => exact (Kd.V_reads' HO0_6.out).2.1); (case side3 => repeat (first | exact (Kd.V_reads' HO0_7.out).2.2 | (with_reducible refine Kd.C_alloc ?_ _) | (with_reducible refine Kd.C_drewN ?_ _) | (with_reducible refine Kd.C_drew ?_))); (case side4 => exact (Kd.V_reads' HO0_7.out).2.1); (case side5 => repeat (first | exact (Kd.R_reads' HO389.out).2.2 | (with_reducible refine Kd.C_alloc ?_ _) | (with_reducible refine Kd.C_drewN ?_ _) | (with_reducible refine Kd.C_drew ?_))); (case side6 => exact (Kd.R_reads' HO389.out).2.1); (case side7 => repeat (first | exact (Kd.R_reads' HO392.out).2.2 | (with_reducible refine Kd.C_alloc ?_ _) | (with_reducible refine Kd.C_drewN ?_ _) | (with_reducible refine Kd.C_drew ?_))); (case side8 => exact (Kd.R_reads' HO392.out).2.1); rintro e w35 ⟨rfl, hb⟩; have n0_ := Aside0.mk (Kd.V_below (by (with_reducible repeat (first | apply Kd.V_alloc | apply Kd.V_drewN | apply Kd.V_drew)); exact HO0_6.out) hb); have n1_ := Aside0.mk (Kd.V_below (by (with_reducible repeat (first | apply Kd.V_alloc | apply Kd.V_drewN | apply Kd.V_drew)); exact HO0_7.out) hb); have n2_ := Aside0.mk (Kd.V_below (by (with_reducible repeat (first | apply Kd.V_alloc | apply Kd.V_drewN | apply Kd.V_drew)); exact HO1_6.out) hb); have n3_ := Aside0.mk (Kd.V_below (by (with_reducible repeat (first | apply Kd.V_alloc | apply Kd.V_drewN | apply Kd.V_drew)); exact HO1_7.out) hb); have n4_ := Aside0.mk (Kd.N_below (by (with_reducible repeat (first | apply Kd.N_alloc | apply Kd.N_drewN | apply Kd.N_drew)); exact HO378.out) hb); have n5_ := Aside0.mk (Kd.R_below (by (with_reducible repeat (first | apply Kd.R_alloc | apply Kd.R_drewN | apply Kd.R_drew)); exact HO389.out) hb); have n6_ := Aside0.mk (Kd.R_below (by (with_reducible repeat (first | apply Kd.R_alloc | apply Kd.R_drewN | apply Kd.R_drew)); exact HO392.out) hb); have n7_ := Aside0.mk (blk_below (g := gb374) (o := .cells #[.int .i64 a0_0, .int .i64 a0_1, .int .i64 a0_2, .int .i64 a0_3, .int .i64 a0_4, .int .i64 a0_5, .slice A0_6 l0_6.length c0_6, .slice A0_7 l0_7.length c0_7, .bool a0_8] 29 (0, 0)) (by (with_reducible repeat (first | refine blk_drewN ?_ _ | refine blk_drew ?_ | refine blk_alloc ?_ _)); exact BK374.out) hb); have n8_ := Aside0.mk (blk_below (g := gb375) (o := .cells #[.int .i64 a1_0, .int .i64 a1_1, .int .i64 a1_2, .int .i64 a1_3, .int .i64 a1_4, .int .i64 a1_5, .slice A1_6 l1_6.length c1_6, .slice A1_7 l1_7.length c1_7, .bool a1_8] 29 (0, 0)) (by (with_reducible repeat (first | refine blk_drewN ?_ _ | refine blk_drew ?_ | refine blk_alloc ?_ _)); exact BK375.out) hb); have n9_ := Aside0.mk (blk_below (g := gb395) (o := .cells #[.int .i64 t381, .int .i64 t382, .int .i64 t383, .int .i64 t384, .int .i64 t385, .int .i64 t386, .slice Ao23 t387.length co23, .slice Ao24 t390.length co24, .bool t393] 29 (0, 0)) (by (with_reducible repeat (first | refine blk_drewN ?_ _ | refine blk_drew ?_ | refine blk_alloc ?_ _)); exact BK395.out) hb); have n10_ := Aside0.mk (below_step (by repeat (first | (with_reducible first | exact HB.out | apply below_alloc | apply pw_below_drewN | apply below_drew1 | refine below_set ?_ GE374.out | refine below_set ?_ GE375.out | refine below_set ?_ GE395.out) | exact HB.out)) hb); clear HO0_6; clear HO0_7; clear HO1_6; clear HO1_7; clear HO378; clear HO389; clear HO392; clear BK374; clear BK375; clear BK395; clear HB; have HO0_6 := n0_; have HO0_7 := n1_; have HO1_6 := n2_; have HO1_7 := n3_; have HO378 := n4_; have HO389 := n5_; have HO392 := n6_; have BK374 := n7_; have BK375 := n8_; have BK395 := n9_; have HB := n10_; clear n0_ n1_ n2_ n3_ n4_ n5_ n6_ n7_ n8_ n9_ n10_; (try clear hb); (try clear hb2); (try clear hk); (try clear hi); have hcz36_0 : w35.cell? ⟨gb395, 0, none⟩ = some (.int .i64 t381) := (blk_cell BK395.out 0).trans rfl; have hcz36_1 : w35.cell? ⟨gb395, 1, none⟩ = some (.int .i64 t382) := (blk_cell BK395.out 1).trans rfl; have hcz36_2 : w35.cell? ⟨gb395, 2, none⟩ = some (.int .i64 t383) := (blk_cell BK395.out 2).trans rfl; have hcz36_3 : w35.cell? ⟨gb395, 3, none⟩ = some (.int .i64 t384) := (blk_cell BK395.out 3).trans rfl; have hcz36_4 : w35.cell? ⟨gb395, 4, none⟩ = some (.int .i64 t385) := (blk_cell BK395.out 4).trans rfl; have hcz36_5 : w35.cell? ⟨gb395, 5, none⟩ = some (.int .i64 t386) := (blk_cell BK395.out 5).trans rfl; have hcz36_6 : w35.cell? ⟨gb395, 6, none⟩ = some (.slice Ao23 t387.length co23) := (blk_cell BK395.out 6).trans rfl; have hcz36_7 : w35.cell? ⟨gb395, 7, none⟩ = some (.slice Ao24 t390.length co24) := (blk_cell BK395.out 7).trans rfl; have hcz36_8 : w35.cell? ⟨gb395, 8, none⟩ = some (.bool t393) := (blk_cell BK395.out 8).trans rfl; have hfz36_0 := blk_frozen BK395.out 0; have hfz36_1 := blk_frozen BK395.out 1; have hfz36_2 := blk_frozen BK395.out 2; have hfz36_3 := blk_frozen BK395.out 3; have hfz36_4 := blk_frozen BK395.out 4; have hfz36_5 := blk_frozen BK395.out 5; have hfz36_6 := blk_frozen BK395.out 6; have hfz36_7 := blk_frozen BK395.out 7; have hfz36_8 := blk_frozen BK395.out 8) | (go_at_call 14; (with_reducible refine (command_Right.calls k t381 t382 t383 t384 t385 t386 _ _ t387 _ _ t390 t393 t397 _ ?side1 ?side2 ?side3 ?side4 A29.out).mono ?_); (case side1 => repeat (first | exact (Kd.R_reads' HO389.out).2.2 | (with_reducible refine Kd.C_alloc ?_ _) | (with_reducible refine Kd.C_drewN ?_ _) | (with_reducible refine Kd.C_drew ?_))); (case side2 => exact (Kd.R_reads' HO389.out).2.1); (case side3 => repeat (first | exact (Kd.R_reads' HO392.out).2.2 | (with_reducible refine Kd.C_alloc ?_ _) | (with_reducible refine Kd.C_drewN ?_ _) | (with_reducible refine Kd.C_drew ?_))); (case side4 => exact (Kd.R_reads' HO392.out).2.1); rintro e w37 ⟨rfl, hb⟩; have n0_ := Aside0.mk (Kd.V_below (by (with_reducible repeat (first | apply Kd.V_alloc | apply Kd.V_drewN | apply Kd.V_drew)); exact HO0_6.out) hb); have n1_ := Aside0.mk (Kd.V_below (by (with_reducible repeat (first | apply Kd.V_alloc | apply Kd.V_drewN | apply Kd.V_drew)); exact HO0_7.out) hb); have n2_ := Aside0.mk (Kd.V_below (by (with_reducible repeat (first | apply Kd.V_alloc | apply Kd.V_drewN | apply Kd.V_drew)); exact HO1_6.out) hb); have n3_ := Aside0.mk (Kd.V_below (by (with_reducible repeat (first | apply Kd.V_alloc | apply Kd.V_drewN | apply Kd.V_drew)); exact HO1_7.out) hb); have n4_ := Aside0.mk (Kd.N_below (by (with_reducible repeat (first | apply Kd.N_alloc | apply Kd.N_drewN | apply Kd.N_drew)); exact HO378.out) hb); have n5_ := Aside0.mk (Kd.R_below (by (with_reducible repeat (first | apply Kd.R_alloc | apply Kd.R_drewN | apply Kd.R_drew)); exact HO389.out) hb); have n6_ := Aside0.mk (Kd.R_below (by (with_reducible repeat (first | apply Kd.R_alloc | apply Kd.R_drewN | apply Kd.R_drew)); exact HO392.out) hb); have n7_ := Aside0.mk (blk_below (g := gb374) (o := .cells #[.int .i64 a0_0, .int .i64 a0_1, .int .i64 a0_2, .int .i64 a0_3, .int .i64 a0_4, .int .i64 a0_5, .slice A0_6 l0_6.length c0_6, .slice A0_7 l0_7.length c0_7, .bool a0_8] 29 (0, 0)) (by (with_reducible repeat (first | refine blk_drewN ?_ _ | refine blk_drew ?_ | refine blk_alloc ?_ _)); exact BK374.out) hb); have n8_ := Aside0.mk (blk_below (g := gb375) (o := .cells #[.int .i64 a1_0, .int .i64 a1_1, .int .i64 a1_2, .int .i64 a1_3, .int .i64 a1_4, .int .i64 a1_5, .slice A1_6 l1_6.length c1_6, .slice A1_7 l1_7.length c1_7, .bool a1_8] 29 (0, 0)) (by (with_reducible repeat (first | refine blk_drewN ?_ _ | refine blk_drew ?_ | refine blk_alloc ?_ _)); exact BK375.out) hb); have n9_ := Aside0.mk (blk_below (g := gb395) (o := .cells #[.int .i64 t381, .int .i64 t382, .int .i64 t383, .int .i64 t384, .int .i64 t385, .int .i64 t386, .slice Ao23 t387.length co23, .slice Ao24 t390.length co24, .bool t393] 29 (0, 0)) (by (with_reducible repeat (first | refine blk_drewN ?_ _ | refine blk_drew ?_ | refine blk_alloc ?_ _)); exact BK395.out) hb); have n10_ := Aside0.mk (below_step (by repeat (first | (with_reducible first | exact HB.out | apply below_alloc | apply pw_below_drewN | apply below_drew1 | refine below_set ?_ GE374.out | refine below_set ?_ GE375.out | refine below_set ?_ GE395.out) | exact HB.out)) hb); clear HO0_6; clear HO0_7; clear HO1_6; clear HO1_7; clear HO378; clear HO389; clear HO392; clear BK374; clear BK375; clear BK395; clear HB; have HO0_6 := n0_; have HO0_7 := n1_; have HO1_6 := n2_; have HO1_7 := n3_; have HO378 := n4_; have HO389 := n5_; have HO392 := n6_; have BK374 := n7_; have BK375 := n8_; have BK395 := n9_; have HB := n10_; clear n0_ n1_ n2_ n3_ n4_ n5_ n6_ n7_ n8_ n9_ n10_; (try clear hb); (try clear hb2); (try clear hk); (try clear hi)))
          go_meet
          case rel => exact ⟨_, (!t397), (by first | rfl | (simp; done) | (simp [*]; done)), H', ⟨by first | omega | exact Nat.le_refl _⟩, ⟨by (with_reducible repeat (first | apply Kd.V_alloc | apply Kd.V_drewN | apply Kd.V_drew)); exact Kd.V_mono HO0_6.out (fun _ hk => ⟨hk.1, ⟨hk.2.2.1, ⟨hk.2.2.2.1, ⟨hk.2.2.2.2.1, ⟨hk.2.2.2.2.2.1, hk.2.2.2.2.2.2⟩⟩⟩⟩⟩)⟩, ⟨by (with_reducible repeat (first | apply Kd.V_alloc | apply Kd.V_drewN | apply Kd.V_drew)); exact Kd.V_mono HO0_7.out (fun _ hk => ⟨hk.1, ⟨hk.2.2.1, ⟨hk.2.2.2.1, ⟨hk.2.2.2.2.1, ⟨hk.2.2.2.2.2.1, hk.2.2.2.2.2.2⟩⟩⟩⟩⟩)⟩, ⟨by (with_reducible repeat (first | apply Kd.V_alloc | apply Kd.V_drewN | apply Kd.V_drew)); exact Kd.V_mono HO1_6.out (fun _ hk => ⟨hk.1, ⟨hk.2.2.1, ⟨hk.2.2.2.1, ⟨hk.2.2.2.2.1, ⟨hk.2.2.2.2.2.1, hk.2.2.2.2.2.2⟩⟩⟩⟩⟩)⟩, ⟨by (with_reducible repeat (first | apply Kd.V_alloc | apply Kd.V_drewN | apply Kd.V_drew)); exact Kd.V_mono HO1_7.out (fun _ hk => ⟨hk.1, ⟨hk.2.2.1, ⟨hk.2.2.2.1, ⟨hk.2.2.2.2.1, ⟨hk.2.2.2.2.2.1, hk.2.2.2.2.2.2⟩⟩⟩⟩⟩)⟩, ⟨by (with_reducible repeat (first | apply Kd.R_alloc | apply Kd.R_drewN | apply Kd.R_drew)); exact HO389.out⟩, ⟨by (with_reducible repeat (first | apply Kd.R_alloc | apply Kd.R_drewN | apply Kd.R_drew)); exact HO392.out⟩, ⟨by (with_reducible repeat (first | refine blk_drewN ?_ _ | refine blk_drew ?_ | refine blk_alloc ?_ _)); exact BK374.out⟩, ⟨by (with_reducible repeat (first | refine blk_drewN ?_ _ | refine blk_drew ?_ | refine blk_alloc ?_ _)); exact BK375.out⟩, ⟨by (with_reducible repeat (first | refine blk_drewN ?_ _ | refine blk_drew ?_ | refine blk_alloc ?_ _)); exact BK395.out⟩, ⟨by repeat (first | (with_reducible first | exact HB.out | apply below_alloc | apply pw_below_drewN | apply below_drew1 | refine below_set ?_ GE374.out | refine below_set ?_ GE375.out | refine below_set ?_ GE395.out) | exact HB.out)⟩⟩
        · replace c28 := Bool.eq_false_iff.mpr c28
          subst c28
          have H1 : (althinglaw05_CommandMeets.j0 k true a0_0 a0_1 a0_2 a0_3 a0_4 a0_5 l0_6 l0_7 a0_8 a1_0 a1_1 a1_2 a1_3 a1_4 a1_5 l1_6 l1_7 a1_8) = some r := by rw [if_neg (show ¬ (false = true) by decide)] at H; exact H
          clear H
          have H := H1
          clear H1
          have H' := Aside0.mk H
          clear H
          have hnb38 := NB374_375.out
          have hnc38 := NB375_374.out
          have hnb39 := NB374_395.out
          have hnc39 := NB395_374.out
          have hcz40_0 : w25.cell? ⟨gb374, 0, none⟩ = some (.int .i64 a0_0) := (blk_cell BK374.out 0).trans rfl
          have hcz40_1 : w25.cell? ⟨gb374, 1, none⟩ = some (.int .i64 a0_1) := (blk_cell BK374.out 1).trans rfl
          have hcz40_2 : w25.cell? ⟨gb374, 2, none⟩ = some (.int .i64 a0_2) := (blk_cell BK374.out 2).trans rfl
          have hcz40_3 : w25.cell? ⟨gb374, 3, none⟩ = some (.int .i64 a0_3) := (blk_cell BK374.out 3).trans rfl
          have hcz40_4 : w25.cell? ⟨gb374, 4, none⟩ = some (.int .i64 a0_4) := (blk_cell BK374.out 4).trans rfl
          have hcz40_5 : w25.cell? ⟨gb374, 5, none⟩ = some (.int .i64 a0_5) := (blk_cell BK374.out 5).trans rfl
          have hcz40_6 : w25.cell? ⟨gb374, 6, none⟩ = some (.slice A0_6 l0_6.length c0_6) := (blk_cell BK374.out 6).trans rfl
          have hcz40_7 : w25.cell? ⟨gb374, 7, none⟩ = some (.slice A0_7 l0_7.length c0_7) := (blk_cell BK374.out 7).trans rfl
          have hcz40_8 : w25.cell? ⟨gb374, 8, none⟩ = some (.bool a0_8) := (blk_cell BK374.out 8).trans rfl
          have hfz40_0 := blk_frozen BK374.out 0
          have hfz40_1 := blk_frozen BK374.out 1
          have hfz40_2 := blk_frozen BK374.out 2
          have hfz40_3 := blk_frozen BK374.out 3
          have hfz40_4 := blk_frozen BK374.out 4
          have hfz40_5 := blk_frozen BK374.out 5
          have hfz40_6 := blk_frozen BK374.out 6
          have hfz40_7 := blk_frozen BK374.out 7
          have hfz40_8 := blk_frozen BK374.out 8
          have hnb41 := NB395_375.out
          have hnc41 := NB375_395.out
          have hcz42_0 : w25.cell? ⟨gb395, 0, none⟩ = some (.int .i64 t381) := (blk_cell BK395.out 0).trans rfl
          have hcz42_1 : w25.cell? ⟨gb395, 1, none⟩ = some (.int .i64 t382) := (blk_cell BK395.out 1).trans rfl
          have hcz42_2 : w25.cell? ⟨gb395, 2, none⟩ = some (.int .i64 t383) := (blk_cell BK395.out 2).trans rfl
          have hcz42_3 : w25.cell? ⟨gb395, 3, none⟩ = some (.int .i64 t384) := (blk_cell BK395.out 3).trans rfl
          have hcz42_4 : w25.cell? ⟨gb395, 4, none⟩ = some (.int .i64 t385) := (blk_cell BK395.out 4).trans rfl
          have hcz42_5 : w25.cell? ⟨gb395, 5, none⟩ = some (.int .i64 t386) := (blk_cell BK395.out 5).trans rfl
          have hcz42_6 : w25.cell? ⟨gb395, 6, none⟩ = some (.slice Ao23 t387.length co23) := (blk_cell BK395.out 6).trans rfl
          have hcz42_7 : w25.cell? ⟨gb395, 7, none⟩ = some (.slice Ao24 t390.length co24) := (blk_cell BK395.out 7).trans rfl
          have hcz42_8 : w25.cell? ⟨gb395, 8, none⟩ = some (.bool t393) := (blk_cell BK395.out 8).trans rfl
          have hfz42_0 := blk_frozen BK395.out 0
          have hfz42_1 := blk_frozen BK395.out 1
          have hfz42_2 := blk_frozen BK395.out 2
          have hfz42_3 := blk_frozen BK395.out 3
          have hfz42_4 := blk_frozen BK395.out 4
          have hfz42_5 := blk_frozen BK395.out 5
          have hfz42_6 := blk_frozen BK395.out 6
          have hfz42_7 := blk_frozen BK395.out 7
          have hfz42_8 := blk_frozen BK395.out 8
          go_wp2_with (first | (go_at_call 13; (with_reducible refine (command_Interfere.calls k a0_0 a0_1 a0_2 a0_3 a0_4 a0_5 _ _ l0_6 _ _ l0_7 a0_8 t381 t382 t383 t384 t385 t386 _ _ t387 _ _ t390 t393 false _ ?side1 ?side2 ?side3 ?side4 ?side5 ?side6 ?side7 ?side8 A27.out).mono ?_); (case side1 => repeat (first | exact (Kd.V_reads' HO0_6.out).2.2 | (with_reducible refine Kd.C_alloc ?_ _) | (with_reducible refine Kd.C_drewN ?_ _) | (with_reducible refine Kd.C_drew ?_))); (case side2 => exact (Kd.V_reads' HO0_6.out).2.1); (case side3 => repeat (first | exact (Kd.V_reads' HO0_7.out).2.2 | (with_reducible refine Kd.C_alloc ?_ _) | (with_reducible refine Kd.C_drewN ?_ _) | (with_reducible refine Kd.C_drew ?_))); (case side4 => exact (Kd.V_reads' HO0_7.out).2.1); (case side5 => repeat (first | exact (Kd.R_reads' HO389.out).2.2 | (with_reducible refine Kd.C_alloc ?_ _) | (with_reducible refine Kd.C_drewN ?_ _) | (with_reducible refine Kd.C_drew ?_))); (case side6 => exact (Kd.R_reads' HO389.out).2.1); (case side7 => repeat (first | exact (Kd.R_reads' HO392.out).2.2 | (with_reducible refine Kd.C_alloc ?_ _) | (with_reducible refine Kd.C_drewN ?_ _) | (with_reducible refine Kd.C_drew ?_))); (case side8 => exact (Kd.R_reads' HO392.out).2.1); rintro e w43 ⟨rfl, hb⟩; have n0_ := Aside0.mk (Kd.V_below (by (with_reducible repeat (first | apply Kd.V_alloc | apply Kd.V_drewN | apply Kd.V_drew)); exact HO0_6.out) hb); have n1_ := Aside0.mk (Kd.V_below (by (with_reducible repeat (first | apply Kd.V_alloc | apply Kd.V_drewN | apply Kd.V_drew)); exact HO0_7.out) hb); have n2_ := Aside0.mk (Kd.V_below (by (with_reducible repeat (first | apply Kd.V_alloc | apply Kd.V_drewN | apply Kd.V_drew)); exact HO1_6.out) hb); have n3_ := Aside0.mk (Kd.V_below (by (with_reducible repeat (first | apply Kd.V_alloc | apply Kd.V_drewN | apply Kd.V_drew)); exact HO1_7.out) hb); have n4_ := Aside0.mk (Kd.N_below (by (with_reducible repeat (first | apply Kd.N_alloc | apply Kd.N_drewN | apply Kd.N_drew)); exact HO378.out) hb); have n5_ := Aside0.mk (Kd.R_below (by (with_reducible repeat (first | apply Kd.R_alloc | apply Kd.R_drewN | apply Kd.R_drew)); exact HO389.out) hb); have n6_ := Aside0.mk (Kd.R_below (by (with_reducible repeat (first | apply Kd.R_alloc | apply Kd.R_drewN | apply Kd.R_drew)); exact HO392.out) hb); have n7_ := Aside0.mk (blk_below (g := gb374) (o := .cells #[.int .i64 a0_0, .int .i64 a0_1, .int .i64 a0_2, .int .i64 a0_3, .int .i64 a0_4, .int .i64 a0_5, .slice A0_6 l0_6.length c0_6, .slice A0_7 l0_7.length c0_7, .bool a0_8] 29 (0, 0)) (by (with_reducible repeat (first | refine blk_drewN ?_ _ | refine blk_drew ?_ | refine blk_alloc ?_ _)); exact BK374.out) hb); have n8_ := Aside0.mk (blk_below (g := gb375) (o := .cells #[.int .i64 a1_0, .int .i64 a1_1, .int .i64 a1_2, .int .i64 a1_3, .int .i64 a1_4, .int .i64 a1_5, .slice A1_6 l1_6.length c1_6, .slice A1_7 l1_7.length c1_7, .bool a1_8] 29 (0, 0)) (by (with_reducible repeat (first | refine blk_drewN ?_ _ | refine blk_drew ?_ | refine blk_alloc ?_ _)); exact BK375.out) hb); have n9_ := Aside0.mk (blk_below (g := gb395) (o := .cells #[.int .i64 t381, .int .i64 t382, .int .i64 t383, .int .i64 t384, .int .i64 t385, .int .i64 t386, .slice Ao23 t387.length co23, .slice Ao24 t390.length co24, .bool t393] 29 (0, 0)) (by (with_reducible repeat (first | refine blk_drewN ?_ _ | refine blk_drew ?_ | refine blk_alloc ?_ _)); exact BK395.out) hb); have n10_ := Aside0.mk (below_step (by repeat (first | (with_reducible first | exact HB.out | apply below_alloc | apply pw_below_drewN | apply below_drew1 | refine below_set ?_ GE374.out | refine below_set ?_ GE375.out | refine below_set ?_ GE395.out) | exact HB.out)) hb); clear HO0_6; clear HO0_7; clear HO1_6; clear HO1_7; clear HO378; clear HO389; clear HO392; clear BK374; clear BK375; clear BK395; clear HB; have HO0_6 := n0_; have HO0_7 := n1_; have HO1_6 := n2_; have HO1_7 := n3_; have HO378 := n4_; have HO389 := n5_; have HO392 := n6_; have BK374 := n7_; have BK375 := n8_; have BK395 := n9_; have HB := n10_; clear n0_ n1_ n2_ n3_ n4_ n5_ n6_ n7_ n8_ n9_ n10_; (try clear hb); (try clear hb2); (try clear hk); (try clear hi)))
          go_meet
          case rel => exact ⟨_, (true), (by first | rfl | (simp; done) | (simp [*]; done)), H', ⟨by first | omega | exact Nat.le_refl _⟩, ⟨by (with_reducible repeat (first | apply Kd.V_alloc | apply Kd.V_drewN | apply Kd.V_drew)); exact Kd.V_mono HO0_6.out (fun _ hk => ⟨hk.1, ⟨hk.2.2.1, ⟨hk.2.2.2.1, ⟨hk.2.2.2.2.1, ⟨hk.2.2.2.2.2.1, hk.2.2.2.2.2.2⟩⟩⟩⟩⟩)⟩, ⟨by (with_reducible repeat (first | apply Kd.V_alloc | apply Kd.V_drewN | apply Kd.V_drew)); exact Kd.V_mono HO0_7.out (fun _ hk => ⟨hk.1, ⟨hk.2.2.1, ⟨hk.2.2.2.1, ⟨hk.2.2.2.2.1, ⟨hk.2.2.2.2.2.1, hk.2.2.2.2.2.2⟩⟩⟩⟩⟩)⟩, ⟨by (with_reducible repeat (first | apply Kd.V_alloc | apply Kd.V_drewN | apply Kd.V_drew)); exact Kd.V_mono HO1_6.out (fun _ hk => ⟨hk.1, ⟨hk.2.2.1, ⟨hk.2.2.2.1, ⟨hk.2.2.2.2.1, ⟨hk.2.2.2.2.2.1, hk.2.2.2.2.2.2⟩⟩⟩⟩⟩)⟩, ⟨by (with_reducible repeat (first | apply Kd.V_alloc | apply Kd.V_drewN | apply Kd.V_drew)); exact Kd.V_mono HO1_7.out (fun _ hk => ⟨hk.1, ⟨hk.2.2.1, ⟨hk.2.2.2.1, ⟨hk.2.2.2.2.1, ⟨hk.2.2.2.2.2.1, hk.2.2.2.2.2.2⟩⟩⟩⟩⟩)⟩, ⟨by (with_reducible repeat (first | apply Kd.R_alloc | apply Kd.R_drewN | apply Kd.R_drew)); exact HO389.out⟩, ⟨by (with_reducible repeat (first | apply Kd.R_alloc | apply Kd.R_drewN | apply Kd.R_drew)); exact HO392.out⟩, ⟨by (with_reducible repeat (first | refine blk_drewN ?_ _ | refine blk_drew ?_ | refine blk_alloc ?_ _)); exact BK374.out⟩, ⟨by (with_reducible repeat (first | refine blk_drewN ?_ _ | refine blk_drew ?_ | refine blk_alloc ?_ _)); exact BK375.out⟩, ⟨by (with_reducible repeat (first | refine blk_drewN ?_ _ | refine blk_drew ?_ | refine blk_alloc ?_ _)); exact BK395.out⟩, ⟨by repeat (first | (with_reducible first | exact HB.out | apply below_alloc | apply pw_below_drewN | apply below_drew1 | refine below_set ?_ GE374.out | refine below_set ?_ GE375.out | refine below_set ?_ GE395.out) | exact HB.out)⟩⟩
      · rw [if_neg c26] at H
        have c26b0 : (t394 == 0) = false := beq_eq_false_iff_ne.mpr c26
        have c26b1 : (t394 != 0) = true := bne_iff_ne.mpr c26
        (first | rw [c26b0] | (simp only [i64_w, i32_w]; rw [c26b0]) | skip)
        have H' := Aside0.mk H
        clear H
        go_wp2
        go_meet
        case rel => exact ⟨_, (false), (by first | rfl | (simp; done) | (simp [*]; done)), H', ⟨by first | omega | exact Nat.le_refl _⟩, ⟨by (with_reducible repeat (first | apply Kd.V_alloc | apply Kd.V_drewN | apply Kd.V_drew)); exact Kd.V_mono HO0_6.out (fun _ hk => ⟨hk.1, ⟨hk.2.2.1, ⟨hk.2.2.2.1, ⟨hk.2.2.2.2.1, ⟨hk.2.2.2.2.2.1, hk.2.2.2.2.2.2⟩⟩⟩⟩⟩)⟩, ⟨by (with_reducible repeat (first | apply Kd.V_alloc | apply Kd.V_drewN | apply Kd.V_drew)); exact Kd.V_mono HO0_7.out (fun _ hk => ⟨hk.1, ⟨hk.2.2.1, ⟨hk.2.2.2.1, ⟨hk.2.2.2.2.1, ⟨hk.2.2.2.2.2.1, hk.2.2.2.2.2.2⟩⟩⟩⟩⟩)⟩, ⟨by (with_reducible repeat (first | apply Kd.V_alloc | apply Kd.V_drewN | apply Kd.V_drew)); exact Kd.V_mono HO1_6.out (fun _ hk => ⟨hk.1, ⟨hk.2.2.1, ⟨hk.2.2.2.1, ⟨hk.2.2.2.2.1, ⟨hk.2.2.2.2.2.1, hk.2.2.2.2.2.2⟩⟩⟩⟩⟩)⟩, ⟨by (with_reducible repeat (first | apply Kd.V_alloc | apply Kd.V_drewN | apply Kd.V_drew)); exact Kd.V_mono HO1_7.out (fun _ hk => ⟨hk.1, ⟨hk.2.2.1, ⟨hk.2.2.2.1, ⟨hk.2.2.2.2.1, ⟨hk.2.2.2.2.2.1, hk.2.2.2.2.2.2⟩⟩⟩⟩⟩)⟩, ⟨by (with_reducible repeat (first | apply Kd.R_alloc | apply Kd.R_drewN | apply Kd.R_drew)); exact HO389.out⟩, ⟨by (with_reducible repeat (first | apply Kd.R_alloc | apply Kd.R_drewN | apply Kd.R_drew)); exact HO392.out⟩, ⟨by (with_reducible repeat (first | refine blk_drewN ?_ _ | refine blk_drew ?_ | refine blk_alloc ?_ _)); exact BK374.out⟩, ⟨by (with_reducible repeat (first | refine blk_drewN ?_ _ | refine blk_drew ?_ | refine blk_alloc ?_ _)); exact BK375.out⟩, ⟨by (with_reducible repeat (first | refine blk_drewN ?_ _ | refine blk_drew ?_ | refine blk_alloc ?_ _)); exact BK395.out⟩, ⟨by repeat (first | (with_reducible first | exact HB.out | apply below_alloc | apply pw_below_drewN | apply below_drew1 | refine below_set ?_ GE374.out | refine below_set ?_ GE375.out | refine below_set ?_ GE395.out) | exact HB.out)⟩⟩
    case rest =>
      clear HC7
      try clear c1
      try clear c2
      try clear p2
      try clear c3
      try clear c4
      try clear c5
      try clear c8
      try clear c9
      try clear c10
      try clear c12
      try clear c20
      try clear c21
      try clear c26
      try clear c26b0
      try clear c26b1
      try clear c28
      try clear c30
      try clear c31
      try clear c33
      try clear c38
      try clear c39
      try clear c41
      try clear hcz11_0
      try clear hcz11_1
      try clear hcz11_2
      try clear hcz11_3
      try clear hcz11_4
      try clear hcz11_5
      try clear hcz11_6
      try clear hcz11_7
      try clear hcz11_8
      try clear hcz12_0
      try clear hcz12_1
      try clear hcz12_2
      try clear hcz12_3
      try clear hcz12_4
      try clear hcz12_5
      try clear hcz12_6
      try clear hcz12_7
      try clear hcz12_8
      try clear hcz17_0
      try clear hcz17_1
      try clear hcz17_2
      try clear hcz17_3
      try clear hcz17_4
      try clear hcz17_5
      try clear hcz17_6
      try clear hcz17_7
      try clear hcz17_8
      try clear hcz22_0
      try clear hcz22_1
      try clear hcz22_2
      try clear hcz22_3
      try clear hcz22_4
      try clear hcz22_5
      try clear hcz22_6
      try clear hcz22_7
      try clear hcz22_8
      try clear hcz32_0
      try clear hcz32_1
      try clear hcz32_2
      try clear hcz32_3
      try clear hcz32_4
      try clear hcz32_5
      try clear hcz32_6
      try clear hcz32_7
      try clear hcz32_8
      try clear hcz34_0
      try clear hcz34_1
      try clear hcz34_2
      try clear hcz34_3
      try clear hcz34_4
      try clear hcz34_5
      try clear hcz34_6
      try clear hcz34_7
      try clear hcz34_8
      try clear hcz36_0
      try clear hcz36_1
      try clear hcz36_2
      try clear hcz36_3
      try clear hcz36_4
      try clear hcz36_5
      try clear hcz36_6
      try clear hcz36_7
      try clear hcz36_8
      try clear hcz40_0
      try clear hcz40_1
      try clear hcz40_2
      try clear hcz40_3
      try clear hcz40_4
      try clear hcz40_5
      try clear hcz40_6
      try clear hcz40_7
      try clear hcz40_8
      try clear hcz42_0
      try clear hcz42_1
      try clear hcz42_2
      try clear hcz42_3
      try clear hcz42_4
      try clear hcz42_5
      try clear hcz42_6
      try clear hcz42_7
      try clear hcz42_8
      try clear hfz11_0
      try clear hfz11_1
      try clear hfz11_2
      try clear hfz11_3
      try clear hfz11_4
      try clear hfz11_5
      try clear hfz11_6
      try clear hfz11_7
      try clear hfz11_8
      try clear hfz12_0
      try clear hfz12_1
      try clear hfz12_2
      try clear hfz12_3
      try clear hfz12_4
      try clear hfz12_5
      try clear hfz12_6
      try clear hfz12_7
      try clear hfz12_8
      try clear hfz17_0
      try clear hfz17_1
      try clear hfz17_2
      try clear hfz17_3
      try clear hfz17_4
      try clear hfz17_5
      try clear hfz17_6
      try clear hfz17_7
      try clear hfz17_8
      try clear hfz22_0
      try clear hfz22_1
      try clear hfz22_2
      try clear hfz22_3
      try clear hfz22_4
      try clear hfz22_5
      try clear hfz22_6
      try clear hfz22_7
      try clear hfz22_8
      try clear hfz32_0
      try clear hfz32_1
      try clear hfz32_2
      try clear hfz32_3
      try clear hfz32_4
      try clear hfz32_5
      try clear hfz32_6
      try clear hfz32_7
      try clear hfz32_8
      try clear hfz34_0
      try clear hfz34_1
      try clear hfz34_2
      try clear hfz34_3
      try clear hfz34_4
      try clear hfz34_5
      try clear hfz34_6
      try clear hfz34_7
      try clear hfz34_8
      try clear hfz36_0
      try clear hfz36_1
      try clear hfz36_2
      try clear hfz36_3
      try clear hfz36_4
      try clear hfz36_5
      try clear hfz36_6
      try clear hfz36_7
      try clear hfz36_8
      try clear hfz40_0
      try clear hfz40_1
      try clear hfz40_2
      try clear hfz40_3
      try clear hfz40_4
      try clear hfz40_5
      try clear hfz40_6
      try clear hfz40_7
      try clear hfz40_8
      try clear hfz42_0
      try clear hfz42_1
      try clear hfz42_2
      try clear hfz42_3
      try clear hfz42_4
      try clear hfz42_5
      try clear hfz42_6
      try clear hfz42_7
      try clear hfz42_8
      obtain ⟨kq, x33_6, rfl, HA, HJ6, HO_375006, HO_375007, HO_376006, HO_376007, HO_396006, HO_396007, BK374, BK375, BK395, HB⟩ := hcut
      cases kq with
      | zero => exact absurd HA.out (by simp [althinglaw05_CommandMeets.j0])
      | succ kj6 =>
        have H := HA.out
        clear HA
        simp only [althinglaw05_CommandMeets.j0] at H
        by_cases c44 : x33_6 = true
        · subst c44
          have H1 : (none) = some r := by rw [if_pos rfl] at H; exact H
          clear H
          have H := H1
          clear H1
          exact absurd H (by simp)
        · replace c44 := Bool.eq_false_iff.mpr c44
          subst c44
          have H1 : ((command_Interfere.f kj6 a0_0 a0_1 a0_2 a0_3 a0_4 a0_5 l0_6 l0_7 a0_8 a1_0 a1_1 a1_2 a1_3 a1_4 a1_5 l1_6 l1_7 a1_8).bind fun t398 => ((command_Interfere.f kj6 a1_0 a1_1 a1_2 a1_3 a1_4 a1_5 l1_6 l1_7 a1_8 a0_0 a0_1 a0_2 a0_3 a0_4 a0_5 l0_6 l0_7 a0_8).bind fun t399 => (if (t398 == t399) = true then ((command_Interfere.f kj6 a0_0 a0_1 a0_2 a0_3 a0_4 a0_5 l0_6 l0_7 a0_8 a0_0 a0_1 a0_2 a0_3 a0_4 a0_5 l0_6 l0_7 a0_8).bind fun t400 => (if (t400 == (a0_0 != 0)) = true then ((command_Interfere.f kj6 a0_0 a0_1 a0_2 a0_3 a0_4 a0_5 l0_6 l0_7 a0_8 0 0 0 0 0 0 ([] : List (S38)) ([] : List (S40)) false).bind fun t401 => (if t401 = true then (none) else ((command_Right.f kj6 0 0 0 0 0 0 ([] : List (S38)) ([] : List (S40)) false).bind fun t402 => (if t402 = true then ((althinglaw05_awake.f kj6).bind fun t403 => (some t403)) else (none))))) else (none))) else (none)))) = some r := by rw [if_neg (show ¬ (false = true) by decide)] at H; exact H
          clear H
          have H := H1
          clear H1
          replace H := Option.bind_eq_some_iff.mp H
          obtain ⟨t398, A450, H⟩ := H
          replace H : ((command_Interfere.f kj6 a1_0 a1_1 a1_2 a1_3 a1_4 a1_5 l1_6 l1_7 a1_8 a0_0 a0_1 a0_2 a0_3 a0_4 a0_5 l0_6 l0_7 a0_8).bind fun t399 => (if (t398 == t399) = true then ((command_Interfere.f kj6 a0_0 a0_1 a0_2 a0_3 a0_4 a0_5 l0_6 l0_7 a0_8 a0_0 a0_1 a0_2 a0_3 a0_4 a0_5 l0_6 l0_7 a0_8).bind fun t400 => (if (t400 == (a0_0 != 0)) = true then ((command_Interfere.f kj6 a0_0 a0_1 a0_2 a0_3 a0_4 a0_5 l0_6 l0_7 a0_8 0 0 0 0 0 0 ([] : List (S38)) ([] : List (S40)) false).bind fun t401 => (if t401 = true then (none) else ((command_Right.f kj6 0 0 0 0 0 0 ([] : List (S38)) ([] : List (S40)) false).bind fun t402 => (if t402 = true then ((althinglaw05_awake.f kj6).bind fun t403 => (some t403)) else (none))))) else (none))) else (none))) = some r := H
          have A45 := Aside0.mk A450
          clear A450
          replace H := Option.bind_eq_some_iff.mp H
          obtain ⟨t399, A460, H⟩ := H
          replace H : (if (t398 == t399) = true then ((command_Interfere.f kj6 a0_0 a0_1 a0_2 a0_3 a0_4 a0_5 l0_6 l0_7 a0_8 a0_0 a0_1 a0_2 a0_3 a0_4 a0_5 l0_6 l0_7 a0_8).bind fun t400 => (if (t400 == (a0_0 != 0)) = true then ((command_Interfere.f kj6 a0_0 a0_1 a0_2 a0_3 a0_4 a0_5 l0_6 l0_7 a0_8 0 0 0 0 0 0 ([] : List (S38)) ([] : List (S40)) false).bind fun t401 => (if t401 = true then (none) else ((command_Right.f kj6 0 0 0 0 0 0 ([] : List (S38)) ([] : List (S40)) false).bind fun t402 => (if t402 = true then ((althinglaw05_awake.f kj6).bind fun t403 => (some t403)) else (none))))) else (none))) else (none)) = some r := H
          have A46 := Aside0.mk A460
          clear A460
          by_cases c47 : (t398 == t399) = true
          · rw [if_pos c47] at H
            have c47b0 : (t398 == t399) = true := c47
            (try (have c47b1 : decide (t398 = t399) = true := by simpa using c47))
            (try (have c47b2 : (t398 == t399) = true := by simpa using c47))
            clear c47
            replace H := Option.bind_eq_some_iff.mp H
            obtain ⟨t400, A480, H⟩ := H
            replace H : (if (t400 == (a0_0 != 0)) = true then ((command_Interfere.f kj6 a0_0 a0_1 a0_2 a0_3 a0_4 a0_5 l0_6 l0_7 a0_8 0 0 0 0 0 0 ([] : List (S38)) ([] : List (S40)) false).bind fun t401 => (if t401 = true then (none) else ((command_Right.f kj6 0 0 0 0 0 0 ([] : List (S38)) ([] : List (S40)) false).bind fun t402 => (if t402 = true then ((althinglaw05_awake.f kj6).bind fun t403 => (some t403)) else (none))))) else (none)) = some r := H
            have A48 := Aside0.mk A480
            clear A480
            by_cases c49 : (t400 == (a0_0 != 0)) = true
            · rw [if_pos c49] at H
              have c49b0 : (t400 == (a0_0 != 0)) = true := c49
              (try (have c49b1 : decide (t400 = (a0_0 != 0)) = true := by simpa using c49))
              (try (have c49b2 : (t400 == (a0_0 != 0)) = true := by simpa using c49))
              clear c49
              replace H := Option.bind_eq_some_iff.mp H
              obtain ⟨t401, A500, H⟩ := H
              replace H : (if t401 = true then (none) else ((command_Right.f kj6 0 0 0 0 0 0 ([] : List (S38)) ([] : List (S40)) false).bind fun t402 => (if t402 = true then ((althinglaw05_awake.f kj6).bind fun t403 => (some t403)) else (none)))) = some r := H
              have A50 := Aside0.mk A500
              clear A500
              by_cases c51 : t401 = true
              · subst c51
                have H1 : (none) = some r := by rw [if_pos rfl] at H; exact H
                clear H
                have H := H1
                clear H1
                exact absurd H (by simp)
              · replace c51 := Bool.eq_false_iff.mpr c51
                subst c51
                have H1 : ((command_Right.f kj6 0 0 0 0 0 0 ([] : List (S38)) ([] : List (S40)) false).bind fun t402 => (if t402 = true then ((althinglaw05_awake.f kj6).bind fun t403 => (some t403)) else (none))) = some r := by rw [if_neg (show ¬ (false = true) by decide)] at H; exact H
                clear H
                have H := H1
                clear H1
                replace H := Option.bind_eq_some_iff.mp H
                obtain ⟨t402, A520, H⟩ := H
                replace H : (if t402 = true then ((althinglaw05_awake.f kj6).bind fun t403 => (some t403)) else (none)) = some r := H
                have A52 := Aside0.mk A520
                clear A520
                by_cases c53 : t402 = true
                · subst c53
                  have H1 : ((althinglaw05_awake.f kj6).bind fun t403 => (some t403)) = some r := by rw [if_pos rfl] at H; exact H
                  clear H
                  have H := H1
                  clear H1
                  replace H := Option.bind_eq_some_iff.mp H
                  obtain ⟨t403, A540, H⟩ := H
                  replace H : (some t403) = some r := H
                  have A54 := Aside0.mk A540
                  clear A540
                  obtain rfl := Option.some.inj H
                  try go_wp2
                  have n0_ := Aside0.mk (Kd.V_drew HO_375006.out)
                  have n1_ := Aside0.mk (Kd.V_drew HO_375007.out)
                  have n2_ := Aside0.mk (Kd.V_drew HO_376006.out)
                  have n3_ := Aside0.mk (Kd.V_drew HO_376007.out)
                  have n4_ := Aside0.mk (Kd.R_drew HO_396006.out)
                  have n5_ := Aside0.mk (Kd.R_drew HO_396007.out)
                  have n6_ := Aside0.mk (blk_drew BK374.out)
                  have n7_ := Aside0.mk (blk_drew BK375.out)
                  have n8_ := Aside0.mk (blk_drew BK395.out)
                  have n9_ := Aside0.mk (below_drew1 HB.out)
                  clear HO_375006
                  clear HO_375007
                  clear HO_376006
                  clear HO_376007
                  clear HO_396006
                  clear HO_396007
                  clear BK374
                  clear BK375
                  clear BK395
                  clear HB
                  have HO_375006 := n0_
                  have HO_375007 := n1_
                  have HO_376006 := n2_
                  have HO_376007 := n3_
                  have HO_396006 := n4_
                  have HO_396007 := n5_
                  have BK374 := n6_
                  have BK375 := n7_
                  have BK395 := n8_
                  have HB := n9_
                  clear n0_ n1_ n2_ n3_ n4_ n5_ n6_ n7_ n8_ n9_
                  refine start_ (n := 30) (S := fun w' => w'.cell? ⟨gb374, 0, none⟩ = some (.int .i64 a0_0) ∧ w'.cell? ⟨gb374, 1, none⟩ = some (.int .i64 a0_1) ∧ w'.cell? ⟨gb374, 2, none⟩ = some (.int .i64 a0_2) ∧ w'.cell? ⟨gb374, 3, none⟩ = some (.int .i64 a0_3) ∧ w'.cell? ⟨gb374, 4, none⟩ = some (.int .i64 a0_4) ∧ w'.cell? ⟨gb374, 5, none⟩ = some (.int .i64 a0_5) ∧ w'.cell? ⟨gb374, 6, none⟩ = some (.slice A0_6 l0_6.length c0_6) ∧ w'.cell? ⟨gb374, 7, none⟩ = some (.slice A0_7 l0_7.length c0_7) ∧ w'.cell? ⟨gb374, 8, none⟩ = some (.bool a0_8) ∧ w'.cell? ⟨gb375, 0, none⟩ = some (.int .i64 a1_0) ∧ w'.cell? ⟨gb375, 1, none⟩ = some (.int .i64 a1_1) ∧ w'.cell? ⟨gb375, 2, none⟩ = some (.int .i64 a1_2) ∧ w'.cell? ⟨gb375, 3, none⟩ = some (.int .i64 a1_3) ∧ w'.cell? ⟨gb375, 4, none⟩ = some (.int .i64 a1_4) ∧ w'.cell? ⟨gb375, 5, none⟩ = some (.int .i64 a1_5) ∧ w'.cell? ⟨gb375, 6, none⟩ = some (.slice A1_6 l1_6.length c1_6) ∧ w'.cell? ⟨gb375, 7, none⟩ = some (.slice A1_7 l1_7.length c1_7) ∧ w'.cell? ⟨gb375, 8, none⟩ = some (.bool a1_8)) (ds := []) #[false, false, false, false, false, false, false, false, false, false, false, false, false, false, false, false, false, false, false, false, false, false, false, false, false, false, false, false, false, false] (by kernel_rfl) rfl rfl ⟨(blk_cell BK374.out 0).trans rfl, (blk_cell BK374.out 1).trans rfl, (blk_cell BK374.out 2).trans rfl, (blk_cell BK374.out 3).trans rfl, (blk_cell BK374.out 4).trans rfl, (blk_cell BK374.out 5).trans rfl, (blk_cell BK374.out 6).trans rfl, (blk_cell BK374.out 7).trans rfl, (blk_cell BK374.out 8).trans rfl, (blk_cell BK375.out 0).trans rfl, (blk_cell BK375.out 1).trans rfl, (blk_cell BK375.out 2).trans rfl, (blk_cell BK375.out 3).trans rfl, (blk_cell BK375.out 4).trans rfl, (blk_cell BK375.out 5).trans rfl, (blk_cell BK375.out 6).trans rfl, (blk_cell BK375.out 7).trans rfl, (blk_cell BK375.out 8).trans rfl⟩ (fun hHeld => ?_); refine with_tabW althinglaw05_CommandMeets.tab6 althinglaw05_CommandMeets.bits6 (fun HT_ HW_ => ?_)
                  generalize wc.drew = w55 at HO_375006 HO_375007 HO_376006 HO_376007 HO_396006 HO_396007 BK374 BK375 BK395 HB hHeld ⊢
                  refine take_ (i := 0) (N := some 34) (v := ?_) (a' := ?_) #[true, false, false, false, false, false, false, false, false, false, false, false, false, false, false, false, false, false, false, false, false, false, false, false, false, false, false, false, false, false] rfl rfl (take_ofW HT_.out HW_.out (by kernel_rfl)) (fun _ _ _ h => h) (Or.inl ⟨by rfl, ?_⟩) hHeld ?_ ?_
                  rotate_left
                  · rintro w' ⟨s0, s1, s2, s3, s4, s5, s6, s7, s8, s9, s10, s11, s12, s13, s14, s15, s16, s17⟩
                    go_simp
                    with_reducible rfl
                  rotate_left
                  · simp only [Act.put, List.setIfInBounds_toArray, List.set_cons_zero, List.set_cons_succ, i64_w, i32_w]
                    rfl
                  refine take_ (i := 1) (N := some 35) (v := ?_) (a' := ?_) #[true, true, false, false, false, false, false, false, false, false, false, false, false, false, false, false, false, false, false, false, false, false, false, false, false, false, false, false, false, false] rfl rfl (take_ofW HT_.out HW_.out (by kernel_rfl)) (fun _ _ _ h => h) (Or.inl ⟨by rfl, ?_⟩) hHeld ?_ ?_
                  rotate_left
                  · rintro w' ⟨s0, s1, s2, s3, s4, s5, s6, s7, s8, s9, s10, s11, s12, s13, s14, s15, s16, s17⟩
                    go_simp
                    with_reducible rfl
                  rotate_left
                  · simp only [Act.put, List.setIfInBounds_toArray, List.set_cons_zero, List.set_cons_succ, i64_w, i32_w]
                    rfl
                  refine take_ (i := 3) (N := some 37) (v := ?_) (a' := ?_) #[true, true, false, true, false, false, false, false, false, false, false, false, false, false, false, false, false, false, false, false, false, false, false, false, false, false, false, false, false, false] rfl rfl (take_ofW HT_.out HW_.out (by kernel_rfl)) (fun _ _ _ h => h) (Or.inl ⟨by rfl, ?_⟩) hHeld ?_ ?_
                  rotate_left
                  · rintro w' ⟨s0, s1, s2, s3, s4, s5, s6, s7, s8, s9, s10, s11, s12, s13, s14, s15, s16, s17⟩
                    go_simp
                    with_reducible rfl
                  rotate_left
                  · simp only [Act.put, List.setIfInBounds_toArray, List.set_cons_zero, List.set_cons_succ, i64_w, i32_w]
                    rfl
                  refine take_ (i := 4) (N := some 38) (v := ?_) (a' := ?_) #[true, true, false, true, true, false, false, false, false, false, false, false, false, false, false, false, false, false, false, false, false, false, false, false, false, false, false, false, false, false] rfl rfl (take_ofW HT_.out HW_.out (by kernel_rfl)) (fun _ _ _ h => h) (Or.inl ⟨by rfl, ?_⟩) hHeld ?_ ?_
                  rotate_left
                  · rintro w' ⟨s0, s1, s2, s3, s4, s5, s6, s7, s8, s9, s10, s11, s12, s13, s14, s15, s16, s17⟩
                    go_simp
                    with_reducible rfl
                  rotate_left
                  · simp only [Act.put, List.setIfInBounds_toArray, List.set_cons_zero, List.set_cons_succ, i64_w, i32_w]
                    rfl
                  refine one_ (i := 2) (N := some 36) #[true, true, true, true, true, false, false, false, false, false, false, false, false, false, false, false, false, false, false, false, false, false, false, false, false, false, false, false, false, false] rfl rfl (one_of HT_.out (by kernel_rfl)) (by decide) (fun K hK => ?_)
                  refine goes_ Try.func13 (by kernel_rfl) rfl #[.agg #[.int .i64 a0_0, .int .i64 a0_1, .int .i64 a0_2, .int .i64 a0_3, .int .i64 a0_4, .int .i64 a0_5, .slice A0_6 l0_6.length c0_6, .slice A0_7 l0_7.length c0_7, .bool a0_8], .agg #[.int .i64 a1_0, .int .i64 a1_1, .int .i64 a1_2, .int .i64 a1_3, .int .i64 a1_4, .int .i64 a1_5, .slice A1_6 l1_6.length c1_6, .slice A1_7 l1_7.length c1_7, .bool a1_8]] (by rfl) rfl rfl (by (try simp only [List.map_toArray, List.map_cons, List.map_nil]); first | done | rfl | (simp only [List.length_drop, List.length_take]; rfl)) ?_
                  with_reducible refine (command_Interfere.calls kj6 a0_0 a0_1 a0_2 a0_3 a0_4 a0_5 _ _ l0_6 _ _ l0_7 a0_8 a1_0 a1_1 a1_2 a1_3 a1_4 a1_5 _ _ l1_6 _ _ l1_7 a1_8 t398 _ ?side1 ?side2 ?side3 ?side4 ?side5 ?side6 ?side7 ?side8 A45.out).mono ?_
                  (case side1 => repeat (first | exact (Kd.V_reads' HO_375006.out).2.2 | (with_reducible refine Kd.C_alloc ?_ _) | (with_reducible refine Kd.C_drewN ?_ _) | (with_reducible refine Kd.C_drew ?_)))
                  (case side2 => exact (Kd.V_reads' HO_375006.out).2.1)
                  (case side3 => repeat (first | exact (Kd.V_reads' HO_375007.out).2.2 | (with_reducible refine Kd.C_alloc ?_ _) | (with_reducible refine Kd.C_drewN ?_ _) | (with_reducible refine Kd.C_drew ?_)))
                  (case side4 => exact (Kd.V_reads' HO_375007.out).2.1)
                  (case side5 => repeat (first | exact (Kd.V_reads' HO_376006.out).2.2 | (with_reducible refine Kd.C_alloc ?_ _) | (with_reducible refine Kd.C_drewN ?_ _) | (with_reducible refine Kd.C_drew ?_)))
                  (case side6 => exact (Kd.V_reads' HO_376006.out).2.1)
                  (case side7 => repeat (first | exact (Kd.V_reads' HO_376007.out).2.2 | (with_reducible refine Kd.C_alloc ?_ _) | (with_reducible refine Kd.C_drewN ?_ _) | (with_reducible refine Kd.C_drew ?_)))
                  (case side8 => exact (Kd.V_reads' HO_376007.out).2.1)
                  rintro e w56 ⟨rfl, hb⟩
                  refine ⟨_, rfl, ?_⟩
                  have n0_ := Aside0.mk (Kd.V_below (by (with_reducible repeat (first | apply Kd.V_alloc | apply Kd.V_drewN | apply Kd.V_drew)); exact HO_375006.out) hb)
                  have n1_ := Aside0.mk (Kd.V_below (by (with_reducible repeat (first | apply Kd.V_alloc | apply Kd.V_drewN | apply Kd.V_drew)); exact HO_375007.out) hb)
                  have n2_ := Aside0.mk (Kd.V_below (by (with_reducible repeat (first | apply Kd.V_alloc | apply Kd.V_drewN | apply Kd.V_drew)); exact HO_376006.out) hb)
                  have n3_ := Aside0.mk (Kd.V_below (by (with_reducible repeat (first | apply Kd.V_alloc | apply Kd.V_drewN | apply Kd.V_drew)); exact HO_376007.out) hb)
                  have n4_ := Aside0.mk (Kd.R_below (by (with_reducible repeat (first | apply Kd.R_alloc | apply Kd.R_drewN | apply Kd.R_drew)); exact HO_396006.out) hb)
                  have n5_ := Aside0.mk (Kd.R_below (by (with_reducible repeat (first | apply Kd.R_alloc | apply Kd.R_drewN | apply Kd.R_drew)); exact HO_396007.out) hb)
                  have n6_ := Aside0.mk (blk_below (g := gb374) (o := .cells #[.int .i64 a0_0, .int .i64 a0_1, .int .i64 a0_2, .int .i64 a0_3, .int .i64 a0_4, .int .i64 a0_5, .slice A0_6 l0_6.length c0_6, .slice A0_7 l0_7.length c0_7, .bool a0_8] 29 (0, 0)) (by (with_reducible repeat (first | refine blk_drewN ?_ _ | refine blk_drew ?_ | refine blk_alloc ?_ _)); exact BK374.out) hb)
                  have n7_ := Aside0.mk (blk_below (g := gb375) (o := .cells #[.int .i64 a1_0, .int .i64 a1_1, .int .i64 a1_2, .int .i64 a1_3, .int .i64 a1_4, .int .i64 a1_5, .slice A1_6 l1_6.length c1_6, .slice A1_7 l1_7.length c1_7, .bool a1_8] 29 (0, 0)) (by (with_reducible repeat (first | refine blk_drewN ?_ _ | refine blk_drew ?_ | refine blk_alloc ?_ _)); exact BK375.out) hb)
                  have n8_ := Aside0.mk (blk_below (g := gb395) (o := .cells #[.int .i64 t381, .int .i64 t382, .int .i64 t383, .int .i64 t384, .int .i64 t385, .int .i64 t386, .slice Ao23 t387.length co23, .slice Ao24 t390.length co24, .bool t393] 29 (0, 0)) (by (with_reducible repeat (first | refine blk_drewN ?_ _ | refine blk_drew ?_ | refine blk_alloc ?_ _)); exact BK395.out) hb)
                  have n9_ := Aside0.mk (below_step (by repeat (first | (with_reducible first | exact HB.out | apply below_alloc | apply pw_below_drewN | apply below_drew1 | refine below_set ?_ GE374.out | refine below_set ?_ GE375.out | refine below_set ?_ GE395.out) | exact HB.out)) hb)
                  clear HO_375006
                  clear HO_375007
                  clear HO_376006
                  clear HO_376007
                  clear HO_396006
                  clear HO_396007
                  clear BK374
                  clear BK375
                  clear BK395
                  clear HB
                  have HO_375006 := n0_
                  have HO_375007 := n1_
                  have HO_376006 := n2_
                  have HO_376007 := n3_
                  have HO_396006 := n4_
                  have HO_396007 := n5_
                  have BK374 := n6_
                  have BK375 := n7_
                  have BK395 := n8_
                  have HB := n9_
                  clear n0_ n1_ n2_ n3_ n4_ n5_ n6_ n7_ n8_ n9_
                  (try clear hb)
                  (try clear hb2)
                  (try clear hk)
                  (try clear hi)
                  refine hK.out _ _ ⟨(blk_cell BK374.out 0).trans rfl, (blk_cell BK374.out 1).trans rfl, (blk_cell BK374.out 2).trans rfl, (blk_cell BK374.out 3).trans rfl, (blk_cell BK374.out 4).trans rfl, (blk_cell BK374.out 5).trans rfl, (blk_cell BK374.out 6).trans rfl, (blk_cell BK374.out 7).trans rfl, (blk_cell BK374.out 8).trans rfl, (blk_cell BK375.out 0).trans rfl, (blk_cell BK375.out 1).trans rfl, (blk_cell BK375.out 2).trans rfl, (blk_cell BK375.out 3).trans rfl, (blk_cell BK375.out 4).trans rfl, (blk_cell BK375.out 5).trans rfl, (blk_cell BK375.out 6).trans rfl, (blk_cell BK375.out 7).trans rfl, (blk_cell BK375.out 8).trans rfl⟩ (fun hHeld => ?_)
                  clear hK K
                  refine norm_ (a' := ?_) ?_ ?_
                  rotate_left
                  · show Act.put _ (some 36) _ = _
                    simp only [Act.put, List.setIfInBounds_toArray, List.set_cons_zero, List.set_cons_succ, i64_w, i32_w]
                    rfl
                  refine one_ (i := 5) (N := some 39) #[true, true, true, true, true, true, false, false, false, false, false, false, false, false, false, false, false, false, false, false, false, false, false, false, false, false, false, false, false, false] rfl rfl (one_of HT_.out (by kernel_rfl)) (by decide) (fun K hK => ?_)
                  refine goes_ Try.func13 (by kernel_rfl) rfl #[.agg #[.int .i64 a1_0, .int .i64 a1_1, .int .i64 a1_2, .int .i64 a1_3, .int .i64 a1_4, .int .i64 a1_5, .slice A1_6 l1_6.length c1_6, .slice A1_7 l1_7.length c1_7, .bool a1_8], .agg #[.int .i64 a0_0, .int .i64 a0_1, .int .i64 a0_2, .int .i64 a0_3, .int .i64 a0_4, .int .i64 a0_5, .slice A0_6 l0_6.length c0_6, .slice A0_7 l0_7.length c0_7, .bool a0_8]] (by rfl) rfl rfl (by (try simp only [List.map_toArray, List.map_cons, List.map_nil]); first | done | rfl | (simp only [List.length_drop, List.length_take]; rfl)) ?_
                  with_reducible refine (command_Interfere.calls kj6 a1_0 a1_1 a1_2 a1_3 a1_4 a1_5 _ _ l1_6 _ _ l1_7 a1_8 a0_0 a0_1 a0_2 a0_3 a0_4 a0_5 _ _ l0_6 _ _ l0_7 a0_8 t399 _ ?side1 ?side2 ?side3 ?side4 ?side5 ?side6 ?side7 ?side8 A46.out).mono ?_
                  (case side1 => repeat (first | exact (Kd.V_reads' HO_376006.out).2.2 | (with_reducible refine Kd.C_alloc ?_ _) | (with_reducible refine Kd.C_drewN ?_ _) | (with_reducible refine Kd.C_drew ?_)))
                  (case side2 => exact (Kd.V_reads' HO_376006.out).2.1)
                  (case side3 => repeat (first | exact (Kd.V_reads' HO_376007.out).2.2 | (with_reducible refine Kd.C_alloc ?_ _) | (with_reducible refine Kd.C_drewN ?_ _) | (with_reducible refine Kd.C_drew ?_)))
                  (case side4 => exact (Kd.V_reads' HO_376007.out).2.1)
                  (case side5 => repeat (first | exact (Kd.V_reads' HO_375006.out).2.2 | (with_reducible refine Kd.C_alloc ?_ _) | (with_reducible refine Kd.C_drewN ?_ _) | (with_reducible refine Kd.C_drew ?_)))
                  (case side6 => exact (Kd.V_reads' HO_375006.out).2.1)
                  (case side7 => repeat (first | exact (Kd.V_reads' HO_375007.out).2.2 | (with_reducible refine Kd.C_alloc ?_ _) | (with_reducible refine Kd.C_drewN ?_ _) | (with_reducible refine Kd.C_drew ?_)))
                  (case side8 => exact (Kd.V_reads' HO_375007.out).2.1)
                  rintro e w57 ⟨rfl, hb⟩
                  refine ⟨_, rfl, ?_⟩
                  have n0_ := Aside0.mk (Kd.V_below (by (with_reducible repeat (first | apply Kd.V_alloc | apply Kd.V_drewN | apply Kd.V_drew)); exact HO_375006.out) hb)
                  have n1_ := Aside0.mk (Kd.V_below (by (with_reducible repeat (first | apply Kd.V_alloc | apply Kd.V_drewN | apply Kd.V_drew)); exact HO_375007.out) hb)
                  have n2_ := Aside0.mk (Kd.V_below (by (with_reducible repeat (first | apply Kd.V_alloc | apply Kd.V_drewN | apply Kd.V_drew)); exact HO_376006.out) hb)
                  have n3_ := Aside0.mk (Kd.V_below (by (with_reducible repeat (first | apply Kd.V_alloc | apply Kd.V_drewN | apply Kd.V_drew)); exact HO_376007.out) hb)
                  have n4_ := Aside0.mk (Kd.R_below (by (with_reducible repeat (first | apply Kd.R_alloc | apply Kd.R_drewN | apply Kd.R_drew)); exact HO_396006.out) hb)
                  have n5_ := Aside0.mk (Kd.R_below (by (with_reducible repeat (first | apply Kd.R_alloc | apply Kd.R_drewN | apply Kd.R_drew)); exact HO_396007.out) hb)
                  have n6_ := Aside0.mk (blk_below (g := gb374) (o := .cells #[.int .i64 a0_0, .int .i64 a0_1, .int .i64 a0_2, .int .i64 a0_3, .int .i64 a0_4, .int .i64 a0_5, .slice A0_6 l0_6.length c0_6, .slice A0_7 l0_7.length c0_7, .bool a0_8] 29 (0, 0)) (by (with_reducible repeat (first | refine blk_drewN ?_ _ | refine blk_drew ?_ | refine blk_alloc ?_ _)); exact BK374.out) hb)
                  have n7_ := Aside0.mk (blk_below (g := gb375) (o := .cells #[.int .i64 a1_0, .int .i64 a1_1, .int .i64 a1_2, .int .i64 a1_3, .int .i64 a1_4, .int .i64 a1_5, .slice A1_6 l1_6.length c1_6, .slice A1_7 l1_7.length c1_7, .bool a1_8] 29 (0, 0)) (by (with_reducible repeat (first | refine blk_drewN ?_ _ | refine blk_drew ?_ | refine blk_alloc ?_ _)); exact BK375.out) hb)
                  have n8_ := Aside0.mk (blk_below (g := gb395) (o := .cells #[.int .i64 t381, .int .i64 t382, .int .i64 t383, .int .i64 t384, .int .i64 t385, .int .i64 t386, .slice Ao23 t387.length co23, .slice Ao24 t390.length co24, .bool t393] 29 (0, 0)) (by (with_reducible repeat (first | refine blk_drewN ?_ _ | refine blk_drew ?_ | refine blk_alloc ?_ _)); exact BK395.out) hb)
                  have n9_ := Aside0.mk (below_step (by repeat (first | (with_reducible first | exact HB.out | apply below_alloc | apply pw_below_drewN | apply below_drew1 | refine below_set ?_ GE374.out | refine below_set ?_ GE375.out | refine below_set ?_ GE395.out) | exact HB.out)) hb)
                  clear HO_375006
                  clear HO_375007
                  clear HO_376006
                  clear HO_376007
                  clear HO_396006
                  clear HO_396007
                  clear BK374
                  clear BK375
                  clear BK395
                  clear HB
                  have HO_375006 := n0_
                  have HO_375007 := n1_
                  have HO_376006 := n2_
                  have HO_376007 := n3_
                  have HO_396006 := n4_
                  have HO_396007 := n5_
                  have BK374 := n6_
                  have BK375 := n7_
                  have BK395 := n8_
                  have HB := n9_
                  clear n0_ n1_ n2_ n3_ n4_ n5_ n6_ n7_ n8_ n9_
                  (try clear hb)
                  (try clear hb2)
                  (try clear hk)
                  (try clear hi)
                  refine hK.out _ _ ⟨(blk_cell BK374.out 0).trans rfl, (blk_cell BK374.out 1).trans rfl, (blk_cell BK374.out 2).trans rfl, (blk_cell BK374.out 3).trans rfl, (blk_cell BK374.out 4).trans rfl, (blk_cell BK374.out 5).trans rfl, (blk_cell BK374.out 6).trans rfl, (blk_cell BK374.out 7).trans rfl, (blk_cell BK374.out 8).trans rfl, (blk_cell BK375.out 0).trans rfl, (blk_cell BK375.out 1).trans rfl, (blk_cell BK375.out 2).trans rfl, (blk_cell BK375.out 3).trans rfl, (blk_cell BK375.out 4).trans rfl, (blk_cell BK375.out 5).trans rfl, (blk_cell BK375.out 6).trans rfl, (blk_cell BK375.out 7).trans rfl, (blk_cell BK375.out 8).trans rfl⟩ (fun hHeld => ?_)
                  clear hK K
                  refine norm_ (a' := ?_) ?_ ?_
                  rotate_left
                  · show Act.put _ (some 39) _ = _
                    simp only [Act.put, List.setIfInBounds_toArray, List.set_cons_zero, List.set_cons_succ, i64_w, i32_w]
                    rfl
                  refine pure_ (i := 6) (N := some 40) (v := ?_) (a' := ?_) #[true, true, true, true, true, true, true, false, false, false, false, false, false, false, false, false, false, false, false, false, false, false, false, false, false, false, false, false, false, false] rfl rfl (any_of HT_.out (by kernel_rfl)) (fun _ _ _ h => h) (Or.inl ⟨by rfl, ?_⟩) ?_ ?_
                  rotate_left
                  · intro w'
                    go_simp
                    with_reducible rfl
                  rotate_left
                  · simp only [Act.put, List.setIfInBounds_toArray, List.set_cons_zero, List.set_cons_succ, i64_w, i32_w]
                    rfl
                  refine pure_ (i := 7) (N := some 41) (v := ?_) (a' := ?_) #[true, true, true, true, true, true, true, true, false, false, false, false, false, false, false, false, false, false, false, false, false, false, false, false, false, false, false, false, false, false] rfl rfl (any_of HT_.out (by kernel_rfl)) (fun _ _ _ h => h) (Or.inl ⟨by rfl, ?_⟩) ?_ ?_
                  rotate_left
                  · intro w'
                    go_simp
                    with_reducible rfl
                  rotate_left
                  · simp only [Act.put, List.setIfInBounds_toArray, List.set_cons_zero, List.set_cons_succ, i64_w, i32_w]
                    rfl
                  refine pure_ (i := 11) (N := some 45) (v := ?_) (a' := ?_) #[true, true, true, true, true, true, true, true, false, false, false, true, false, false, false, false, false, false, false, false, false, false, false, false, false, false, false, false, false, false] rfl rfl (any_of HT_.out (by kernel_rfl)) (fun _ _ _ h => h) (Or.inl ⟨by rfl, ?_⟩) ?_ ?_
                  rotate_left
                  · intro w'
                    go_simp
                    with_reducible rfl
                  rotate_left
                  · simp only [Act.put, List.setIfInBounds_toArray, List.set_cons_zero, List.set_cons_succ, i64_w, i32_w]
                    rfl
                  refine take_ (i := 8) (N := some 42) (v := ?_) (a' := ?_) #[true, true, true, true, true, true, true, true, true, false, false, true, false, false, false, false, false, false, false, false, false, false, false, false, false, false, false, false, false, false] rfl rfl (take_ofW HT_.out HW_.out (by kernel_rfl)) (fun _ _ _ h => h) (Or.inl ⟨by rfl, ?_⟩) hHeld ?_ ?_
                  rotate_left
                  · rintro w' ⟨s0, s1, s2, s3, s4, s5, s6, s7, s8, s9, s10, s11, s12, s13, s14, s15, s16, s17⟩
                    go_simp
                    with_reducible rfl
                  rotate_left
                  · simp only [Act.put, List.setIfInBounds_toArray, List.set_cons_zero, List.set_cons_succ, i64_w, i32_w]
                    rfl
                  refine take_ (i := 9) (N := some 43) (v := ?_) (a' := ?_) #[true, true, true, true, true, true, true, true, true, true, false, true, false, false, false, false, false, false, false, false, false, false, false, false, false, false, false, false, false, false] rfl rfl (take_ofW HT_.out HW_.out (by kernel_rfl)) (fun _ _ _ h => h) (Or.inl ⟨by rfl, ?_⟩) hHeld ?_ ?_
                  rotate_left
                  · rintro w' ⟨s0, s1, s2, s3, s4, s5, s6, s7, s8, s9, s10, s11, s12, s13, s14, s15, s16, s17⟩
                    go_simp
                    with_reducible rfl
                  rotate_left
                  · simp only [Act.put, List.setIfInBounds_toArray, List.set_cons_zero, List.set_cons_succ, i64_w, i32_w]
                    rfl
                  refine take_ (i := 12) (N := some 46) (v := ?_) (a' := ?_) #[true, true, true, true, true, true, true, true, true, true, false, true, true, false, false, false, false, false, false, false, false, false, false, false, false, false, false, false, false, false] rfl rfl (take_ofW HT_.out HW_.out (by kernel_rfl)) (fun _ _ _ h => h) (Or.inl ⟨by rfl, ?_⟩) hHeld ?_ ?_
                  rotate_left
                  · rintro w' ⟨s0, s1, s2, s3, s4, s5, s6, s7, s8, s9, s10, s11, s12, s13, s14, s15, s16, s17⟩
                    go_simp
                    with_reducible rfl
                  rotate_left
                  · simp only [Act.put, List.setIfInBounds_toArray, List.set_cons_zero, List.set_cons_succ, i64_w, i32_w]
                    rfl
                  refine pure_ (i := 13) (N := some 47) (v := ?_) (a' := ?_) #[true, true, true, true, true, true, true, true, true, true, false, true, true, true, false, false, false, false, false, false, false, false, false, false, false, false, false, false, false, false] rfl rfl (any_of HT_.out (by kernel_rfl)) (fun _ _ _ h => h) (Or.inl ⟨by rfl, ?_⟩) ?_ ?_
                  rotate_left
                  · intro w'
                    go_simp
                    with_reducible rfl
                  rotate_left
                  · simp only [Act.put, List.setIfInBounds_toArray, List.set_cons_zero, List.set_cons_succ, i64_w, i32_w]
                    rfl
                  refine one_ (i := 10) (N := some 44) #[true, true, true, true, true, true, true, true, true, true, true, true, true, true, false, false, false, false, false, false, false, false, false, false, false, false, false, false, false, false] rfl rfl (one_of HT_.out (by kernel_rfl)) (by decide) (fun K hK => ?_)
                  refine goes_ Try.func13 (by kernel_rfl) rfl #[.agg #[.int .i64 a0_0, .int .i64 a0_1, .int .i64 a0_2, .int .i64 a0_3, .int .i64 a0_4, .int .i64 a0_5, .slice A0_6 l0_6.length c0_6, .slice A0_7 l0_7.length c0_7, .bool a0_8], .agg #[.int .i64 a0_0, .int .i64 a0_1, .int .i64 a0_2, .int .i64 a0_3, .int .i64 a0_4, .int .i64 a0_5, .slice A0_6 l0_6.length c0_6, .slice A0_7 l0_7.length c0_7, .bool a0_8]] (by rfl) rfl rfl (by (try simp only [List.map_toArray, List.map_cons, List.map_nil]); first | done | rfl | (simp only [List.length_drop, List.length_take]; rfl)) ?_
                  with_reducible refine (command_Interfere.calls kj6 a0_0 a0_1 a0_2 a0_3 a0_4 a0_5 _ _ l0_6 _ _ l0_7 a0_8 a0_0 a0_1 a0_2 a0_3 a0_4 a0_5 _ _ l0_6 _ _ l0_7 a0_8 t400 _ ?side1 ?side2 ?side3 ?side4 ?side5 ?side6 ?side7 ?side8 A48.out).mono ?_
                  (case side1 => repeat (first | exact (Kd.V_reads' HO_375006.out).2.2 | (with_reducible refine Kd.C_alloc ?_ _) | (with_reducible refine Kd.C_drewN ?_ _) | (with_reducible refine Kd.C_drew ?_)))
                  (case side2 => exact (Kd.V_reads' HO_375006.out).2.1)
                  (case side3 => repeat (first | exact (Kd.V_reads' HO_375007.out).2.2 | (with_reducible refine Kd.C_alloc ?_ _) | (with_reducible refine Kd.C_drewN ?_ _) | (with_reducible refine Kd.C_drew ?_)))
                  (case side4 => exact (Kd.V_reads' HO_375007.out).2.1)
                  (case side5 => repeat (first | exact (Kd.V_reads' HO_375006.out).2.2 | (with_reducible refine Kd.C_alloc ?_ _) | (with_reducible refine Kd.C_drewN ?_ _) | (with_reducible refine Kd.C_drew ?_)))
                  (case side6 => exact (Kd.V_reads' HO_375006.out).2.1)
                  (case side7 => repeat (first | exact (Kd.V_reads' HO_375007.out).2.2 | (with_reducible refine Kd.C_alloc ?_ _) | (with_reducible refine Kd.C_drewN ?_ _) | (with_reducible refine Kd.C_drew ?_)))
                  (case side8 => exact (Kd.V_reads' HO_375007.out).2.1)
                  rintro e w58 ⟨rfl, hb⟩
                  refine ⟨_, rfl, ?_⟩
                  have n0_ := Aside0.mk (Kd.V_below (by (with_reducible repeat (first | apply Kd.V_alloc | apply Kd.V_drewN | apply Kd.V_drew)); exact HO_375006.out) hb)
                  have n1_ := Aside0.mk (Kd.V_below (by (with_reducible repeat (first | apply Kd.V_alloc | apply Kd.V_drewN | apply Kd.V_drew)); exact HO_375007.out) hb)
                  have n2_ := Aside0.mk (Kd.V_below (by (with_reducible repeat (first | apply Kd.V_alloc | apply Kd.V_drewN | apply Kd.V_drew)); exact HO_376006.out) hb)
                  have n3_ := Aside0.mk (Kd.V_below (by (with_reducible repeat (first | apply Kd.V_alloc | apply Kd.V_drewN | apply Kd.V_drew)); exact HO_376007.out) hb)
                  have n4_ := Aside0.mk (Kd.R_below (by (with_reducible repeat (first | apply Kd.R_alloc | apply Kd.R_drewN | apply Kd.R_drew)); exact HO_396006.out) hb)
                  have n5_ := Aside0.mk (Kd.R_below (by (with_reducible repeat (first | apply Kd.R_alloc | apply Kd.R_drewN | apply Kd.R_drew)); exact HO_396007.out) hb)
                  have n6_ := Aside0.mk (blk_below (g := gb374) (o := .cells #[.int .i64 a0_0, .int .i64 a0_1, .int .i64 a0_2, .int .i64 a0_3, .int .i64 a0_4, .int .i64 a0_5, .slice A0_6 l0_6.length c0_6, .slice A0_7 l0_7.length c0_7, .bool a0_8] 29 (0, 0)) (by (with_reducible repeat (first | refine blk_drewN ?_ _ | refine blk_drew ?_ | refine blk_alloc ?_ _)); exact BK374.out) hb)
                  have n7_ := Aside0.mk (blk_below (g := gb375) (o := .cells #[.int .i64 a1_0, .int .i64 a1_1, .int .i64 a1_2, .int .i64 a1_3, .int .i64 a1_4, .int .i64 a1_5, .slice A1_6 l1_6.length c1_6, .slice A1_7 l1_7.length c1_7, .bool a1_8] 29 (0, 0)) (by (with_reducible repeat (first | refine blk_drewN ?_ _ | refine blk_drew ?_ | refine blk_alloc ?_ _)); exact BK375.out) hb)
                  have n8_ := Aside0.mk (blk_below (g := gb395) (o := .cells #[.int .i64 t381, .int .i64 t382, .int .i64 t383, .int .i64 t384, .int .i64 t385, .int .i64 t386, .slice Ao23 t387.length co23, .slice Ao24 t390.length co24, .bool t393] 29 (0, 0)) (by (with_reducible repeat (first | refine blk_drewN ?_ _ | refine blk_drew ?_ | refine blk_alloc ?_ _)); exact BK395.out) hb)
                  have n9_ := Aside0.mk (below_step (by repeat (first | (with_reducible first | exact HB.out | apply below_alloc | apply pw_below_drewN | apply below_drew1 | refine below_set ?_ GE374.out | refine below_set ?_ GE375.out | refine below_set ?_ GE395.out) | exact HB.out)) hb)
                  clear HO_375006
                  clear HO_375007
                  clear HO_376006
                  clear HO_376007
                  clear HO_396006
                  clear HO_396007
                  clear BK374
                  clear BK375
                  clear BK395
                  clear HB
                  have HO_375006 := n0_
                  have HO_375007 := n1_
                  have HO_376006 := n2_
                  have HO_376007 := n3_
                  have HO_396006 := n4_
                  have HO_396007 := n5_
                  have BK374 := n6_
                  have BK375 := n7_
                  have BK395 := n8_
                  have HB := n9_
                  clear n0_ n1_ n2_ n3_ n4_ n5_ n6_ n7_ n8_ n9_
                  (try clear hb)
                  (try clear hb2)
                  (try clear hk)
                  (try clear hi)
                  refine hK.out _ _ ⟨(blk_cell BK374.out 0).trans rfl, (blk_cell BK374.out 1).trans rfl, (blk_cell BK374.out 2).trans rfl, (blk_cell BK374.out 3).trans rfl, (blk_cell BK374.out 4).trans rfl, (blk_cell BK374.out 5).trans rfl, (blk_cell BK374.out 6).trans rfl, (blk_cell BK374.out 7).trans rfl, (blk_cell BK374.out 8).trans rfl, (blk_cell BK375.out 0).trans rfl, (blk_cell BK375.out 1).trans rfl, (blk_cell BK375.out 2).trans rfl, (blk_cell BK375.out 3).trans rfl, (blk_cell BK375.out 4).trans rfl, (blk_cell BK375.out 5).trans rfl, (blk_cell BK375.out 6).trans rfl, (blk_cell BK375.out 7).trans rfl, (blk_cell BK375.out 8).trans rfl⟩ (fun hHeld => ?_)
                  clear hK K
                  refine norm_ (a' := ?_) ?_ ?_
                  rotate_left
                  · show Act.put _ (some 44) _ = _
                    simp only [Act.put, List.setIfInBounds_toArray, List.set_cons_zero, List.set_cons_succ, i64_w, i32_w]
                    rfl
                  refine pure_ (i := 14) (N := some 48) (v := ?_) (a' := ?_) #[true, true, true, true, true, true, true, true, true, true, true, true, true, true, true, false, false, false, false, false, false, false, false, false, false, false, false, false, false, false] rfl rfl (any_of HT_.out (by kernel_rfl)) (fun _ _ _ h => h) (Or.inl ⟨by rfl, ?_⟩) ?_ ?_
                  rotate_left
                  · intro w'
                    go_simp
                    with_reducible rfl
                  rotate_left
                  · simp only [Act.put, List.setIfInBounds_toArray, List.set_cons_zero, List.set_cons_succ, i64_w, i32_w]
                    rfl
                  refine pure_ (i := 15) (N := some 49) (v := ?_) (a' := ?_) #[true, true, true, true, true, true, true, true, true, true, true, true, true, true, true, true, false, false, false, false, false, false, false, false, false, false, false, false, false, false] rfl rfl (any_of HT_.out (by kernel_rfl)) (fun _ _ _ h => h) (Or.inl ⟨by rfl, ?_⟩) ?_ ?_
                  rotate_left
                  · intro w'
                    go_simp
                    with_reducible rfl
                  rotate_left
                  · simp only [Act.put, List.setIfInBounds_toArray, List.set_cons_zero, List.set_cons_succ, i64_w, i32_w]
                    rfl
                  refine pure_ (i := 16) (N := some 50) (v := ?_) (a' := ?_) #[true, true, true, true, true, true, true, true, true, true, true, true, true, true, true, true, true, false, false, false, false, false, false, false, false, false, false, false, false, false] rfl rfl (any_of HT_.out (by kernel_rfl)) (fun _ _ _ h => h) (Or.inl ⟨by rfl, ?_⟩) ?_ ?_
                  rotate_left
                  · intro w'
                    go_simp
                    with_reducible rfl
                  rotate_left
                  · simp only [Act.put, List.setIfInBounds_toArray, List.set_cons_zero, List.set_cons_succ, i64_w, i32_w]
                    rfl
                  refine pure_ (i := 18) (N := some 52) (v := ?_) (a' := ?_) #[true, true, true, true, true, true, true, true, true, true, true, true, true, true, true, true, true, false, true, false, false, false, false, false, false, false, false, false, false, false] rfl rfl (any_of HT_.out (by kernel_rfl)) (fun _ _ _ h => h) (Or.inl ⟨by rfl, ?_⟩) ?_ ?_
                  rotate_left
                  · intro w'
                    go_simp
                    with_reducible rfl
                  rotate_left
                  · simp only [Act.put, List.setIfInBounds_toArray, List.set_cons_zero, List.set_cons_succ, i64_w, i32_w]
                    rfl
                  refine take_ (i := 17) (N := some 51) (v := ?_) (a' := ?_) #[true, true, true, true, true, true, true, true, true, true, true, true, true, true, true, true, true, true, true, false, false, false, false, false, false, false, false, false, false, false] rfl rfl (take_ofW HT_.out HW_.out (by kernel_rfl)) (fun _ _ _ h => h) (Or.inl ⟨by rfl, ?_⟩) hHeld ?_ ?_
                  rotate_left
                  · rintro w' ⟨s0, s1, s2, s3, s4, s5, s6, s7, s8, s9, s10, s11, s12, s13, s14, s15, s16, s17⟩
                    go_simp
                    with_reducible rfl
                  rotate_left
                  · simp only [Act.put, List.setIfInBounds_toArray, List.set_cons_zero, List.set_cons_succ, i64_w, i32_w]
                    rfl
                  refine one_ (i := 19) (N := some 53) #[true, true, true, true, true, true, true, true, true, true, true, true, true, true, true, true, true, true, true, true, false, false, false, false, false, false, false, false, false, false] rfl rfl (one_of HT_.out (by kernel_rfl)) (by decide) (fun K hK => ?_)
                  refine goes_ Try.func13 (by kernel_rfl) rfl #[.agg #[.int .i64 a0_0, .int .i64 a0_1, .int .i64 a0_2, .int .i64 a0_3, .int .i64 a0_4, .int .i64 a0_5, .slice A0_6 l0_6.length c0_6, .slice A0_7 l0_7.length c0_7, .bool a0_8], .agg #[.int .i64 0, .int .i64 0, .int .i64 0, .int .i64 0, .int .i64 0, .int .i64 0, .slice none 0 0, .slice none 0 0, .bool false]] (by rfl) rfl rfl (by (try simp only [List.map_toArray, List.map_cons, List.map_nil]); first | done | rfl | (simp only [List.length_drop, List.length_take]; rfl)) ?_
                  refine (command_Interfere.calls kj6 a0_0 a0_1 a0_2 a0_3 a0_4 a0_5 _ _ l0_6 _ _ l0_7 a0_8 0 0 0 0 0 0 _ _ ([] : List (S38)) _ _ ([] : List (S40)) false false _ ?side1 ?side2 ?side3 ?side4 ?side5 ?side6 ?side7 ?side8 A50.out).mono ?_
                  (case side1 => repeat (first | exact (Kd.V_reads' HO_375006.out).2.2 | (with_reducible refine Kd.C_alloc ?_ _) | (with_reducible refine Kd.C_drewN ?_ _) | (with_reducible refine Kd.C_drew ?_)))
                  (case side2 => exact (Kd.V_reads' HO_375006.out).2.1)
                  (case side3 => repeat (first | exact (Kd.V_reads' HO_375007.out).2.2 | (with_reducible refine Kd.C_alloc ?_ _) | (with_reducible refine Kd.C_drewN ?_ _) | (with_reducible refine Kd.C_drew ?_)))
                  (case side4 => exact (Kd.V_reads' HO_375007.out).2.1)
                  (case side5 => exact Kd.C_nil _ _)
                  (case side6 => exact Nat.le_refl _)
                  (case side7 => exact Kd.C_nil _ _)
                  (case side8 => exact Nat.le_refl _)
                  rintro e w59 ⟨rfl, hb⟩
                  refine ⟨_, rfl, ?_⟩
                  have n0_ := Aside0.mk (Kd.V_below (by (with_reducible repeat (first | apply Kd.V_alloc | apply Kd.V_drewN | apply Kd.V_drew)); exact HO_375006.out) hb)
                  have n1_ := Aside0.mk (Kd.V_below (by (with_reducible repeat (first | apply Kd.V_alloc | apply Kd.V_drewN | apply Kd.V_drew)); exact HO_375007.out) hb)
                  have n2_ := Aside0.mk (Kd.V_below (by (with_reducible repeat (first | apply Kd.V_alloc | apply Kd.V_drewN | apply Kd.V_drew)); exact HO_376006.out) hb)
                  have n3_ := Aside0.mk (Kd.V_below (by (with_reducible repeat (first | apply Kd.V_alloc | apply Kd.V_drewN | apply Kd.V_drew)); exact HO_376007.out) hb)
                  have n4_ := Aside0.mk (Kd.R_below (by (with_reducible repeat (first | apply Kd.R_alloc | apply Kd.R_drewN | apply Kd.R_drew)); exact HO_396006.out) hb)
                  have n5_ := Aside0.mk (Kd.R_below (by (with_reducible repeat (first | apply Kd.R_alloc | apply Kd.R_drewN | apply Kd.R_drew)); exact HO_396007.out) hb)
                  have n6_ := Aside0.mk (blk_below (g := gb374) (o := .cells #[.int .i64 a0_0, .int .i64 a0_1, .int .i64 a0_2, .int .i64 a0_3, .int .i64 a0_4, .int .i64 a0_5, .slice A0_6 l0_6.length c0_6, .slice A0_7 l0_7.length c0_7, .bool a0_8] 29 (0, 0)) (by (with_reducible repeat (first | refine blk_drewN ?_ _ | refine blk_drew ?_ | refine blk_alloc ?_ _)); exact BK374.out) hb)
                  have n7_ := Aside0.mk (blk_below (g := gb375) (o := .cells #[.int .i64 a1_0, .int .i64 a1_1, .int .i64 a1_2, .int .i64 a1_3, .int .i64 a1_4, .int .i64 a1_5, .slice A1_6 l1_6.length c1_6, .slice A1_7 l1_7.length c1_7, .bool a1_8] 29 (0, 0)) (by (with_reducible repeat (first | refine blk_drewN ?_ _ | refine blk_drew ?_ | refine blk_alloc ?_ _)); exact BK375.out) hb)
                  have n8_ := Aside0.mk (blk_below (g := gb395) (o := .cells #[.int .i64 t381, .int .i64 t382, .int .i64 t383, .int .i64 t384, .int .i64 t385, .int .i64 t386, .slice Ao23 t387.length co23, .slice Ao24 t390.length co24, .bool t393] 29 (0, 0)) (by (with_reducible repeat (first | refine blk_drewN ?_ _ | refine blk_drew ?_ | refine blk_alloc ?_ _)); exact BK395.out) hb)
                  have n9_ := Aside0.mk (below_step (by repeat (first | (with_reducible first | exact HB.out | apply below_alloc | apply pw_below_drewN | apply below_drew1 | refine below_set ?_ GE374.out | refine below_set ?_ GE375.out | refine below_set ?_ GE395.out) | exact HB.out)) hb)
                  clear HO_375006
                  clear HO_375007
                  clear HO_376006
                  clear HO_376007
                  clear HO_396006
                  clear HO_396007
                  clear BK374
                  clear BK375
                  clear BK395
                  clear HB
                  have HO_375006 := n0_
                  have HO_375007 := n1_
                  have HO_376006 := n2_
                  have HO_376007 := n3_
                  have HO_396006 := n4_
                  have HO_396007 := n5_
                  have BK374 := n6_
                  have BK375 := n7_
                  have BK395 := n8_
                  have HB := n9_
                  clear n0_ n1_ n2_ n3_ n4_ n5_ n6_ n7_ n8_ n9_
                  (try clear hb)
                  (try clear hb2)
                  (try clear hk)
                  (try clear hi)
                  refine hK.out _ _ ⟨(blk_cell BK374.out 0).trans rfl, (blk_cell BK374.out 1).trans rfl, (blk_cell BK374.out 2).trans rfl, (blk_cell BK374.out 3).trans rfl, (blk_cell BK374.out 4).trans rfl, (blk_cell BK374.out 5).trans rfl, (blk_cell BK374.out 6).trans rfl, (blk_cell BK374.out 7).trans rfl, (blk_cell BK374.out 8).trans rfl, (blk_cell BK375.out 0).trans rfl, (blk_cell BK375.out 1).trans rfl, (blk_cell BK375.out 2).trans rfl, (blk_cell BK375.out 3).trans rfl, (blk_cell BK375.out 4).trans rfl, (blk_cell BK375.out 5).trans rfl, (blk_cell BK375.out 6).trans rfl, (blk_cell BK375.out 7).trans rfl, (blk_cell BK375.out 8).trans rfl⟩ (fun hHeld => ?_)
                  clear hK K
                  refine norm_ (a' := ?_) ?_ ?_
                  rotate_left
                  · show Act.put _ (some 53) _ = _
                    simp only [Act.put, List.setIfInBounds_toArray, List.set_cons_zero, List.set_cons_succ, i64_w, i32_w]
                    rfl
                  refine pure_ (i := 20) (N := some 54) (v := ?_) (a' := ?_) #[true, true, true, true, true, true, true, true, true, true, true, true, true, true, true, true, true, true, true, true, true, false, false, false, false, false, false, false, false, false] rfl rfl (any_of HT_.out (by kernel_rfl)) (fun _ _ _ h => h) (Or.inl ⟨by rfl, ?_⟩) ?_ ?_
                  rotate_left
                  · intro w'
                    go_simp
                    with_reducible rfl
                  rotate_left
                  · simp only [Act.put, List.setIfInBounds_toArray, List.set_cons_zero, List.set_cons_succ, i64_w, i32_w]
                    rfl
                  refine pure_ (i := 21) (N := some 55) (v := ?_) (a' := ?_) #[true, true, true, true, true, true, true, true, true, true, true, true, true, true, true, true, true, true, true, true, true, true, false, false, false, false, false, false, false, false] rfl rfl (any_of HT_.out (by kernel_rfl)) (fun _ _ _ h => h) (Or.inl ⟨by rfl, ?_⟩) ?_ ?_
                  rotate_left
                  · intro w'
                    go_simp
                    with_reducible rfl
                  rotate_left
                  · simp only [Act.put, List.setIfInBounds_toArray, List.set_cons_zero, List.set_cons_succ, i64_w, i32_w]
                    rfl
                  refine pure_ (i := 22) (N := some 56) (v := ?_) (a' := ?_) #[true, true, true, true, true, true, true, true, true, true, true, true, true, true, true, true, true, true, true, true, true, true, true, false, false, false, false, false, false, false] rfl rfl (any_of HT_.out (by kernel_rfl)) (fun _ _ _ h => h) (Or.inl ⟨by rfl, ?_⟩) ?_ ?_
                  rotate_left
                  · intro w'
                    go_simp
                    with_reducible rfl
                  rotate_left
                  · simp only [Act.put, List.setIfInBounds_toArray, List.set_cons_zero, List.set_cons_succ, i64_w, i32_w]
                    rfl
                  refine pure_ (i := 23) (N := some 57) (v := ?_) (a' := ?_) #[true, true, true, true, true, true, true, true, true, true, true, true, true, true, true, true, true, true, true, true, true, true, true, true, false, false, false, false, false, false] rfl rfl (any_of HT_.out (by kernel_rfl)) (fun _ _ _ h => h) (Or.inl ⟨by rfl, ?_⟩) ?_ ?_
                  rotate_left
                  · intro w'
                    go_simp
                    with_reducible rfl
                  rotate_left
                  · simp only [Act.put, List.setIfInBounds_toArray, List.set_cons_zero, List.set_cons_succ, i64_w, i32_w]
                    rfl
                  refine one_ (i := 24) (N := some 58) #[true, true, true, true, true, true, true, true, true, true, true, true, true, true, true, true, true, true, true, true, true, true, true, true, true, false, false, false, false, false] rfl rfl (one_of HT_.out (by kernel_rfl)) (by decide) (fun K hK => ?_)
                  refine goes_ Try.func14 (by kernel_rfl) rfl #[.agg #[.int .i64 0, .int .i64 0, .int .i64 0, .int .i64 0, .int .i64 0, .int .i64 0, .slice none 0 0, .slice none 0 0, .bool false]] (by rfl) rfl rfl (by (try simp only [List.map_toArray, List.map_cons, List.map_nil]); first | done | rfl | (simp only [List.length_drop, List.length_take]; rfl)) ?_
                  refine (command_Right.calls kj6 0 0 0 0 0 0 _ _ ([] : List (S38)) _ _ ([] : List (S40)) false true _ ?side1 ?side2 ?side3 ?side4 A52.out).mono ?_
                  (case side1 => exact Kd.C_nil _ _)
                  (case side2 => exact Nat.le_refl _)
                  (case side3 => exact Kd.C_nil _ _)
                  (case side4 => exact Nat.le_refl _)
                  rintro e w60 ⟨rfl, hb⟩
                  refine ⟨_, rfl, ?_⟩
                  have n0_ := Aside0.mk (Kd.V_below (by (with_reducible repeat (first | apply Kd.V_alloc | apply Kd.V_drewN | apply Kd.V_drew)); exact HO_375006.out) hb)
                  have n1_ := Aside0.mk (Kd.V_below (by (with_reducible repeat (first | apply Kd.V_alloc | apply Kd.V_drewN | apply Kd.V_drew)); exact HO_375007.out) hb)
                  have n2_ := Aside0.mk (Kd.V_below (by (with_reducible repeat (first | apply Kd.V_alloc | apply Kd.V_drewN | apply Kd.V_drew)); exact HO_376006.out) hb)
                  have n3_ := Aside0.mk (Kd.V_below (by (with_reducible repeat (first | apply Kd.V_alloc | apply Kd.V_drewN | apply Kd.V_drew)); exact HO_376007.out) hb)
                  have n4_ := Aside0.mk (Kd.R_below (by (with_reducible repeat (first | apply Kd.R_alloc | apply Kd.R_drewN | apply Kd.R_drew)); exact HO_396006.out) hb)
                  have n5_ := Aside0.mk (Kd.R_below (by (with_reducible repeat (first | apply Kd.R_alloc | apply Kd.R_drewN | apply Kd.R_drew)); exact HO_396007.out) hb)
                  have n6_ := Aside0.mk (blk_below (g := gb374) (o := .cells #[.int .i64 a0_0, .int .i64 a0_1, .int .i64 a0_2, .int .i64 a0_3, .int .i64 a0_4, .int .i64 a0_5, .slice A0_6 l0_6.length c0_6, .slice A0_7 l0_7.length c0_7, .bool a0_8] 29 (0, 0)) (by (with_reducible repeat (first | refine blk_drewN ?_ _ | refine blk_drew ?_ | refine blk_alloc ?_ _)); exact BK374.out) hb)
                  have n7_ := Aside0.mk (blk_below (g := gb375) (o := .cells #[.int .i64 a1_0, .int .i64 a1_1, .int .i64 a1_2, .int .i64 a1_3, .int .i64 a1_4, .int .i64 a1_5, .slice A1_6 l1_6.length c1_6, .slice A1_7 l1_7.length c1_7, .bool a1_8] 29 (0, 0)) (by (with_reducible repeat (first | refine blk_drewN ?_ _ | refine blk_drew ?_ | refine blk_alloc ?_ _)); exact BK375.out) hb)
                  have n8_ := Aside0.mk (blk_below (g := gb395) (o := .cells #[.int .i64 t381, .int .i64 t382, .int .i64 t383, .int .i64 t384, .int .i64 t385, .int .i64 t386, .slice Ao23 t387.length co23, .slice Ao24 t390.length co24, .bool t393] 29 (0, 0)) (by (with_reducible repeat (first | refine blk_drewN ?_ _ | refine blk_drew ?_ | refine blk_alloc ?_ _)); exact BK395.out) hb)
                  have n9_ := Aside0.mk (below_step (by repeat (first | (with_reducible first | exact HB.out | apply below_alloc | apply pw_below_drewN | apply below_drew1 | refine below_set ?_ GE374.out | refine below_set ?_ GE375.out | refine below_set ?_ GE395.out) | exact HB.out)) hb)
                  clear HO_375006
                  clear HO_375007
                  clear HO_376006
                  clear HO_376007
                  clear HO_396006
                  clear HO_396007
                  clear BK374
                  clear BK375
                  clear BK395
                  clear HB
                  have HO_375006 := n0_
                  have HO_375007 := n1_
                  have HO_376006 := n2_
                  have HO_376007 := n3_
                  have HO_396006 := n4_
                  have HO_396007 := n5_
                  have BK374 := n6_
                  have BK375 := n7_
                  have BK395 := n8_
                  have HB := n9_
                  clear n0_ n1_ n2_ n3_ n4_ n5_ n6_ n7_ n8_ n9_
                  (try clear hb)
                  (try clear hb2)
                  (try clear hk)
                  (try clear hi)
                  refine hK.out _ _ ⟨(blk_cell BK374.out 0).trans rfl, (blk_cell BK374.out 1).trans rfl, (blk_cell BK374.out 2).trans rfl, (blk_cell BK374.out 3).trans rfl, (blk_cell BK374.out 4).trans rfl, (blk_cell BK374.out 5).trans rfl, (blk_cell BK374.out 6).trans rfl, (blk_cell BK374.out 7).trans rfl, (blk_cell BK374.out 8).trans rfl, (blk_cell BK375.out 0).trans rfl, (blk_cell BK375.out 1).trans rfl, (blk_cell BK375.out 2).trans rfl, (blk_cell BK375.out 3).trans rfl, (blk_cell BK375.out 4).trans rfl, (blk_cell BK375.out 5).trans rfl, (blk_cell BK375.out 6).trans rfl, (blk_cell BK375.out 7).trans rfl, (blk_cell BK375.out 8).trans rfl⟩ (fun hHeld => ?_)
                  clear hK K
                  refine norm_ (a' := ?_) ?_ ?_
                  rotate_left
                  · show Act.put _ (some 58) _ = _
                    simp only [Act.put, List.setIfInBounds_toArray, List.set_cons_zero, List.set_cons_succ, i64_w, i32_w]
                    rfl
                  refine pure_ (i := 25) (N := some 59) (v := ?_) (a' := ?_) #[true, true, true, true, true, true, true, true, true, true, true, true, true, true, true, true, true, true, true, true, true, true, true, true, true, true, false, false, false, false] rfl rfl (any_of HT_.out (by kernel_rfl)) (fun _ _ _ h => h) (Or.inl ⟨by rfl, ?_⟩) ?_ ?_
                  rotate_left
                  · intro w'
                    go_simp
                    with_reducible rfl
                  rotate_left
                  · simp only [Act.put, List.setIfInBounds_toArray, List.set_cons_zero, List.set_cons_succ, i64_w, i32_w]
                    rfl
                  refine pure_ (i := 26) (N := some 60) (v := ?_) (a' := ?_) #[true, true, true, true, true, true, true, true, true, true, true, true, true, true, true, true, true, true, true, true, true, true, true, true, true, true, true, false, false, false] rfl rfl (any_of HT_.out (by kernel_rfl)) (fun _ _ _ h => h) (Or.inl ⟨by rfl, ?_⟩) ?_ ?_
                  rotate_left
                  · intro w'
                    go_simp
                    with_reducible rfl
                  rotate_left
                  · simp only [Act.put, List.setIfInBounds_toArray, List.set_cons_zero, List.set_cons_succ, i64_w, i32_w]
                    rfl
                  refine one_ (i := 27) (N := some 61) #[true, true, true, true, true, true, true, true, true, true, true, true, true, true, true, true, true, true, true, true, true, true, true, true, true, true, true, true, false, false] rfl rfl (one_of HT_.out (by kernel_rfl)) (by decide) (fun K hK => ?_)
                  refine goes_ Try.func9 (by kernel_rfl) rfl #[] (by rfl) rfl rfl (by (try simp only [List.map_toArray, List.map_cons, List.map_nil]); first | done | rfl | (simp only [List.length_drop, List.length_take]; rfl)) ?_
                  with_reducible refine (althinglaw05_awake.calls kj6  t403 _ A54.out).mono ?_
                  rintro e w61 ⟨rfl, hb⟩
                  refine ⟨_, rfl, ?_⟩
                  have n0_ := Aside0.mk (Kd.V_below (by (with_reducible repeat (first | apply Kd.V_alloc | apply Kd.V_drewN | apply Kd.V_drew)); exact HO_375006.out) hb)
                  have n1_ := Aside0.mk (Kd.V_below (by (with_reducible repeat (first | apply Kd.V_alloc | apply Kd.V_drewN | apply Kd.V_drew)); exact HO_375007.out) hb)
                  have n2_ := Aside0.mk (Kd.V_below (by (with_reducible repeat (first | apply Kd.V_alloc | apply Kd.V_drewN | apply Kd.V_drew)); exact HO_376006.out) hb)
                  have n3_ := Aside0.mk (Kd.V_below (by (with_reducible repeat (first | apply Kd.V_alloc | apply Kd.V_drewN | apply Kd.V_drew)); exact HO_376007.out) hb)
                  have n4_ := Aside0.mk (Kd.R_below (by (with_reducible repeat (first | apply Kd.R_alloc | apply Kd.R_drewN | apply Kd.R_drew)); exact HO_396006.out) hb)
                  have n5_ := Aside0.mk (Kd.R_below (by (with_reducible repeat (first | apply Kd.R_alloc | apply Kd.R_drewN | apply Kd.R_drew)); exact HO_396007.out) hb)
                  have n6_ := Aside0.mk (blk_below (g := gb374) (o := .cells #[.int .i64 a0_0, .int .i64 a0_1, .int .i64 a0_2, .int .i64 a0_3, .int .i64 a0_4, .int .i64 a0_5, .slice A0_6 l0_6.length c0_6, .slice A0_7 l0_7.length c0_7, .bool a0_8] 29 (0, 0)) (by (with_reducible repeat (first | refine blk_drewN ?_ _ | refine blk_drew ?_ | refine blk_alloc ?_ _)); exact BK374.out) hb)
                  have n7_ := Aside0.mk (blk_below (g := gb375) (o := .cells #[.int .i64 a1_0, .int .i64 a1_1, .int .i64 a1_2, .int .i64 a1_3, .int .i64 a1_4, .int .i64 a1_5, .slice A1_6 l1_6.length c1_6, .slice A1_7 l1_7.length c1_7, .bool a1_8] 29 (0, 0)) (by (with_reducible repeat (first | refine blk_drewN ?_ _ | refine blk_drew ?_ | refine blk_alloc ?_ _)); exact BK375.out) hb)
                  have n8_ := Aside0.mk (blk_below (g := gb395) (o := .cells #[.int .i64 t381, .int .i64 t382, .int .i64 t383, .int .i64 t384, .int .i64 t385, .int .i64 t386, .slice Ao23 t387.length co23, .slice Ao24 t390.length co24, .bool t393] 29 (0, 0)) (by (with_reducible repeat (first | refine blk_drewN ?_ _ | refine blk_drew ?_ | refine blk_alloc ?_ _)); exact BK395.out) hb)
                  have n9_ := Aside0.mk (below_step (by repeat (first | (with_reducible first | exact HB.out | apply below_alloc | apply pw_below_drewN | apply below_drew1 | refine below_set ?_ GE374.out | refine below_set ?_ GE375.out | refine below_set ?_ GE395.out) | exact HB.out)) hb)
                  clear HO_375006
                  clear HO_375007
                  clear HO_376006
                  clear HO_376007
                  clear HO_396006
                  clear HO_396007
                  clear BK374
                  clear BK375
                  clear BK395
                  clear HB
                  have HO_375006 := n0_
                  have HO_375007 := n1_
                  have HO_376006 := n2_
                  have HO_376007 := n3_
                  have HO_396006 := n4_
                  have HO_396007 := n5_
                  have BK374 := n6_
                  have BK375 := n7_
                  have BK395 := n8_
                  have HB := n9_
                  clear n0_ n1_ n2_ n3_ n4_ n5_ n6_ n7_ n8_ n9_
                  (try clear hb)
                  (try clear hb2)
                  (try clear hk)
                  (try clear hi)
                  refine hK.out _ _ ⟨(blk_cell BK374.out 0).trans rfl, (blk_cell BK374.out 1).trans rfl, (blk_cell BK374.out 2).trans rfl, (blk_cell BK374.out 3).trans rfl, (blk_cell BK374.out 4).trans rfl, (blk_cell BK374.out 5).trans rfl, (blk_cell BK374.out 6).trans rfl, (blk_cell BK374.out 7).trans rfl, (blk_cell BK374.out 8).trans rfl, (blk_cell BK375.out 0).trans rfl, (blk_cell BK375.out 1).trans rfl, (blk_cell BK375.out 2).trans rfl, (blk_cell BK375.out 3).trans rfl, (blk_cell BK375.out 4).trans rfl, (blk_cell BK375.out 5).trans rfl, (blk_cell BK375.out 6).trans rfl, (blk_cell BK375.out 7).trans rfl, (blk_cell BK375.out 8).trans rfl⟩ (fun hHeld => ?_)
                  clear hK K
                  refine norm_ (a' := ?_) ?_ ?_
                  rotate_left
                  · show Act.put _ (some 61) _ = _
                    simp only [Act.put, List.setIfInBounds_toArray, List.set_cons_zero, List.set_cons_succ, i64_w, i32_w]
                    rfl
                  refine pure_ (i := 28) (N := some 62) (v := ?_) (a' := ?_) #[true, true, true, true, true, true, true, true, true, true, true, true, true, true, true, true, true, true, true, true, true, true, true, true, true, true, true, true, true, false] rfl rfl (any_of HT_.out (by kernel_rfl)) (fun _ _ _ h => h) (Or.inl ⟨by rfl, ?_⟩) ?_ ?_
                  rotate_left
                  · intro w'
                    go_simp
                    with_reducible rfl
                  rotate_left
                  · simp only [Act.put, List.setIfInBounds_toArray, List.set_cons_zero, List.set_cons_succ, i64_w, i32_w]
                    rfl
                  refine pure_ (i := 29) (N := some 6) (v := ?_) (a' := ?_) #[true, true, true, true, true, true, true, true, true, true, true, true, true, true, true, true, true, true, true, true, true, true, true, true, true, true, true, true, true, true] rfl rfl (any_of HT_.out (by kernel_rfl)) (fun _ _ _ h => h) (Or.inl ⟨by rfl, ?_⟩) ?_ ?_
                  rotate_left
                  · intro w'
                    go_simp
                    with_reducible rfl
                  rotate_left
                  · simp only [Act.put, List.setIfInBounds_toArray, List.set_cons_zero, List.set_cons_succ, i64_w, i32_w]
                    rfl
                  refine done_ (done_of HT_.out (by kernel_rfl)) ?_
                  try go_wp2
                  go_ret
                  exact ⟨by first | rfl | (simp [errW_none, errW_some] <;> rfl) | (simp [*, errW_none, errW_some] <;> rfl), by repeat (first | (with_reducible first | exact HB.out | apply below_alloc | apply pw_below_drewN | apply below_drew1 | refine below_set ?_ GE374.out | refine below_set ?_ GE375.out | refine below_set ?_ GE395.out) | exact HB.out)⟩
                · replace c53 := Bool.eq_false_iff.mpr c53
                  subst c53
                  have H1 : (none) = some r := by rw [if_neg (show ¬ (false = true) by decide)] at H; exact H
                  clear H
                  have H := H1
                  clear H1
                  exact absurd H (by simp)
            · rw [if_neg c49] at H
              have c49b0 : (t400 == (a0_0 != 0)) = false := by simpa using c49
              (try (have c49b1 : decide (t400 = (a0_0 != 0)) = false := by simpa using c49))
              (try (have c49b2 : (t400 == (a0_0 != 0)) = false := by simpa using c49))
              (try (have c49b3 : ¬ (t400 = (a0_0 != 0)) := by simpa using c49))
              clear c49
              exact absurd H (by simp)
          · rw [if_neg c47] at H
            have c47b0 : (t398 == t399) = false := by simpa using c47
            (try (have c47b1 : decide (t398 = t399) = false := by simpa using c47))
            (try (have c47b2 : (t398 == t399) = false := by simpa using c47))
            (try (have c47b3 : ¬ (t398 = t399) := by simpa using c47))
            clear c47
            exact absurd H (by simp)
  · replace c5 := Bool.eq_false_iff.mpr c5
    subst c5
    have H1 : ((althinglaw05_awake.f k).bind fun t380 => (some t380)) = some r := by rw [if_neg (show ¬ (false = true) by decide)] at H; exact H
    clear H
    have H := H1
    clear H1
    replace H := Option.bind_eq_some_iff.mp H
    obtain ⟨t380, A620, H⟩ := H
    replace H : (some t380) = some r := H
    have A62 := Aside0.mk A620
    clear A620
    obtain rfl := Option.some.inj H
    go_enter Try.func4, Try.ntmps4
    go_wp2_with (first | ((with_reducible refine gate_dst (N := 3) rfl ?_); refine box_event ?hg (N := 3) ?hd (cs := #[.int .i64 a0_0, .int .i64 a0_1, .int .i64 a0_2, .int .i64 a0_3, .int .i64 a0_4, .int .i64 a0_5, .slice A0_6 l0_6.length c0_6, .slice A0_7 l0_7.length c0_7, .bool a0_8]) (t := 29) ?hr ?_; (case hd => rfl); (case hg => rfl); (case hr => first | (go_simp; done) | (go_simp; rfl)); intro gb374 hg w63 hbox hb; have n0_ := Aside0.mk (Kd.V_below (Kd.V_elderB (by (with_reducible repeat (first | apply Kd.V_alloc | apply Kd.V_drewN | apply Kd.V_drew)); exact HO0_6.out) gb374 (Nat.le_of_eq hg.symm)) hb); have n1_ := Aside0.mk (Kd.V_below (Kd.V_elderB (by (with_reducible repeat (first | apply Kd.V_alloc | apply Kd.V_drewN | apply Kd.V_drew)); exact HO0_7.out) gb374 (Nat.le_of_eq hg.symm)) hb); have n2_ := Aside0.mk (Kd.V_below (Kd.V_elderB (by (with_reducible repeat (first | apply Kd.V_alloc | apply Kd.V_drewN | apply Kd.V_drew)); exact HO1_6.out) gb374 (Nat.le_of_eq hg.symm)) hb); have n3_ := Aside0.mk (Kd.V_below (Kd.V_elderB (by (with_reducible repeat (first | apply Kd.V_alloc | apply Kd.V_drewN | apply Kd.V_drew)); exact HO1_7.out) gb374 (Nat.le_of_eq hg.symm)) hb); have n4_ := Aside0.mk (below_step (by repeat (first | (with_reducible first | exact HB.out | apply below_alloc | apply pw_below_drewN | apply below_drew1) | exact HB.out)) hb); have n5_ := Aside0.mk (hbox); have n6_ := Aside0.mk ((by rw [hg]; exact (below_size (by repeat (first | (with_reducible first | exact HB.out | apply below_alloc | apply pw_below_drewN | apply below_drew1) | exact HB.out))) : w.heap.size ≤ gb374)); have n7_ := Aside0.mk ((by rw [hg]; exact (below_size (by repeat (first | (with_reducible first | exact HB.out | apply below_alloc | apply pw_below_drewN | apply below_drew1) | exact HB.out))) : w.heap.size ≤ gb374)); clear HO0_6; clear HO0_7; clear HO1_6; clear HO1_7; clear HB; have HO0_6 := n0_; have HO0_7 := n1_; have HO1_6 := n2_; have HO1_7 := n3_; have HB := n4_; have BK374 := n5_; have GW374 := n6_; have GE374 := n7_; clear n0_ n1_ n2_ n3_ n4_ n5_ n6_ n7_; clear hb hbox hg) | ((with_reducible refine gate_dst (N := 4) rfl ?_); refine box_event ?hg (N := 4) ?hd (cs := #[.int .i64 a1_0, .int .i64 a1_1, .int .i64 a1_2, .int .i64 a1_3, .int .i64 a1_4, .int .i64 a1_5, .slice A1_6 l1_6.length c1_6, .slice A1_7 l1_7.length c1_7, .bool a1_8]) (t := 29) ?hr ?_; (case hd => rfl); (case hg => rfl); (case hr => first | (go_simp; done) | (go_simp; rfl)); intro gb375 hg w64 hbox hb; have n0_ := Aside0.mk (Kd.V_below (Kd.V_elderB (by (with_reducible repeat (first | apply Kd.V_alloc | apply Kd.V_drewN | apply Kd.V_drew)); exact HO0_6.out) gb375 (Nat.le_of_eq hg.symm)) hb); have n1_ := Aside0.mk (Kd.V_below (Kd.V_elderB (by (with_reducible repeat (first | apply Kd.V_alloc | apply Kd.V_drewN | apply Kd.V_drew)); exact HO0_7.out) gb375 (Nat.le_of_eq hg.symm)) hb); have n2_ := Aside0.mk (Kd.V_below (Kd.V_elderB (by (with_reducible repeat (first | apply Kd.V_alloc | apply Kd.V_drewN | apply Kd.V_drew)); exact HO1_6.out) gb375 (Nat.le_of_eq hg.symm)) hb); have n3_ := Aside0.mk (Kd.V_below (Kd.V_elderB (by (with_reducible repeat (first | apply Kd.V_alloc | apply Kd.V_drewN | apply Kd.V_drew)); exact HO1_7.out) gb375 (Nat.le_of_eq hg.symm)) hb); have n4_ := Aside0.mk (blk_below (g := gb374) (o := .cells #[.int .i64 a0_0, .int .i64 a0_1, .int .i64 a0_2, .int .i64 a0_3, .int .i64 a0_4, .int .i64 a0_5, .slice A0_6 l0_6.length c0_6, .slice A0_7 l0_7.length c0_7, .bool a0_8] 29 (0, 0)) (by (with_reducible repeat (first | refine blk_drewN ?_ _ | refine blk_drew ?_ | refine blk_alloc ?_ _)); exact BK374.out) hb); have n5_ := Aside0.mk (below_step (by repeat (first | (with_reducible first | exact HB.out | apply below_alloc | apply pw_below_drewN | apply below_drew1 | refine below_set ?_ GE374.out) | exact HB.out)) hb); have n6_ := Aside0.mk (hbox); have n7_ := Aside0.mk ((by rw [hg]; exact (below_size (by repeat (first | (with_reducible first | exact HB.out | apply below_alloc | apply pw_below_drewN | apply below_drew1 | refine below_set ?_ GE374.out) | exact HB.out))) : w.heap.size ≤ gb375)); have n8_ := Aside0.mk ((by rw [hg]; exact (below_size (by repeat (first | (with_reducible first | exact HB.out | apply below_alloc | apply pw_below_drewN | apply below_drew1 | refine below_set ?_ GE374.out) | exact HB.out))) : w.heap.size ≤ gb375)); have n9_ := Aside0.mk ((by rw [hg]; exact Nat.ne_of_lt (blk_lt (g := gb374) (o := .cells #[.int .i64 a0_0, .int .i64 a0_1, .int .i64 a0_2, .int .i64 a0_3, .int .i64 a0_4, .int .i64 a0_5, .slice A0_6 l0_6.length c0_6, .slice A0_7 l0_7.length c0_7, .bool a0_8] 29 (0, 0)) (by (with_reducible repeat (first | refine blk_drewN ?_ _ | refine blk_drew ?_ | refine blk_alloc ?_ _)); exact BK374.out)) : gb374 ≠ gb375)); have n10_ := Aside0.mk ((by rw [hg]; exact Nat.ne_of_gt (blk_lt (g := gb374) (o := .cells #[.int .i64 a0_0, .int .i64 a0_1, .int .i64 a0_2, .int .i64 a0_3, .int .i64 a0_4, .int .i64 a0_5, .slice A0_6 l0_6.length c0_6, .slice A0_7 l0_7.length c0_7, .bool a0_8] 29 (0, 0)) (by (with_reducible repeat (first | refine blk_drewN ?_ _ | refine blk_drew ?_ | refine blk_alloc ?_ _)); exact BK374.out)) : gb375 ≠ gb374)); clear HO0_6; clear HO0_7; clear HO1_6; clear HO1_7; clear BK374; clear HB; have HO0_6 := n0_; have HO0_7 := n1_; have HO1_6 := n2_; have HO1_7 := n3_; have BK374 := n4_; have HB := n5_; have BK375 := n6_; have GW375 := n7_; have GE375 := n8_; have NB374_375 := n9_; have NB375_374 := n10_; clear n0_ n1_ n2_ n3_ n4_ n5_ n6_ n7_ n8_ n9_ n10_; clear hb hbox hg; have hnb65 := NB374_375.out; have hnc65 := NB375_374.out; have hcz66_0 : w64.cell? ⟨gb374, 0, none⟩ = some (.int .i64 a0_0) := (blk_cell BK374.out 0).trans rfl; have hcz66_1 : w64.cell? ⟨gb374, 1, none⟩ = some (.int .i64 a0_1) := (blk_cell BK374.out 1).trans rfl; have hcz66_2 : w64.cell? ⟨gb374, 2, none⟩ = some (.int .i64 a0_2) := (blk_cell BK374.out 2).trans rfl; have hcz66_3 : w64.cell? ⟨gb374, 3, none⟩ = some (.int .i64 a0_3) := (blk_cell BK374.out 3).trans rfl; have hcz66_4 : w64.cell? ⟨gb374, 4, none⟩ = some (.int .i64 a0_4) := (blk_cell BK374.out 4).trans rfl; have hcz66_5 : w64.cell? ⟨gb374, 5, none⟩ = some (.int .i64 a0_5) := (blk_cell BK374.out 5).trans rfl; have hcz66_6 : w64.cell? ⟨gb374, 6, none⟩ = some (.slice A0_6 l0_6.length c0_6) := (blk_cell BK374.out 6).trans rfl; have hcz66_7 : w64.cell? ⟨gb374, 7, none⟩ = some (.slice A0_7 l0_7.length c0_7) := (blk_cell BK374.out 7).trans rfl; have hcz66_8 : w64.cell? ⟨gb374, 8, none⟩ = some (.bool a0_8) := (blk_cell BK374.out 8).trans rfl; have hfz66_0 := blk_frozen BK374.out 0; have hfz66_1 := blk_frozen BK374.out 1; have hfz66_2 := blk_frozen BK374.out 2; have hfz66_3 := blk_frozen BK374.out 3; have hfz66_4 := blk_frozen BK374.out 4; have hfz66_5 := blk_frozen BK374.out 5; have hfz66_6 := blk_frozen BK374.out 6; have hfz66_7 := blk_frozen BK374.out 7; have hfz66_8 := blk_frozen BK374.out 8; have hcz67_0 : w64.cell? ⟨gb375, 0, none⟩ = some (.int .i64 a1_0) := (blk_cell BK375.out 0).trans rfl; have hcz67_1 : w64.cell? ⟨gb375, 1, none⟩ = some (.int .i64 a1_1) := (blk_cell BK375.out 1).trans rfl; have hcz67_2 : w64.cell? ⟨gb375, 2, none⟩ = some (.int .i64 a1_2) := (blk_cell BK375.out 2).trans rfl; have hcz67_3 : w64.cell? ⟨gb375, 3, none⟩ = some (.int .i64 a1_3) := (blk_cell BK375.out 3).trans rfl; have hcz67_4 : w64.cell? ⟨gb375, 4, none⟩ = some (.int .i64 a1_4) := (blk_cell BK375.out 4).trans rfl; have hcz67_5 : w64.cell? ⟨gb375, 5, none⟩ = some (.int .i64 a1_5) := (blk_cell BK375.out 5).trans rfl; have hcz67_6 : w64.cell? ⟨gb375, 6, none⟩ = some (.slice A1_6 l1_6.length c1_6) := (blk_cell BK375.out 6).trans rfl; have hcz67_7 : w64.cell? ⟨gb375, 7, none⟩ = some (.slice A1_7 l1_7.length c1_7) := (blk_cell BK375.out 7).trans rfl; have hcz67_8 : w64.cell? ⟨gb375, 8, none⟩ = some (.bool a1_8) := (blk_cell BK375.out 8).trans rfl; have hfz67_0 := blk_frozen BK375.out 0; have hfz67_1 := blk_frozen BK375.out 1; have hfz67_2 := blk_frozen BK375.out 2; have hfz67_3 := blk_frozen BK375.out 3; have hfz67_4 := blk_frozen BK375.out 4; have hfz67_5 := blk_frozen BK375.out 5; have hfz67_6 := blk_frozen BK375.out 6; have hfz67_7 := blk_frozen BK375.out 7; have hfz67_8 := blk_frozen BK375.out 8) | ((with_reducible refine gate_dst (N := 11) rfl ?_); refine Kd.N_lit k29 _ 29 ?hg (N' := 11) ?hd (xs := ([(⟨a0_0, (⟨a0_1, a0_2⟩ : S23), (⟨a0_3, a0_4⟩ : S25), a0_5, l0_6, l0_7, a0_8⟩ : S29), (⟨a1_0, (⟨a1_1, a1_2⟩ : S23), (⟨a1_3, a1_4⟩ : S25), a1_5, l1_6, l1_7, a1_8⟩ : S29)] : List (S29))) (inner := [.int .i64 a0_0, .int .i64 a0_1, .int .i64 a0_2, .int .i64 a0_3, .int .i64 a0_4, .int .i64 a0_5, .slice A0_6 l0_6.length c0_6, .slice A0_7 l0_7.length c0_7, .bool a0_8, .int .i64 a1_0, .int .i64 a1_1, .int .i64 a1_2, .int .i64 a1_3, .int .i64 a1_4, .int .i64 a1_5, .slice A1_6 l1_6.length c1_6, .slice A1_7 l1_7.length c1_7, .bool a1_8]) (ok := (fun k_ => ((P0_6_ k_ ∨ P0_7_ k_ ∨ P1_6_ k_ ∨ P1_7_ k_) ∨ w.heap.size ≤ k_) ∧ k_ ≠ gb374 ∧ k_ ≠ gb375)) (okp := (fun k_ => ((P0_6_ k_ ∨ P0_7_ k_ ∨ P1_6_ k_ ∨ P1_7_ k_) ∨ w.heap.size ≤ k_) ∧ k_ ≠ gb374 ∧ k_ ≠ gb375)) ?hr ?hp (fun _ hk => hk) ((show ∀ k_, w64.heap.size ≤ k_ → (fun k_ => ((P0_6_ k_ ∨ P0_7_ k_ ∨ P1_6_ k_ ∨ P1_7_ k_) ∨ w.heap.size ≤ k_) ∧ k_ ≠ gb374 ∧ k_ ≠ gb375) k_ from fun k_ hk => ⟨(.inr (Nat.le_trans (below_size (by repeat (first | (with_reducible first | exact HB.out | apply below_alloc | apply pw_below_drewN | apply below_drew1 | refine below_set ?_ GE374.out | refine below_set ?_ GE375.out) | exact HB.out))) hk)), Kd.freshB (g := gb374) (o := .cells #[.int .i64 a0_0, .int .i64 a0_1, .int .i64 a0_2, .int .i64 a0_3, .int .i64 a0_4, .int .i64 a0_5, .slice A0_6 l0_6.length c0_6, .slice A0_7 l0_7.length c0_7, .bool a0_8] 29 (0, 0)) (by (with_reducible repeat (first | refine blk_drewN ?_ _ | refine blk_drew ?_ | refine blk_alloc ?_ _)); exact BK374.out) k_ hk, Kd.freshB (g := gb375) (o := .cells #[.int .i64 a1_0, .int .i64 a1_1, .int .i64 a1_2, .int .i64 a1_3, .int .i64 a1_4, .int .i64 a1_5, .slice A1_6 l1_6.length c1_6, .slice A1_7 l1_7.length c1_7, .bool a1_8] 29 (0, 0)) (by (with_reducible repeat (first | refine blk_drewN ?_ _ | refine blk_drew ?_ | refine blk_alloc ?_ _)); exact BK375.out) k_ hk⟩) _ (Nat.le_refl _)) (Below.refl _ _) (Nat.le_refl _) (by simp) ?_; (case hd => rfl); (case hg => rfl); (case hr => first | (go_simp; done) | (go_simp; rfl)); (case hp => exact (Reps.c9 (show Kd.FK k29 _ _ (⟨a0_0, (⟨a0_1, a0_2⟩ : S23), (⟨a0_3, a0_4⟩ : S25), a0_5, l0_6, l0_7, a0_8⟩ : S29) [.int .i64 a0_0, .int .i64 a0_1, .int .i64 a0_2, .int .i64 a0_3, .int .i64 a0_4, .int .i64 a0_5, .slice A0_6 l0_6.length c0_6, .slice A0_7 l0_7.length c0_7, .bool a0_8] from (k29_mkF _ _ (⟨a0_0, (⟨a0_1, a0_2⟩ : S23), (⟨a0_3, a0_4⟩ : S25), a0_5, l0_6, l0_7, a0_8⟩ : S29) (Kd.V_reads' (Kd.V_mono (ok' := (fun k_ => ((P0_6_ k_ ∨ P0_7_ k_ ∨ P1_6_ k_ ∨ P1_7_ k_) ∨ w.heap.size ≤ k_) ∧ k_ ≠ gb374 ∧ k_ ≠ gb375)) (HO0_6.out) (fun k_ hk => ⟨hk.1.1, ⟨hk.1.2, hk.2⟩⟩))).2.1 (Kd.V_F (Kd.V_mono (ok' := (fun k_ => ((P0_6_ k_ ∨ P0_7_ k_ ∨ P1_6_ k_ ∨ P1_7_ k_) ∨ w.heap.size ≤ k_) ∧ k_ ≠ gb374 ∧ k_ ≠ gb375)) (HO0_6.out) (fun k_ hk => ⟨hk.1.1, ⟨hk.1.2, hk.2⟩⟩))) (Kd.V_reads' (Kd.V_mono (ok' := (fun k_ => ((P0_6_ k_ ∨ P0_7_ k_ ∨ P1_6_ k_ ∨ P1_7_ k_) ∨ w.heap.size ≤ k_) ∧ k_ ≠ gb374 ∧ k_ ≠ gb375)) (HO0_7.out) (fun k_ hk => ⟨hk.1.1, ⟨hk.1.2, hk.2⟩⟩))).2.1 (Kd.V_F (Kd.V_mono (ok' := (fun k_ => ((P0_6_ k_ ∨ P0_7_ k_ ∨ P1_6_ k_ ∨ P1_7_ k_) ∨ w.heap.size ≤ k_) ∧ k_ ≠ gb374 ∧ k_ ≠ gb375)) (HO0_7.out) (fun k_ hk => ⟨hk.1.1, ⟨hk.1.2, hk.2⟩⟩))))) (Reps.c9 (show Kd.FK k29 _ _ (⟨a1_0, (⟨a1_1, a1_2⟩ : S23), (⟨a1_3, a1_4⟩ : S25), a1_5, l1_6, l1_7, a1_8⟩ : S29) [.int .i64 a1_0, .int .i64 a1_1, .int .i64 a1_2, .int .i64 a1_3, .int .i64 a1_4, .int .i64 a1_5, .slice A1_6 l1_6.length c1_6, .slice A1_7 l1_7.length c1_7, .bool a1_8] from (k29_mkF _ _ (⟨a1_0, (⟨a1_1, a1_2⟩ : S23), (⟨a1_3, a1_4⟩ : S25), a1_5, l1_6, l1_7, a1_8⟩ : S29) (Kd.V_reads' (Kd.V_mono (ok' := (fun k_ => ((P0_6_ k_ ∨ P0_7_ k_ ∨ P1_6_ k_ ∨ P1_7_ k_) ∨ w.heap.size ≤ k_) ∧ k_ ≠ gb374 ∧ k_ ≠ gb375)) (HO1_6.out) (fun k_ hk => ⟨hk.1.1, ⟨hk.1.2, hk.2⟩⟩))).2.1 (Kd.V_F (Kd.V_mono (ok' := (fun k_ => ((P0_6_ k_ ∨ P0_7_ k_ ∨ P1_6_ k_ ∨ P1_7_ k_) ∨ w.heap.size ≤ k_) ∧ k_ ≠ gb374 ∧ k_ ≠ gb375)) (HO1_6.out) (fun k_ hk => ⟨hk.1.1, ⟨hk.1.2, hk.2⟩⟩))) (Kd.V_reads' (Kd.V_mono (ok' := (fun k_ => ((P0_6_ k_ ∨ P0_7_ k_ ∨ P1_6_ k_ ∨ P1_7_ k_) ∨ w.heap.size ≤ k_) ∧ k_ ≠ gb374 ∧ k_ ≠ gb375)) (HO1_7.out) (fun k_ hk => ⟨hk.1.1, ⟨hk.1.2, hk.2⟩⟩))).2.1 (Kd.V_F (Kd.V_mono (ok' := (fun k_ => ((P0_6_ k_ ∨ P0_7_ k_ ∨ P1_6_ k_ ∨ P1_7_ k_) ∨ w.heap.size ≤ k_) ∧ k_ ≠ gb374 ∧ k_ ≠ gb375)) (HO1_7.out) (fun k_ hk => ⟨hk.1.1, ⟨hk.1.2, hk.2⟩⟩))))) (Reps.none _ _)))); intro v377 w68 ho69 hb hg_ hnew_; clear hg_ hnew_; (first | rw [← Ny376.out] at ho69 | (simp only [Int.reduceToNat] at ho69; rw [← Ny376.out] at ho69)); have n0_ := Aside0.mk (Kd.V_elder' (by (with_reducible repeat (first | apply Kd.V_alloc | apply Kd.V_drewN | apply Kd.V_drew)); exact HO0_6.out) (Kd.N_base ho69) hb); have n1_ := Aside0.mk (Kd.V_elder' (by (with_reducible repeat (first | apply Kd.V_alloc | apply Kd.V_drewN | apply Kd.V_drew)); exact HO0_7.out) (Kd.N_base ho69) hb); have n2_ := Aside0.mk (Kd.V_elder' (by (with_reducible repeat (first | apply Kd.V_alloc | apply Kd.V_drewN | apply Kd.V_drew)); exact HO1_6.out) (Kd.N_base ho69) hb); have n3_ := Aside0.mk (Kd.V_elder' (by (with_reducible repeat (first | apply Kd.V_alloc | apply Kd.V_drewN | apply Kd.V_drew)); exact HO1_7.out) (Kd.N_base ho69) hb); have n4_ := Aside0.mk (Kd.N_lower ho69 (below_size (by repeat (first | (with_reducible first | exact HB.out | apply below_alloc | apply pw_below_drewN | apply below_drew1 | refine below_set ?_ GE374.out | refine below_set ?_ GE375.out) | exact HB.out)))); have n5_ := Aside0.mk (blk_below (g := gb374) (o := .cells #[.int .i64 a0_0, .int .i64 a0_1, .int .i64 a0_2, .int .i64 a0_3, .int .i64 a0_4, .int .i64 a0_5, .slice A0_6 l0_6.length c0_6, .slice A0_7 l0_7.length c0_7, .bool a0_8] 29 (0, 0)) (by (with_reducible repeat (first | refine blk_drewN ?_ _ | refine blk_drew ?_ | refine blk_alloc ?_ _)); exact BK374.out) hb); have n6_ := Aside0.mk (blk_below (g := gb375) (o := .cells #[.int .i64 a1_0, .int .i64 a1_1, .int .i64 a1_2, .int .i64 a1_3, .int .i64 a1_4, .int .i64 a1_5, .slice A1_6 l1_6.length c1_6, .slice A1_7 l1_7.length c1_7, .bool a1_8] 29 (0, 0)) (by (with_reducible repeat (first | refine blk_drewN ?_ _ | refine blk_drew ?_ | refine blk_alloc ?_ _)); exact BK375.out) hb); have n7_ := Aside0.mk (below_step (by repeat (first | (with_reducible first | exact HB.out | apply below_alloc | apply pw_below_drewN | apply below_drew1 | refine below_set ?_ GE374.out | refine below_set ?_ GE375.out) | exact HB.out)) hb); clear HO0_6; clear HO0_7; clear HO1_6; clear HO1_7; clear BK374; clear BK375; clear HB; have HO0_6 := n0_; have HO0_7 := n1_; have HO1_6 := n2_; have HO1_7 := n3_; have HO378 := n4_; have BK374 := n5_; have BK375 := n6_; have HB := n7_; clear n0_ n1_ n2_ n3_ n4_ n5_ n6_ n7_; clear hb ho69; obtain ⟨Ao70, co70, eo70⟩ := Kd.N_slice HO378.out; subst eo70) | ((with_reducible refine gate_callee (f := 8) rfl ?_); refine goesL_ (some 12) rfl rfl Try.func8 (by kernel_rfl) rfl #[.slice Ao70 y376.length co70] rfl (by (try simp only [List.map_toArray, List.map_cons, List.map_nil]); first | done | rfl | (simp only [List.length_drop, List.length_take]; rfl)) ?_; (with_reducible refine (althinglaw05_Few.calls k _ _ y376 false _ ?side1 ?side2 A4.out).mono ?_); (case side1 => repeat (first | exact (Kd.N_reads' HO378.out).2.2 | (with_reducible refine Kd.C_alloc ?_ _) | (with_reducible refine Kd.C_drewN ?_ _) | (with_reducible refine Kd.C_drew ?_))); (case side2 => exact (Kd.N_reads' HO378.out).2.1); rintro e w71 ⟨rfl, hb⟩; refine ⟨_, rfl, ?_⟩; have n0_ := Aside0.mk (Kd.V_below (by (with_reducible repeat (first | apply Kd.V_alloc | apply Kd.V_drewN | apply Kd.V_drew)); exact HO0_6.out) hb); have n1_ := Aside0.mk (Kd.V_below (by (with_reducible repeat (first | apply Kd.V_alloc | apply Kd.V_drewN | apply Kd.V_drew)); exact HO0_7.out) hb); have n2_ := Aside0.mk (Kd.V_below (by (with_reducible repeat (first | apply Kd.V_alloc | apply Kd.V_drewN | apply Kd.V_drew)); exact HO1_6.out) hb); have n3_ := Aside0.mk (Kd.V_below (by (with_reducible repeat (first | apply Kd.V_alloc | apply Kd.V_drewN | apply Kd.V_drew)); exact HO1_7.out) hb); have n4_ := Aside0.mk (Kd.N_below (by (with_reducible repeat (first | apply Kd.N_alloc | apply Kd.N_drewN | apply Kd.N_drew)); exact HO378.out) hb); have n5_ := Aside0.mk (blk_below (g := gb374) (o := .cells #[.int .i64 a0_0, .int .i64 a0_1, .int .i64 a0_2, .int .i64 a0_3, .int .i64 a0_4, .int .i64 a0_5, .slice A0_6 l0_6.length c0_6, .slice A0_7 l0_7.length c0_7, .bool a0_8] 29 (0, 0)) (by (with_reducible repeat (first | refine blk_drewN ?_ _ | refine blk_drew ?_ | refine blk_alloc ?_ _)); exact BK374.out) hb); have n6_ := Aside0.mk (blk_below (g := gb375) (o := .cells #[.int .i64 a1_0, .int .i64 a1_1, .int .i64 a1_2, .int .i64 a1_3, .int .i64 a1_4, .int .i64 a1_5, .slice A1_6 l1_6.length c1_6, .slice A1_7 l1_7.length c1_7, .bool a1_8] 29 (0, 0)) (by (with_reducible repeat (first | refine blk_drewN ?_ _ | refine blk_drew ?_ | refine blk_alloc ?_ _)); exact BK375.out) hb); have n7_ := Aside0.mk (below_step (by repeat (first | (with_reducible first | exact HB.out | apply below_alloc | apply pw_below_drewN | apply below_drew1 | refine below_set ?_ GE374.out | refine below_set ?_ GE375.out) | exact HB.out)) hb); clear HO0_6; clear HO0_7; clear HO1_6; clear HO1_7; clear HO378; clear BK374; clear BK375; clear HB; have HO0_6 := n0_; have HO0_7 := n1_; have HO1_6 := n2_; have HO1_7 := n3_; have HO378 := n4_; have BK374 := n5_; have BK375 := n6_; have HB := n7_; clear n0_ n1_ n2_ n3_ n4_ n5_ n6_ n7_; (try clear hb); (try clear hb2); (try clear hk); (try clear hi)) | ((with_reducible refine gate_callee (f := 9) rfl ?_); refine goesL_ (some 14) rfl rfl Try.func9 (by kernel_rfl) rfl #[] rfl (by (try simp only [List.map_toArray, List.map_cons, List.map_nil]); first | done | rfl | (simp only [List.length_drop, List.length_take]; rfl)) ?_; (with_reducible refine (althinglaw05_awake.calls k  t380 _ A62.out).mono ?_); rintro e w72 ⟨rfl, hb⟩; refine ⟨_, rfl, ?_⟩; have n0_ := Aside0.mk (Kd.V_below (by (with_reducible repeat (first | apply Kd.V_alloc | apply Kd.V_drewN | apply Kd.V_drew)); exact HO0_6.out) hb); have n1_ := Aside0.mk (Kd.V_below (by (with_reducible repeat (first | apply Kd.V_alloc | apply Kd.V_drewN | apply Kd.V_drew)); exact HO0_7.out) hb); have n2_ := Aside0.mk (Kd.V_below (by (with_reducible repeat (first | apply Kd.V_alloc | apply Kd.V_drewN | apply Kd.V_drew)); exact HO1_6.out) hb); have n3_ := Aside0.mk (Kd.V_below (by (with_reducible repeat (first | apply Kd.V_alloc | apply Kd.V_drewN | apply Kd.V_drew)); exact HO1_7.out) hb); have n4_ := Aside0.mk (Kd.N_below (by (with_reducible repeat (first | apply Kd.N_alloc | apply Kd.N_drewN | apply Kd.N_drew)); exact HO378.out) hb); have n5_ := Aside0.mk (blk_below (g := gb374) (o := .cells #[.int .i64 a0_0, .int .i64 a0_1, .int .i64 a0_2, .int .i64 a0_3, .int .i64 a0_4, .int .i64 a0_5, .slice A0_6 l0_6.length c0_6, .slice A0_7 l0_7.length c0_7, .bool a0_8] 29 (0, 0)) (by (with_reducible repeat (first | refine blk_drewN ?_ _ | refine blk_drew ?_ | refine blk_alloc ?_ _)); exact BK374.out) hb); have n6_ := Aside0.mk (blk_below (g := gb375) (o := .cells #[.int .i64 a1_0, .int .i64 a1_1, .int .i64 a1_2, .int .i64 a1_3, .int .i64 a1_4, .int .i64 a1_5, .slice A1_6 l1_6.length c1_6, .slice A1_7 l1_7.length c1_7, .bool a1_8] 29 (0, 0)) (by (with_reducible repeat (first | refine blk_drewN ?_ _ | refine blk_drew ?_ | refine blk_alloc ?_ _)); exact BK375.out) hb); have n7_ := Aside0.mk (below_step (by repeat (first | (with_reducible first | exact HB.out | apply below_alloc | apply pw_below_drewN | apply below_drew1 | refine below_set ?_ GE374.out | refine below_set ?_ GE375.out) | exact HB.out)) hb); clear HO0_6; clear HO0_7; clear HO1_6; clear HO1_7; clear HO378; clear BK374; clear BK375; clear HB; have HO0_6 := n0_; have HO0_7 := n1_; have HO1_6 := n2_; have HO1_7 := n3_; have HO378 := n4_; have BK374 := n5_; have BK375 := n6_; have HB := n7_; clear n0_ n1_ n2_ n3_ n4_ n5_ n6_ n7_; (try clear hb); (try clear hb2); (try clear hk); (try clear hi)))
    go_ret
    exact ⟨by first | rfl | (simp [errW_none, errW_some] <;> rfl) | (simp [*, errW_none, errW_some] <;> rfl), by repeat (first | (with_reducible first | exact HB.out | apply below_alloc | apply pw_below_drewN | apply below_drew1 | refine below_set ?_ GE374.out | refine below_set ?_ GE375.out) | exact HB.out)⟩

end Go.Proofs.Ytnjeeedndnfglaa.X
end
section
namespace Go.Proofs.Ytnjeeedndnfglaa.Strs
open Go.RowKit Go.Proofs.YtnjeeedndnfglaaW.PrintWords Go.Proofs.YtnjeeedndnfglaaW.PrintLast Go.Proofs.YtnjeeedndnfglaaW.PrintMore Go.Proofs.Ytnjeeedndnfglaa.X
set_option linter.unusedSimpArgs false
set_option linter.unusedVariables false
theorem Ev.le {α : Type} {g : Nat → Option α} {r : α} (K : Nat) (h : ∀ k, K ≤ k → g k = some r) : Ev g r := ⟨K, h⟩
theorem Ev.const {α : Type} {g : Option α} {r : α} (h : g = some r) : Ev (fun _ => g) r := ⟨0, fun _ _ => h⟩
theorem w1 (i : Nat) (h : i ≤ 100000000) : wrap64 ((i : Int) + 1) = ((i + 1 : Nat) : Int) := by unfold wrap64; omega
theorem rd_at (l : List ByteArray) (i : Nat) (h : i < l.length) : rdOf ByteArray.empty l (i : Int) = l[i] := rd_el l i h
theorem few_big {l : List ByteArray} (h : few l) : big l := ⟨by have := h.1; omega, fun x hx => by have := h.2 x hx; omega⟩
theorem joinB_symm (a b : List ByteArray) : joinB a b = joinB b a := (joinB_joined a b).unique ((joinB_joined b a).symm)
theorem joinB_self (a b : List ByteArray) : joinB (joinB a b) (joinB a b) = joinB a b := (joinB_joined _ _).unique (Joined.self (joinB_joined a b).1)
theorem dd_len : ∀ (l acc : List ByteArray), (dd acc l).length ≤ acc.length + l.length
  | [], acc => by simp [dd]
  | x :: l, acc => by
    unfold dd
    split
    · have := dd_len l acc; simp only [List.length_cons]; omega
    · have := dd_len l (acc ++ [x]); simp only [List.length_append, List.length_cons, List.length_nil] at *; omega
theorem joinB_len (a b : List ByteArray) : (joinB a b).length ≤ a.length + b.length := by
  unfold joinB
  rw [srt_length]
  have := dd_len (a ++ b) []
  simpa using this
theorem joinB_mem {a b : List ByteArray} {x : ByteArray} (h : x ∈ joinB a b) : x ∈ a ∨ x ∈ b := ((joinB_joined a b).2 x).1 h
theorem join_f {a b : List ByteArray} (ha : big a) (hb : big b) : keys_Join.f a b = some (joinB a b) := by unfold keys_Join.f; rw [if_pos ⟨ha, hb⟩]
theorem joinB_big {a b : List ByteArray} (ha : few a) (hb : few b) : big (joinB a b) := ⟨by have := joinB_len a b; have := ha.1; have := hb.1; omega, fun x hx => by
  rcases joinB_mem hx with h | h
  · have := ha.2 x h; omega
  · have := hb.2 x h; omega⟩
theorem less_blt (x y : ByteArray) : Op.bytesLess x.toList y.toList = true ↔ blt x y := by
  rw [toList_eq, toList_eq, bytesLess_eq, decide_eq_true_eq]
  exact Iff.rfl
end Go.Proofs.Ytnjeeedndnfglaa.Strs
end
section
namespace Go.Proofs.Ytnjeeedndnfglaa.Keys
open Go.RowKit
set_option linter.unusedSimpArgs false
set_option linter.unusedVariables false
theorem width_le (s : ByteArray) (pos : Nat) (h : pos < s.size) : pos + (Utf8.decode s pos).2 ≤ s.size := by
  rw [Lib.decode_at]
  have : (Lib.decodeN (s.size - pos) (s.get! pos).toNat (s.get! (pos + 1)).toNat (s.get! (pos + 2)).toNat (s.get! (pos + 3)).toNat).2 ≤ s.size - pos := by
    generalize (s.get! pos).toNat = b0
    generalize (s.get! (pos + 1)).toNat = b1
    generalize (s.get! (pos + 2)).toNat = b2
    generalize (s.get! (pos + 3)).toNat = b3
    unfold Lib.decodeN
    (repeat' split) <;> simp only <;> omega
  omega
/-- The runes from place pos on, b of them at most. -/
def rns (s : ByteArray) : Nat → Nat → List Int
  | 0, _ => []
  | b + 1, pos => if pos < s.size then ((Utf8.decode s pos).1 : Int) :: rns s b (pos + (Utf8.decode s pos).2) else []
def runes (s : ByteArray) : List Int := rns s s.size 0
theorem rns_end (s : ByteArray) (b pos : Nat) (h : ¬ pos < s.size) : rns s b pos = [] := by cases b <;> simp [rns, h]
theorem rns_len (s : ByteArray) : ∀ b pos, (rns s b pos).length ≤ s.size - pos
  | 0, _ => by simp [rns]
  | b + 1, pos => by
    unfold rns
    split
    · have := rns_len s b (pos + (Utf8.decode s pos).2)
      have := Lib.width_pos s pos
      simp only [List.length_cons]; omega
    · simp
theorem rns_range (s : ByteArray) : ∀ b pos, ∀ x ∈ rns s b pos, 0 ≤ x ∧ x ≤ 1114111
  | 0, _ => by simp [rns]
  | b + 1, pos => by
    unfold rns
    split
    · intro x hx
      rcases List.mem_cons.1 hx with rfl | hx
      · have := Lib.rune_le s pos; omega
      · exact rns_range s b _ x hx
    · simp
theorem runes_len (s : ByteArray) : (runes s).length ≤ s.size := by have := rns_len s s.size 0; unfold runes; omega
theorem runes_at (s : ByteArray) (i : Nat) : 0 ≤ (runes s).getD i 0 ∧ (runes s).getD i 0 ≤ 1114111 := by
  by_cases h : i < (runes s).length
  · have e : (runes s).getD i 0 = (runes s)[i] := by simp [List.getD_eq_getElem?_getD, h]
    rw [e]
    exact rns_range s s.size 0 _ (List.getElem_mem h)
  · have e : (runes s).getD i 0 = 0 := by simp [List.getD_eq_getElem?_getD, Nat.le_of_not_lt h]
    rw [e]; omega
def wsum (l : List Int) : Nat → Int
  | 0 => 0
  | k + 1 => wsum l k + ((k : Int) + 1) * l.getD k 0
def weight (s : ByteArray) : Int := wsum (runes s) (runes s).length
theorem wterm (k : Nat) (c : Int) (hk : k < 2000) (hc : 0 ≤ c ∧ c ≤ 1114111) : 0 ≤ ((k : Int) + 1) * c ∧ ((k : Int) + 1) * c ≤ 2228222000 := by
  refine ⟨Int.mul_nonneg (by omega) hc.1, ?_⟩
  calc ((k : Int) + 1) * c ≤ 2000 * c := Int.mul_le_mul_of_nonneg_right (by omega) hc.1
    _ ≤ 2228222000 := by omega
theorem wsum_range (l : List Int) (hl : ∀ i, 0 ≤ l.getD i 0 ∧ l.getD i 0 ≤ 1114111) : ∀ k, k ≤ 2000 → 0 ≤ wsum l k ∧ wsum l k ≤ 2228222000 * (k : Int)
  | 0, _ => by simp [wsum]
  | k + 1, h => by
    have ih := wsum_range l hl k (by omega)
    have ht := wterm k (l.getD k 0) (by omega) (hl k)
    unfold wsum
    omega
theorem weight_range (s : ByteArray) (hs : s.size ≤ 2000) : 0 ≤ weight s ∧ weight s ≤ 4456444000000 := by
  have hl := runes_len s
  have := wsum_range (runes s) (runes_at s) (runes s).length (by omega)
  unfold weight
  omega
end Go.Proofs.Ytnjeeedndnfglaa.Keys
end
section
namespace Go.Proofs.Ytnjeeedndnfglaa.Keys
open Go.RowKit Go.Proofs.YtnjeeedndnfglaaW.PrintWords Go.Proofs.YtnjeeedndnfglaaW.PrintLast Go.Proofs.YtnjeeedndnfglaaW.PrintMore Go.Proofs.Ytnjeeedndnfglaa.X
set_option linter.unusedSimpArgs false
set_option linter.unusedVariables false
theorem own_iter {w : World} {B e size n : Nat} {v : Value} {xs : List Value} {k : Nat} {s : ByteArray} {pos : Nat} (h : w.ownsRow B e size v n xs) (hk : w.heap[k]? = some (.stringIter s pos)) (pos' : Nat) : (w.iterAt k s pos').ownsRow B e size v n xs := by
  refine ⟨h.1, ?_⟩
  rcases h.2 with h0 | ⟨g, cap, cur, hv, hb, hg, rest⟩
  · exact .inl h0
  · refine .inr ⟨g, cap, cur, hv, hb, ?_, rest⟩
    rw [Lib.iterAt_other _ _ _ _ _ (fun e => by subst e; rw [hk] at hg; cases hg)]
    exact hg
theorem own_low {w : World} {B B' e size n : Nat} {v : Value} {xs : List Value} (h : w.ownsRow B e size v n xs) (hB : B' ≤ B) : w.ownsRow B' e size v n xs := by
  refine ⟨h.1, ?_⟩
  rcases h.2 with h0 | ⟨g, cap, cur, hv, hb, rest⟩
  · exact .inl h0
  · exact .inr ⟨g, cap, cur, hv, by omega, rest⟩
theorem own_cellsI {w : World} {base : Nat} {e : TypeId} {v : Value} {xs : List Int} (k : IntKind) (h : w.ownsRow base e 1 v xs.length (xs.map (Value.int k))) :
    ∃ A c, v = .slice A xs.length c ∧ ∀ j, j < xs.length → ∃ ad : Addr, A = some ad ∧ w.cell? (ad.add j) = some (.int k (xs.getD j 0)) ∧ ad.block < w.heap.size ∧ (ad.add j).block = ad.block := by
  rcases h.2 with ⟨rfl, h0⟩ | ⟨g, cap, cur, rfl, hg, hh, hn, _, hc, ht⟩
  · exact ⟨none, 0, by rw [h0], fun j hj => by omega⟩
  · refine ⟨_, cap, rfl, fun j hj => ⟨_, rfl, ?_⟩⟩
    have hj2 : j < cur.toList.length := by rw [Array.length_toList]; omega
    have e1 : (cur.toList.take (xs.length * 1))[j]? = (xs.map (Value.int k))[j]? := by rw [ht]
    rw [List.getElem?_take, if_pos (by omega), List.getElem?_map] at e1
    have e2 : xs[j]? = some (xs.getD j 0) := by simp [List.getD_eq_getElem?_getD, hj]
    rw [e2] at e1
    have h3 : w.cell? ⟨g, j, none⟩ = some (.int k (xs.getD j 0)) := by simp [World.cell?, hh]; simpa using e1
    have ha : (⟨g, 0, none⟩ : Addr).add j = ⟨g, j, none⟩ := by unfold Addr.add; split <;> simp_all
    rw [ha]
    exact ⟨h3, World.block_lt_of_cell? w ⟨g, j, none⟩ h3, rfl⟩
set_option maxRecDepth 1000000 in
set_option maxHeartbeats 4000000 in
theorem runes_any (s : ByteArray) (hs : s.size ≤ 2000) (w : World) :
    Calls Try.prog 59 #[.string s] w fun e w' => ∃ v, e = .returned v ∧ w'.ownsRow w.heap.size 21 1 v (runes s).length ((runes s).map (Value.int .i32)) ∧ Below w.heap.size w w' := by
  have hi : (Try.prog.info? 21).map (fun i => (i.zero, i.size, i.bytes)) = some (some (.int .i32 0), 1, 4) := by kernel_rfl
  have HI := Lib.hid hi
  clear hi
  go_enter Try.func59, Try.ntmps59
  go_wp2
  go_loopw [3] (fun v wr => ∃ (pos b : Nat) (acc : List Int), wr.heap[w.heap.size]? = some (.stringIter s pos) ∧ pos ≤ s.size ∧ acc.length ≤ pos ∧ s.size ≤ pos + b ∧ Hid (acc ++ rns s b pos = runes s) ∧ Hid (wr.ownsRow (w.heap.size + 1) 21 1 v acc.length (acc.map (Value.int .i32))) ∧ Hid (Below w.heap.size w wr)) (fun _ wr => s.size - wr.iterPos w.heap.size)
  case atStart => exact ⟨0, s.size, [], World.iter_heap w s 0, by omega, by simp, by omega, Lib.hid rfl, Lib.hid (own_none _ _ _ _), Lib.hid ((Below.refl _ w).alloc (Nat.le_refl _) _)⟩
  case round =>
    obtain ⟨pos, b, acc, hit, hpos, hacc, hfu, HL, HO, HB⟩ := hrel
    by_cases hps : pos < s.size
    · obtain ⟨b, rfl⟩ : ∃ b', b = b' + 1 := ⟨b - 1, by omega⟩
      have hnx : ∀ ty, (Instr.next (.pointer (some ⟨w.heap.size, 0, none⟩)) true ty).run Try.prog wr = _ := fun ty => Lib.run_next_any_at wr w.heap.size s pos ty hit hps
      have hwd := Lib.width_pos s pos
      have hwl := width_le s pos hps
      have hL2 := HL.out
      rw [rns, if_pos hps] at hL2
      obtain ⟨R, hR⟩ : ∃ R, (Utf8.decode s pos).1 = R := ⟨_, rfl⟩
      obtain ⟨K, hK⟩ : ∃ K, (Utf8.decode s pos).2 = K := ⟨_, rfl⟩
      rw [hR, hK] at hnx hL2
      rw [hK] at hwd hwl
      have HL3 := Lib.hid hL2
      have hit2 := Lib.iterAt_heap wr w.heap.size s pos (pos + K) hit
      have hbw2 := Lib.below_iterAt HB.out (k := w.heap.size) (Nat.le_refl _) s (pos + K)
      have hown2 := own_iter HO.out hit (pos + K)
      have hip : wr.iterPos w.heap.size = pos := by simp [World.iterPos, hit]
      clear hL2 hR hK HL HO HB hit
      obtain ⟨W, hWd⟩ : ∃ W, wr.iterAt w.heap.size s (pos + K) = W := ⟨_, rfl⟩
      rw [hWd] at hnx hit2 hbw2 hown2
      have HB2 := Lib.hid hbw2
      have HO2 := Lib.hid hown2
      have hsz2 : w.heap.size + 1 ≤ W.heap.size := (Array.getElem?_eq_some_iff.1 hit2).1
      clear hbw2 hown2
      go_wp2_with (at_builtin; refine append_one (w0 := W) (w.heap.size + 1) rfl (.tmp 11) (.tmp 13) 76 21 (.int .i32 0) 1 4 rfl Try.underlying76 HI.out rfl (by decide) (by decide) _ _ _ [.int .i32 (R : Int)] rfl rfl rfl (by simp [Value.oneCell']) HO2.out (Below.refl _ _) hsz2 (by omega) ?_; intro v1 w2 hown3 hb3 hs2; have HO3 := Lib.hid hown3; have HB3 := Lib.hid hb3; clear hown3 hb3)
      go_roundw
      case rel => exact ⟨pos + K, b, acc ++ [(R : Int)], (HB3.out.block _ (by omega)).trans hit2, hwl, (by simp only [List.length_append, List.length_singleton]; omega), (by omega), Lib.hid (by rw [List.append_assoc]; exact HL3.out), Lib.hid (by simpa using HO3.out), Lib.hid (HB2.out.trans (HB3.out.mono (by omega)))⟩
      case measure =>
        have : w2.iterPos w.heap.size = pos + K := by rw [World.iterPos, (HB3.out.block _ (by omega)).trans hit2]
        rw [hip, this]; omega
    · have hnx : ∀ ty, (Instr.next (.pointer (some ⟨w.heap.size, 0, none⟩)) true ty).run Try.prog wr = _ := fun ty => Lib.run_next_end_at wr w.heap.size s pos ty hit hps
      have hL2 := HL.out
      rw [rns_end s b pos hps, List.append_nil] at hL2
      subst hL2
      go_wp2
      go_ret
      exact ⟨_, rfl, own_low HO.out (by omega), HB.out⟩
theorem runes_len' (s : ByteArray) : Hid ((runes s).length ≤ s.size) := Lib.hid (runes_len s)
set_option maxRecDepth 1000000 in
set_option maxHeartbeats 4000000 in
theorem weight_any (s : ByteArray) (hs : s.size ≤ 2000) (x : Int) (hx : x = weight s) (w : World) :
    Calls Try.prog 52 #[.string s] w fun e w' => e = .returned (.int .i64 x) ∧ Below w.heap.size w w' := by
  have hl := runes_len s
  have HX := Lib.hid hx
  clear hx
  go_enter Try.func52, Try.ntmps52
  go_wp2_with (go_at_call 59; refine (runes_any s hs _).mono ?_; rintro e w2 ⟨v, rfl, hown, hb2⟩; obtain ⟨A, c, rfl, hcs⟩ := own_cellsI .i32 hown; have KC := Lib.hid hcs; have HB := Lib.hid hb2; clear hown hcs hb2)
  have HX2 : Hid (x = wsum (runes s) (runes s).length) := Lib.hid (by rw [HX.out]; rfl)
  have HR := Lib.hid (runes_at s)
  clear HX
  generalize runes s = l at hl KC HX2 HR
  obtain ⟨L, hL⟩ : ∃ L, l.length = L := ⟨_, rfl⟩
  rw [hL] at KC hl HX2
  rw [hL]
  clear hL
  go_loopw [3, 9] (fun n i wr => ∃ j : Nat, j ≤ L ∧ i = .int .i64 j ∧ n = .int .i64 (wsum l j) ∧ Hid (Below w2.heap.size w2 wr)) (fun _ i _ => L - (intOf i).toNat)
  case atStart => exact ⟨0, by omega, rfl, rfl, Lib.hid (Below.refl _ _)⟩
  case round =>
    obtain ⟨j, hj, rfl, rfl, hb⟩ := hrel
    by_cases hlt : j < L
    · obtain ⟨ad, rfl, hc1, hk1, ha1⟩ := KC.out j hlt
      have hcell : wr.cell? (ad.add j) = some (.int .i32 (l.getD j 0)) := by
        rw [hb.out.cell (p := ad.add j) (by rw [ha1]; exact hk1), hc1]
      have hr := HR.out j
      have hsum := wsum_range l HR.out j (by omega)
      have hterm := wterm j (l.getD j 0) (by omega) hr
      have hstep : wsum l (j + 1) = wsum l j + ((j : Int) + 1) * l.getD j 0 := rfl
      clear hc1 hk1 ha1
      generalize l.getD j 0 = z at hcell hr hterm hstep
      obtain ⟨y, hy⟩ : ∃ y : Int, y = ((j : Int) + 1) * z := ⟨_, rfl⟩
      rw [← hy] at hterm hstep
      have HY := Lib.hid hy
      have HST := Lib.hid hstep
      clear hy hstep
      go_wp2
      go_roundw
      case rel => exact ⟨j + 1, by omega, by go_num, by rw [HST.out]; simp only [go_sem, wrap64, IntKind.wrap_i64]; rw [← HY.out]; congr 1; omega, hb⟩
      case measure => simp [intOf]; omega
    · have e : j = L := by omega
      subst e
      go_wp2
      go_ret
      exact ⟨ret_int HX2.out.symm, HB.out.trans (hb.out.mono HB.out.size)⟩
/-- May a text be a key? -/
def okKey (s : ByteArray) : Bool := decide (1 ≤ s.size ∧ s.size ≤ 8)
theorem right_is (s : ByteArray) (x : Bool) (hx : x = okKey s) (w : World) :
    Calls Try.prog 51 #[.string s] w fun e w' => e = .returned (.bool x) ∧ Below w.heap.size w w' := by
  refine (keys_Right.calls s x w ?_).mono fun e w' h => ⟨h.1, h.2.below⟩
  unfold keys_Right.f
  rw [hx]; unfold okKey
  split
  · rw [Option.some.injEq, decide_eq_decide]; omega
  · simp; omega
def shardN (s : ByteArray) (m : Int) : Int := if okKey s = true ∧ 1 ≤ m ∧ m ≤ 4 then weight s % m else 0
def shardE (s : ByteArray) (m : Int) : Int := if okKey s = true ∧ 1 ≤ m ∧ m ≤ 4 then 0 else 1
theorem ret_two {a b c d : Int} {k k' : IntKind} (h : a = b) (h' : c = d) : Ending.returned (.tuple #[.int k a, .int k' c]) = .returned (.tuple #[.int k b, .int k' d]) := by rw [h, h']
theorem ok_size {s : ByteArray} (h : okKey s = true) : s.size ≤ 2000 := by
  have := of_decide_eq_true h
  omega
set_option maxRecDepth 1000000 in
set_option maxHeartbeats 4000000 in
theorem shard_is (s : ByteArray) (m : Int) (n e : Int) (hn : n = shardN s m) (he : e = shardE s m) (w : World) :
    Calls Try.prog 35 #[.string s, .int .i64 m] w fun x w' => x = .returned (.tuple #[.int .i64 n, .int .i64 e]) ∧ Below w.heap.size w w' := by
  cases hk : okKey s with
  | false =>
    have hn0 : n = 0 := by rw [hn]; simp [shardN, hk]
    have he0 : e = 1 := by rw [he]; simp [shardE, hk]
    subst hn0 he0
    clear hn he
    go_enter Try.func35, Try.ntmps35
    go_wp2_with (go_at_call 51; refine (right_is s false hk.symm _).mono ?_; rintro e w1 ⟨rfl, hb⟩)
    go_ret2
    exact ⟨rfl, hb⟩
  | true =>
    have hs := ok_size hk
    by_cases h1 : m < 1
    · have hn0 : n = 0 := by rw [hn]; unfold shardN; rw [if_neg (by omega)]
      have he0 : e = 1 := by rw [he]; unfold shardE; rw [if_neg (by omega)]
      have d1 : decide (m < 1) = true := decide_eq_true h1
      subst hn0 he0
      clear hn he
      go_enter Try.func35, Try.ntmps35
      go_wp2_with (go_at_call 51; refine (right_is s true hk.symm _).mono ?_; rintro e w1 ⟨rfl, hb⟩)
      go_ret2
      exact ⟨rfl, hb⟩
    · have d1 : decide (m < 1) = false := decide_eq_false h1
      by_cases h4 : 4 < m
      · have hn0 : n = 0 := by rw [hn]; unfold shardN; rw [if_neg (by omega)]
        have he0 : e = 1 := by rw [he]; unfold shardE; rw [if_neg (by omega)]
        have d4 : decide (4 < m) = true := decide_eq_true h4
        subst hn0 he0
        clear hn he
        go_enter Try.func35, Try.ntmps35
        go_wp2_with (go_at_call 51; refine (right_is s true hk.symm _).mono ?_; rintro e w1 ⟨rfl, hb⟩)
        go_ret2
        exact ⟨rfl, hb⟩
      · have d4 : decide (4 < m) = false := decide_eq_false h4
        have hw := weight_range s hs
        obtain ⟨W, hW⟩ : ∃ W : Int, W = weight s := ⟨_, rfl⟩
        have hn0 : n = W % m := by rw [hn, hW]; unfold shardN; rw [if_pos ⟨hk, by omega, by omega⟩]
        have he0 : e = 0 := by rw [he]; unfold shardE; rw [if_pos ⟨hk, by omega, by omega⟩]
        rw [← hW] at hw
        have HW := Lib.hid hW
        have HN := Lib.hid hn0
        have hm0 : ¬ m = 0 := by omega
        subst he0
        clear hn he hn0 hW
        go_enter Try.func35, Try.ntmps35
        go_wp2_with (first | (go_at_call 51; refine (right_is s true hk.symm _).mono ?_; rintro e w1 ⟨rfl, hb⟩) | (go_at_call 52; refine (weight_any s hs W HW.out _).mono ?_; rintro e w2 ⟨rfl, hb2⟩))
        go_ret2
        exact ⟨ret_two HN.out.symm rfl, hb.trans (hb2.mono hb.size)⟩
theorem ab_weight : weight ⟨#[97, 98]⟩ = 293 := by decide
end Go.Proofs.Ytnjeeedndnfglaa.Keys
end
section
namespace Go.Proofs.Ytnjeeedndnfglaa.X
open Go.RowKit Go.Proofs.Ytnjeeedndnfglaa.Keys Go.Proofs.YtnjeeedndnfglaaW.PrintWords Go.Proofs.YtnjeeedndnfglaaW.PrintLast Go.Proofs.YtnjeeedndnfglaaW.PrintMore
set_option linter.unusedVariables false
def keys_Runes.f (a0 : ByteArray) : Option (List Int) := if a0.size ≤ 2000 then some (runes a0) else none
theorem keys_Runes.calls (a0 : ByteArray) (r : List Int) (w : World) (h : keys_Runes.f a0 = some r) :
    Calls Try.prog 59 #[.string a0] w fun e w' => ∃ v0_ : Value, e = .returned (v0_) ∧ Kd.R (Kd.int .i32) 21 w' w.heap.size (fun _ => True) v0_ r ∧ Below w.heap.size w w' := by
  unfold keys_Runes.f at h
  by_cases hs : a0.size ≤ 2000
  · rw [if_pos hs] at h
    obtain rfl := Option.some.inj h
    refine (runes_any a0 hs w).mono ?_
    rintro e w' ⟨v, rfl, ho, hB⟩
    exact ⟨v, rfl, Kd.R_of_own ho (fun _ _ => trivial), hB⟩
  · rw [if_neg hs] at h; cases h
def keys_Weight.f (a0 : ByteArray) : Option Int := if a0.size ≤ 2000 then some (weight a0) else none
theorem keys_Weight.calls (a0 : ByteArray) (r : Int) (w : World) (h : keys_Weight.f a0 = some r) :
    Calls Try.prog 52 #[.string a0] w fun e w' => e = .returned (.int .i64 r) ∧ Below w.heap.size w w' := by
  unfold keys_Weight.f at h
  by_cases hs : a0.size ≤ 2000
  · rw [if_pos hs] at h
    exact weight_any a0 hs r (Option.some.inj h).symm w
  · rw [if_neg hs] at h; cases h
def keys_Shard.f (a0 : ByteArray) (a1 : Int) : Option (Int × Int) := some (shardN a0 a1, shardE a0 a1)
theorem keys_Shard.calls (a0 : ByteArray) (a1 : Int) (r1 : Int) (r2 : Int) (w : World) (h : keys_Shard.f a0 a1 = some (r1, r2)) :
    Calls Try.prog 35 #[.string a0, .int .i64 a1] w fun e w' => e = .returned (.tuple #[.int .i64 r1, .int .i64 r2]) ∧ Below w.heap.size w w' := by
  injection h with h; injection h with h1 h2
  exact shard_is a0 a1 r1 r2 h1.symm h2.symm w
end Go.Proofs.Ytnjeeedndnfglaa.X
end
section
namespace Go.Proofs.Ytnjeeedndnfglaa.Strs
open Go.RowKit Go.Proofs.Ytnjeeedndnfglaa.Keys Go.Proofs.YtnjeeedndnfglaaW.PrintWords Go.Proofs.YtnjeeedndnfglaaW.PrintLast Go.Proofs.YtnjeeedndnfglaaW.PrintMore Go.Proofs.Ytnjeeedndnfglaa.X
set_option linter.unusedSimpArgs false
set_option linter.unusedVariables false
/-- A loop that goes on while what it looks at is fine. -/
theorem Ev.scan {F : Nat → Int → Option Bool} (n : Nat) (ok : Nat → Bool) (fin : Bool)
    (h1 : ∀ i, i < n → ok i = true → ∀ r, Ev (fun k => F k ((i + 1 : Nat) : Int)) r → Ev (fun k => F k (i : Int)) r)
    (h2 : ∀ i, i < n → ok i = false → Ev (fun k => F k (i : Int)) false) (h3 : Ev (fun k => F k (n : Int)) fin) : Ev (fun k => F k 0) ((List.range n).all ok && fin) := by
  have h : ∀ d i, i + d = n → Ev (fun k => F k (i : Int)) ((List.range' i d).all ok && fin) := by
    intro d
    induction d with
    | zero =>
      intro i hi
      obtain rfl : i = n := by omega
      simpa using h3
    | succ d ih =>
      intro i hi
      rw [List.range'_succ, List.all_cons]
      cases hk : ok i with
      | true => simpa using h1 i (by omega) hk _ (ih (i + 1) (by omega))
      | false => simpa using h2 i (by omega) hk
  have := h n 0 (by omega)
  rwa [← List.range_eq_range'] at this
def okAt (l : List ByteArray) (i : Nat) : Bool := okKey (l.getD i ByteArray.empty) && (decide (i = 0) || decide (blt (l.getD (i - 1) ByteArray.empty) (l.getD i ByteArray.empty)))
def rightsB (l : List ByteArray) : Bool := (List.range l.length).all (okAt l) && decide (l.length ≤ 8)
theorem getD_at (l : List ByteArray) (i : Nat) (h : i < l.length) : l.getD i ByteArray.empty = l[i] := by simp [List.getD_eq_getElem?_getD, h]
theorem rightsB_iff (l : List ByteArray) : rightsB l = true ↔ (∀ x ∈ l, okKey x = true) ∧ l.Pairwise blt ∧ l.length ≤ 8 := by
  unfold rightsB
  rw [Bool.and_eq_true, List.all_eq_true, decide_eq_true_eq]
  constructor
  · rintro ⟨h, h8⟩
    have h' : ∀ i, i < l.length → okAt l i = true := fun i hi => h i (by simpa using hi)
    refine ⟨fun x hx => ?_, ?_, h8⟩
    · obtain ⟨i, hi, rfl⟩ := List.getElem_of_mem hx
      have := h' i hi
      unfold okAt at this
      rw [Bool.and_eq_true, getD_at l i hi] at this
      exact this.1
    · have hadj : ∀ i, (hi : i + 1 < l.length) → blt l[i] l[i + 1] := fun i hi => by
        have := h' (i + 1) hi
        unfold okAt at this
        rw [Bool.and_eq_true, getD_at l (i + 1) hi, show i + 1 - 1 = i by omega, getD_at l i (by omega), Bool.or_eq_true, decide_eq_true_eq, decide_eq_true_eq] at this
        rcases this.2 with h0 | h0
        · omega
        · exact h0
      rw [List.pairwise_iff_getElem]
      intro i j hi hj hij
      obtain ⟨d, rfl⟩ : ∃ d, j = i + 1 + d := ⟨j - i - 1, by omega⟩
      clear hij
      induction d with
      | zero => exact hadj i hj
      | succ d ih => exact blt_trans _ _ _ (ih (by omega)) (hadj (i + 1 + d) hj)
  · rintro ⟨hok, hp, h8⟩
    refine ⟨fun i hi => ?_, h8⟩
    have hil : i < l.length := by simpa using hi
    unfold okAt
    rw [Bool.and_eq_true, getD_at l i hil, Bool.or_eq_true, decide_eq_true_eq, decide_eq_true_eq]
    refine ⟨hok _ (List.getElem_mem hil), ?_⟩
    by_cases h0 : i = 0
    · exact .inl h0
    · right
      rw [getD_at l (i - 1) (by omega)]
      exact (List.pairwise_iff_getElem.1 hp) (i - 1) i (by omega) hil (by omega)
theorem right_f (x : ByteArray) : keys_Right.f x = some (okKey x) := by
  unfold keys_Right.f okKey
  by_cases h : (x.size : Int) ≥ 1
  · rw [if_pos h]; congr 1; rw [decide_eq_decide]; omega
  · rw [if_neg h]; congr 1; symm; rw [decide_eq_false_iff_not]; omega
theorem rd_getD (l : List ByteArray) (i : Nat) : rdOf ByteArray.empty l (i : Int) = l.getD i ByteArray.empty := by unfold rdOf; rw [Int.toNat_natCast]
theorem wm1 (i : Nat) (h : i ≤ 100000000) (h0 : i ≠ 0) : wrap64 ((i : Int) - 1) = ((i - 1 : Nat) : Int) := by unfold wrap64; omega
theorem rights_is (l : List ByteArray) (hl : l.length ≤ 2000) : Ev (fun k => keys_Rights.f k l) (rightsB l) := by
  refine Ev.scan (F := fun k i => keys_Rights.l0 k l l (l.length : Int) i) l.length (okAt l) _ (fun i hi hok r hr => ?_) (fun i hi hok => ?_) ?_
  · refine Ev.step (fun k => ?_) hr
    simp only [keys_Rights.l0]
    unfold okAt at hok
    rw [Bool.and_eq_true] at hok
    rw [if_pos (by omega), if_pos (by omega), if_pos (by omega), right_f, Option.bind_some, rd_getD, hok.1, if_pos rfl]
    by_cases h0 : i = 0
    · rw [if_neg (by omega), w1 i (by omega)]
    · have hb : blt (l.getD (i - 1) ByteArray.empty) (l.getD i ByteArray.empty) := by simpa [h0] using hok.2
      rw [if_pos (by omega), wm1 i (by omega) h0, if_pos (by omega), if_pos (by omega), rd_getD, if_pos ((less_blt _ _).2 hb), w1 i (by omega)]
  · refine Ev.step (f := fun _ => some false) (fun k => ?_) (Ev.const rfl)
    simp only [keys_Rights.l0]
    unfold okAt at hok
    rw [if_pos (by omega), if_pos (by omega), if_pos (by omega), right_f, Option.bind_some, rd_getD]
    cases ho : okKey (l.getD i ByteArray.empty) with
    | false => rw [if_neg (by simp)]
    | true =>
      rw [ho, Bool.true_and, Bool.or_eq_false_iff, decide_eq_false_iff_not, decide_eq_false_iff_not] at hok
      rw [if_pos rfl, if_pos (by omega), wm1 i (by omega) hok.1, if_pos (by omega), if_pos (by omega), rd_getD, if_neg (fun e => hok.2 ((less_blt _ _).1 e))]
  · refine Ev.step (f := fun _ => some (decide ((l.length : Int) ≤ 8))) (fun k => ?_) (Ev.const ?_)
    · simp only [keys_Rights.l0]
      rw [if_neg (by omega)]
    · congr 1; rw [decide_eq_decide]; omega
end Go.Proofs.Ytnjeeedndnfglaa.Strs
end
section
namespace Go.Proofs.Ytnjeeedndnfglaa.Strs
open Go.RowKit Go.Proofs.Ytnjeeedndnfglaa.Keys Go.Proofs.YtnjeeedndnfglaaW.PrintWords Go.Proofs.YtnjeeedndnfglaaW.PrintLast Go.Proofs.YtnjeeedndnfglaaW.PrintMore Go.Proofs.Ytnjeeedndnfglaa.X
set_option linter.unusedSimpArgs false
set_option linter.unusedVariables false
theorem Ev.bindT {β : Type} {g : Nat → Option Bool} {f1 f2 : Nat → Option β} {r : β} (h : Ev g true) (k : Ev f1 r) : Ev (fun n => (g n).bind fun t => if t = true then f1 n else f2 n) r := Ev.bind h (Ev.congr (fun _ => if_pos rfl) k)
theorem Ev.bindF {β : Type} {g : Nat → Option Bool} {f1 f2 : Nat → Option β} {r : β} (h : Ev g false) (k : Ev f2 r) : Ev (fun n => (g n).bind fun t => if t = true then f1 n else f2 n) r := Ev.bind h (Ev.congr (fun _ => if_neg (by simp)) k)
abbrev Rd := S38
abbrev Wr := S40
abbrev Cm := S29
def rk (r : List Rd) : List ByteArray := r.map (·.f0)
def wk (w : List Wr) : List ByteArray := w.map (·.f0)
theorem rdR (r : List Rd) (i : Nat) (h : i < r.length) : rd_T38 r (i : Int) = r[i] := by unfold rd_T38; rw [Int.toNat_natCast]; simp [List.getD_eq_getElem?_getD, h]
theorem rdW (w : List Wr) (i : Nat) (h : i < w.length) : rd_T40 w (i : Int) = w[i] := by unfold rd_T40; rw [Int.toNat_natCast]; simp [List.getD_eq_getElem?_getD, h]
theorem rdC (l : List Cm) (i : Nat) (h : i < l.length) : rd_T29 l (i : Int) = l[i] := by unfold rd_T29; rw [Int.toNat_natCast]; simp [List.getD_eq_getElem?_getD, h]
/-- A command that is gone through. -/
def small (r : List Rd) (w : List Wr) : Prop := r.length ≤ 20 ∧ w.length ≤ 20 ∧ (∀ x ∈ r, x.f0.size ≤ 100) ∧ ∀ x ∈ w, x.f0.size ≤ 100 ∧ x.f1.size ≤ 100
theorem small_nil : small [] [] := ⟨by simp, by simp, by simp, by simp⟩
theorem rk_few {r : List Rd} {w : List Wr} (h : small r w) : few (rk r) := ⟨by unfold rk; rw [List.length_map]; have := h.1; omega, fun x hx => by
  unfold rk at hx
  obtain ⟨y, hy, rfl⟩ := List.mem_map.1 hx
  exact h.2.2.1 y hy⟩
theorem wk_few {r : List Rd} {w : List Wr} (h : small r w) : few (wk w) := ⟨by unfold wk; rw [List.length_map]; have := h.2.1; omega, fun x hx => by
  unfold wk at hx
  obtain ⟨y, hy, rfl⟩ := List.mem_map.1 hx
  exact (h.2.2.2 y hy).1⟩
theorem read_l0 (r : List Rd) (hl : r.length ≤ 2000) : ∀ d i, i + d = r.length → Ev (fun k => command_read.l0 k (rk (r.take i)) r (r.length : Int) (i : Int)) (rk r)
  | 0, i, h => by
    refine Ev.step (f := fun _ => some (rk (r.take i))) (fun k => ?_) (Ev.const ?_)
    · simp only [command_read.l0]; rw [if_neg (by omega)]
    · rw [show i = r.length by omega, List.take_length]
  | d + 1, i, h => by
    have hi : i < r.length := by omega
    refine Ev.step (fun k => ?_) (read_l0 r hl d (i + 1) (by omega))
    simp only [command_read.l0]
    rw [if_pos (by omega), if_pos (by omega), if_pos (by omega), if_pos (by unfold rk; rw [List.length_map, List.length_take]; omega), rdR r i hi, w1 i (by omega), List.take_succ_eq_append_getElem hi]
    unfold rk
    rw [List.map_append]; rfl
theorem written_l0 (r : List Wr) (hl : r.length ≤ 2000) : ∀ d i, i + d = r.length → Ev (fun k => command_written.l0 k (wk (r.take i)) r (r.length : Int) (i : Int)) (wk r)
  | 0, i, h => by
    refine Ev.step (f := fun _ => some (wk (r.take i))) (fun k => ?_) (Ev.const ?_)
    · simp only [command_written.l0]; rw [if_neg (by omega)]
    · rw [show i = r.length by omega, List.take_length]
  | d + 1, i, h => by
    have hi : i < r.length := by omega
    refine Ev.step (fun k => ?_) (written_l0 r hl d (i + 1) (by omega))
    simp only [command_written.l0]
    rw [if_pos (by omega), if_pos (by omega), if_pos (by omega), if_pos (by unfold wk; rw [List.length_map, List.length_take]; omega), rdW r i hi, w1 i (by omega), List.take_succ_eq_append_getElem hi]
    unfold wk
    rw [List.map_append]; rfl
section
variable (a b c d e s : Int) (r : List Rd) (w : List Wr) (m : Bool) (a' b' c' d' e' s' : Int) (r' : List Rd) (w' : List Wr) (m' : Bool)
theorem read_is (hl : r.length ≤ 2000) : Ev (fun k => command_read.f k a b c d e s r w m) (rk r) := read_l0 r hl r.length 0 (by omega)
theorem written_is (hl : w.length ≤ 2000) : Ev (fun k => command_written.f k a b c d e s r w m) (wk w) := written_l0 w hl w.length 0 (by omega)
/-- A command's keys. -/
def keysB : List ByteArray := joinB (rk r) (wk w)
theorem keys_is (h : small r w) : Ev (fun k => command_Keys.f k a b c d e s r w m) (keysB r w) := by
  refine Ev.bind (read_is a b c d e s r w m (by have := h.1; omega)) (Ev.bind (written_is a b c d e s r w m (by have := h.2.1; omega)) (Ev.bind (Ev.const (join_f (few_big (rk_few h)) (few_big (wk_few h)))) (Ev.const rfl)))
/-- Do two commands interfere? -/
def interB (a b c : Int) (r : List Rd) (w : List Wr) (a' b' c' : Int) (r' : List Rd) (w' : List Wr) : Bool := !(decide (a = 0) || decide (a' = 0)) && ((b == b' && (c == c')) || meetB (keysB r w) (keysB r' w'))
theorem inter_j0 (h : small r w) (h' : small r' w') (x : Bool) : Ev (fun k => command_Interfere.j0 k x a b c d e s r w m a' b' c' d' e' s' r' w' m') (!x && ((b == b' && (c == c')) || meetB (keysB r w) (keysB r' w'))) := by
  cases x with
  | true =>
    refine Ev.step (f := fun _ => some false) (fun k => ?_) (Ev.const rfl)
    simp only [command_Interfere.j0]; rw [if_pos trivial]
  | false =>
    cases hx : (b == b' && (c == c')) with
    | true =>
      refine Ev.step (f := fun _ => some true) (fun k => ?_) (Ev.const rfl)
      simp only [command_Interfere.j0]; rw [if_neg (by simp), if_pos hx]
    | false =>
      have hM : Ev (fun k => (command_Keys.f k a b c d e s r w m).bind fun t130 => (command_Keys.f k a' b' c' d' e' s' r' w' m').bind fun t133 => (keys_Meet.f t130 t133).bind fun t136 => some t136) (meetB (keysB r w) (keysB r' w')) := Ev.bind (keys_is a b c d e s r w m h) (Ev.bind (keys_is a' b' c' d' e' s' r' w' m' h') (Ev.const rfl))
      rw [Bool.not_false, Bool.true_and, Bool.false_or]
      refine Ev.step (fun k => ?_) hM
      simp only [command_Interfere.j0]; rw [if_neg (by simp), if_neg (by simp [hx])]
theorem inter_is (h : small r w) (h' : small r' w') : Ev (fun k => command_Interfere.f k a b c d e s r w m a' b' c' d' e' s' r' w' m') (interB a b c r w a' b' c' r' w') := by
  unfold interB command_Interfere.f
  by_cases ha : a = 0
  · simp only [ha, ↓reduceIte, decide_true, Bool.true_or]
    exact inter_j0 0 b c d e s r w m a' b' c' d' e' s' r' w' m' h h' true
  · simp only [ha, ↓reduceIte, decide_false, Bool.false_or]
    exact inter_j0 a b c d e s r w m a' b' c' d' e' s' r' w' m' h h' (a' == 0)
end
theorem meetB_iff (l m : List ByteArray) : meetB l m = true ↔ ∃ x, x ∈ l ∧ x ∈ m := by
  unfold meetB
  rw [List.any_eq_true]
  simp only [inB_iff]
theorem meetB_symm (l m : List ByteArray) : meetB l m = meetB m l := by
  rw [Bool.eq_iff_iff, meetB_iff, meetB_iff]
  exact ⟨fun ⟨x, h1, h2⟩ => ⟨x, h2, h1⟩, fun ⟨x, h1, h2⟩ => ⟨x, h2, h1⟩⟩
theorem interB_symm (a b c : Int) (r : List Rd) (w : List Wr) (a' b' c' : Int) (r' : List Rd) (w' : List Wr) : interB a b c r w a' b' c' r' w' = interB a' b' c' r' w' a b c r w := by
  unfold interB
  rw [meetB_symm, Bool.or_comm (decide (a = 0)), show (b == b') = (b' == b) from Bool.beq_comm, show (c == c') = (c' == c) from Bool.beq_comm]
theorem eqR_l0 (r : List Rd) (hl : r.length ≤ 2000) : ∀ d i, i + d = r.length → Ev (fun k => api_Read.l0 k r r (r.length : Int) (i : Int)) true
  | 0, i, h => by
    refine Ev.step (f := fun _ => some true) (fun k => ?_) (Ev.const rfl)
    simp only [api_Read.l0]; rw [if_neg (by omega)]
  | d + 1, i, h => by
    refine Ev.step (fun k => ?_) (eqR_l0 r hl d (i + 1) (by omega))
    simp only [api_Read.l0]
    rw [if_pos (by omega), if_pos (by omega), if_pos (by omega), if_pos (by omega), if_neg (by simp), w1 i (by omega)]
theorem eqW_l0 (r : List Wr) (hl : r.length ≤ 2000) : ∀ d i, i + d = r.length → Ev (fun k => api_Write.l0 k r r (r.length : Int) (i : Int)) true
  | 0, i, h => by
    refine Ev.step (f := fun _ => some true) (fun k => ?_) (Ev.const rfl)
    simp only [api_Write.l0]; rw [if_neg (by omega)]
  | d + 1, i, h => by
    refine Ev.step (fun k => ?_) (eqW_l0 r hl d (i + 1) (by omega))
    simp only [api_Write.l0]
    rw [if_pos (by omega), if_pos (by omega), if_pos (by omega), if_pos (by omega), if_neg (by simp), w1 i (by omega)]
theorem eqR_self (r : List Rd) (hl : r.length ≤ 2000) : Ev (fun k => api_Read.f k r r) true := Ev.congr (f := fun k => api_Read.l0 k r r (r.length : Int) ((0 : Nat) : Int)) (fun k => by unfold api_Read.f; rw [if_pos rfl]; rfl) (eqR_l0 r hl r.length 0 (by omega))
theorem eqW_self (r : List Wr) (hl : r.length ≤ 2000) : Ev (fun k => api_Write.f k r r) true := Ev.congr (f := fun k => api_Write.l0 k r r (r.length : Int) ((0 : Nat) : Int)) (fun k => by unfold api_Write.f; rw [if_pos rfl]; rfl) (eqW_l0 r hl r.length 0 (by omega))
theorem eqR_nil (r : List Rd) (hl : r.length ≤ 2000) : Ev (fun k => api_Read.f k r []) (decide (r = [])) := by
  cases r with
  | nil => exact eqR_self [] (by simp)
  | cons x l => exact Ev.congr (f := fun _ => some false) (fun k => by unfold api_Read.f; rw [if_neg (by simp; omega)]) (Ev.const (by simp))
theorem eqW_nil (r : List Wr) (hl : r.length ≤ 2000) : Ev (fun k => api_Write.f k r []) (decide (r = [])) := by
  cases r with
  | nil => exact eqW_self [] (by simp)
  | cons x l => exact Ev.congr (f := fun _ => some false) (fun k => by unfold api_Write.f; rw [if_neg (by simp; omega)]) (Ev.const (by simp))
section
variable (a b c d e s : Int) (r : List Rd) (w : List Wr) (m : Bool)
theorem same_self (h : small r w) : Ev (fun k => command_Same.f k a b c d e s r w m a b c d e s r w m) true := by
  unfold command_Same.f
  simp only [BEq.rfl, Bool.and_self, ↓reduceIte]
  exact Ev.bindT (eqR_self r (by have := h.1; omega)) (Ev.bind (eqW_self w (by have := h.2.1; omega)) (Ev.const rfl))
/-- Is a command the zero one? -/
def zeroB : Bool := (b == 0 && (c == 0)) && (d == 0 && (e == 0)) && decide (s = 0) && !m && decide (r = []) && decide (w = [])
theorem same_zero (h : small r w) : Ev (fun k => command_Same.f k 0 b c d e s r w m 0 0 0 0 0 0 [] [] false) (zeroB b c d e s r w m) := by
  unfold zeroB command_Same.f
  cases h1 : (b == 0 && (c == 0)) with
  | false => simp only [Bool.false_eq_true, ↓reduceIte, Bool.false_and]; exact Ev.const rfl
  | true =>
    cases h2 : (d == 0 && (e == 0)) with
    | false => simp only [Bool.false_eq_true, ↓reduceIte, Bool.false_and, Bool.and_false]; exact Ev.const rfl
    | true =>
      by_cases h3 : s = 0
      · cases m with
        | true => simp only [h3, ↓reduceIte, Bool.true_and, decide_true, Bool.not_true, Bool.false_and]; exact Ev.const (by simp)
        | false =>
          simp only [h3, ↓reduceIte, Bool.true_and, decide_true, Bool.not_false, BEq.rfl]
          cases h4 : decide (r = []) with
          | false => exact Ev.bindF (h4 ▸ eqR_nil r (by have := h.1; omega)) (Ev.const rfl)
          | true => exact Ev.bindT (h4 ▸ eqR_nil r (by have := h.1; omega)) (Ev.bind (eqW_nil w (by have := h.2.1; omega)) (Ev.const (by simp)))
      · simp only [h3, ↓reduceIte, decide_false, Bool.and_false, Bool.false_and]; exact Ev.const rfl
/-- A transaction's name that may be. -/
def txnB (b c : Int) : Bool := decide (0 ≤ b ∧ b ≤ 3) && decide (1 ≤ c ∧ c ≤ 1099511627776)
theorem stamp_RightTxn_val (b c : Int) : stamp_RightTxn.f b c = some (txnB b c) := by
  unfold stamp_RightTxn.f stamp_within_int.f txnB
  by_cases h1 : b ≥ 0 <;> by_cases h2 : b ≤ 3 <;> by_cases h3 : c ≥ 1 <;> by_cases h4 : c ≤ 1099511627776 <;> simp [h1, h2, h3, h4] <;> omega
/-- Is a read older than the command? -/
def oldB (d e : Int) (x : Rd) : Bool := stampB x.f1.f0 x.f1.f1 && decide (ordI x.f1.f0 x.f1.f1 d e < 0)
def okR (d e : Int) (r : List Rd) (i : Nat) : Bool := oldB d e (rd_T38 r (i : Int))
def okW (w : List Wr) (i : Nat) : Bool := decide ((rd_T40 w (i : Int)).f1.size ≤ 8)
def tailB : Bool := (List.range r.length).all (okR d e r) && ((List.range w.length).all (okW w) && (rightsB (rk r) && rightsB (wk w)))
def preB : Bool := txnB b c && stampB d e && decide (1 ≤ d) && decide (e = b) && decide (1 ≤ s) && decide (s ≤ 15) && decide (r.length + w.length ≠ 0) && !(m && (a == 1))
/-- May a command be? -/
def rightB : Bool := if a = 0 then zeroB b c d e s r w m else if a = 1 ∨ a = 2 then preB a b c d e s r w m && tailB d e r w else false
theorem right_l1 (h : small r w) : Ev (fun k => command_Right.l1 k w (w.length : Int) 0 a b c d e s r w m) ((List.range w.length).all (okW w) && (rightsB (rk r) && rightsB (wk w))) := by
  have hw := h.2.1
  have hr := h.1
  refine Ev.scan (F := fun k i => command_Right.l1 k w (w.length : Int) i a b c d e s r w m) w.length (okW w) _ (fun i hi hok q hq => ?_) (fun i hi hok => ?_) ?_
  · unfold okW at hok
    rw [decide_eq_true_eq] at hok
    refine Ev.step (fun k => ?_) hq
    simp only [command_Right.l1]
    rw [if_pos (by omega), if_pos (by omega), if_pos (by omega), if_neg (by omega), w1 i (by omega)]
  · unfold okW at hok
    rw [decide_eq_false_iff_not] at hok
    refine Ev.step (f := fun _ => some false) (fun k => ?_) (Ev.const rfl)
    simp only [command_Right.l1]
    rw [if_pos (by omega), if_pos (by omega), if_pos (by omega), if_pos (by omega)]
  · refine Ev.step (f := fun k => (command_read.f k a b c d e s r w m).bind fun t166 => (keys_Rights.f k t166).bind fun t169 => if t169 = true then (command_written.f k a b c d e s r w m).bind fun t170 => (keys_Rights.f k t170).bind fun t173 => some t173 else some false) (fun k => ?_) (Ev.bind (read_is a b c d e s r w m (by omega)) ?_)
    · simp only [command_Right.l1]; rw [if_neg (by omega)]
    · have hq := rights_is (rk r) (by have := (rk_few h).1; omega)
      cases hR : rightsB (rk r) with
      | false => exact Ev.bindF (hR ▸ hq) (Ev.const rfl)
      | true =>
        refine Ev.bindT (hR ▸ hq) (Ev.bind (written_is a b c d e s r w m (by omega)) (Ev.bind (rights_is (wk w) (by have := (wk_few h).1; omega)) (Ev.const ?_)))
        rw [Bool.true_and]
theorem right_l0 (h : small r w) : Ev (fun k => command_Right.l0 k r (r.length : Int) 0 a b c d e s r w m) (tailB d e r w) := by
  have hr := h.1
  refine Ev.scan (F := fun k i => command_Right.l0 k r (r.length : Int) i a b c d e s r w m) r.length (okR d e r) _ (fun i hi hok q hq => ?_) (fun i hi hok => ?_) ?_
  · refine Ev.step (fun k => ?_) hq
    simp only [command_Right.l0]
    rw [if_pos (by omega), if_pos (by omega), if_pos (by omega)]
    unfold okR oldB at hok
    simp only [command_Right_1.f, Option.bind_some]
    rw [hok, if_pos rfl, w1 i (by omega)]
  · refine Ev.step (f := fun _ => some false) (fun k => ?_) (Ev.const rfl)
    simp only [command_Right.l0]
    rw [if_pos (by omega), if_pos (by omega), if_pos (by omega)]
    unfold okR oldB at hok
    simp only [command_Right_1.f, Option.bind_some]
    rw [hok, if_neg (by simp)]
  · refine Ev.step (fun k => ?_) (right_l1 a b c d e s r w m h)
    simp only [command_Right.l0]; rw [if_neg (by omega)]
theorem right_j1 (h : small r w) (x : Bool) : Ev (fun k => command_Right.j1 k x a b c d e s r w m) (!x && tailB d e r w) := by
  cases x with
  | true =>
    refine Ev.step (f := fun _ => some false) (fun k => ?_) (Ev.const (by simp))
    simp only [command_Right.j1]; rw [if_pos trivial]
  | false =>
    refine Ev.step (fun k => ?_) (by simpa using right_l0 a b c d e s r w m h)
    simp only [command_Right.j1]; rw [if_neg (by simp)]
theorem right_j0 (h : small r w) : Ev (fun k => command_Right.j0 k a b c d e s r w m) (preB a b c d e s r w m && tailB d e r w) := by
  have hr := h.1
  have hw := h.2.1
  refine Ev.step (f := fun k => command_Right.j1 k (!preB a b c d e s r w m) a b c d e s r w m) (fun k => ?_) (by simpa using right_j1 a b c d e s r w m h (!preB a b c d e s r w m))
  simp only [command_Right.j0, stamp_RightTxn_val, stamp_RightStamp_val, Option.bind_some]
  rw [show wrap64 ((r.length : Int) + (w.length : Int)) = ((r.length + w.length : Nat) : Int) by unfold wrap64; omega]
  unfold preB
  cases h1 : txnB b c with
  | false => rw [if_neg (by simp)]; simp
  | true =>
    rw [if_pos rfl]
    cases h2 : stampB d e with
    | false => rw [if_neg (by simp)]; simp
    | true =>
      rw [if_pos rfl]
      by_cases h3 : d < 1
      · rw [if_pos h3]; simp [show ¬ 1 ≤ d by omega]
      · rw [if_neg h3]
        by_cases h4 : e = b
        · rw [if_pos h4]
          by_cases h5 : s < 1
          · rw [if_pos h5]; simp [show ¬ 1 ≤ s by omega]
          · rw [if_neg h5]
            by_cases h6 : s > 15
            · rw [if_pos h6]; simp [show ¬ s ≤ 15 by omega]
            · rw [if_neg h6]
              by_cases h7 : r.length + w.length = 0
              · rw [if_pos (by omega)]; simp [h7]
              · rw [if_neg (by omega), decide_eq_true (show 1 ≤ d by omega), decide_eq_true h4, decide_eq_true (show 1 ≤ s by omega), decide_eq_true (show s ≤ 15 by omega), decide_eq_true (show r.length + w.length ≠ 0 from h7)]
                cases m with
                | true => rw [if_pos rfl]; simp
                | false => rw [if_neg (by simp)]; simp
        · rw [if_neg h4]; simp [h4]
theorem right_is (h : small r w) : Ev (fun k => command_Right.f k a b c d e s r w m) (rightB a b c d e s r w m) := by
  unfold rightB command_Right.f
  by_cases h0 : a = 0
  · simp only [h0, ↓reduceIte]
    exact Ev.bind (same_zero b c d e s r w m h) (Ev.const rfl)
  · by_cases h1 : a = 1
    · simp only [h0, h1, ↓reduceIte, true_or, Int.reduceEq]
      exact right_j0 1 b c d e s r w m h
    · by_cases h2 : a = 2
      · simp only [h0, h1, h2, ↓reduceIte, or_true, Int.reduceEq]
        exact right_j0 2 b c d e s r w m h
      · simp only [h0, h1, h2, ↓reduceIte, or_self]
        exact Ev.const rfl
theorem clone_f (h : small r w) : command_Clone.f a b c d e s r w m = some (a, b, c, d, e, s, r, w, m) := by
  have hr := h.1
  have hw := h.2.1
  unfold command_Clone.f
  simp only [Option.bind_some, List.nil_append, List.length_nil]
  rw [if_pos (by omega), if_pos (by omega)]
def decidedB (m' : Bool) : Int × Int × Int × Int × Int × Int × List Rd × List Wr × Bool × Int := if rightB a b c d e s r w m = true ∧ a = 1 then (2, b, c, d, e, s, r, w, m', 0) else (0, 0, 0, 0, 0, 0, [], [], false, 1)
theorem decided_is (h : small r w) (m' : Bool) : Ev (fun k => command_Decided.f k a b c d e s r w m m') (decidedB a b c d e s r w m m') := by
  unfold decidedB command_Decided.f
  have hq := right_is a b c d e s r w m h
  cases hR : rightB a b c d e s r w m with
  | false =>
    simp only [Bool.false_eq_true, false_and, ↓reduceIte]
    exact Ev.bindF (hR ▸ hq) (Ev.const rfl)
  | true =>
    by_cases ha : a = 1
    · simp only [ha, true_and, ↓reduceIte]
      rw [hR] at hq
      rw [ha] at hq
      exact Ev.bindT hq (Ev.bind (Ev.const (clone_f 1 b c d e s r w m h)) (Ev.const rfl))
    · simp only [ha, and_false, ↓reduceIte]
      exact Ev.bindT (hR ▸ hq) (Ev.const rfl)
theorem right_two (m' : Bool) (h : rightB 1 b c d e s r w m = true) : rightB 2 b c d e s r w m' = true := by
  unfold rightB at h ⊢
  rw [if_neg (by decide), if_pos (.inl rfl), Bool.and_eq_true] at h
  rw [if_neg (by decide), if_pos (.inr rfl), Bool.and_eq_true]
  refine ⟨?_, h.2⟩
  have h1 := h.1
  unfold preB at h1 ⊢
  rw [Bool.and_eq_true] at h1
  rw [h1.1]
  simp
end
theorem right_noop : rightB 0 0 0 0 0 0 [] [] false = true := by decide
end Go.Proofs.Ytnjeeedndnfglaa.Strs
end
section
namespace Go.Proofs.Ytnjeeedndnfglaa.Strs
open Go.RowKit Go.Proofs.Ytnjeeedndnfglaa.Keys Go.Proofs.YtnjeeedndnfglaaW.PrintWords Go.Proofs.YtnjeeedndnfglaaW.PrintLast Go.Proofs.YtnjeeedndnfglaaW.PrintMore Go.Proofs.Ytnjeeedndnfglaa.X
set_option linter.unusedSimpArgs false
set_option linter.unusedVariables false
section
variable (l : List Cm) (n j : Int) (a b c d e s : Int) (r : List Rd) (w : List Wr) (m : Bool) (P : Prop)
theorem few_j4 (hn : ∃ q, Ev (fun k => althinglaw05_Few.l0 k l n (wrap64 (j + 1))) q ∧ (q = true → P)) (i : Int) : ∃ q, Ev (fun k => althinglaw05_Few.j4 k i l n j false a b c d e s r w m) q ∧ (q = true → P ∧ r.length ≤ 20 ∧ w.length ≤ 20) := by
  by_cases h1 : (r.length : Int) > 20
  · refine ⟨false, Ev.step (f := fun _ => some false) (fun k => ?_) (Ev.const rfl), fun e => by cases e⟩
    simp only [althinglaw05_Few.j4]; rw [if_neg (by simp), if_pos h1]
  · by_cases h2 : (w.length : Int) > 20
    · refine ⟨false, Ev.step (f := fun _ => some false) (fun k => ?_) (Ev.const rfl), fun e => by cases e⟩
      simp only [althinglaw05_Few.j4]; rw [if_neg (by simp), if_neg h1, if_pos h2]
    · obtain ⟨q, hq, hp⟩ := hn
      refine ⟨q, Ev.step (fun k => ?_) hq, fun e => ⟨hp e, by omega, by omega⟩⟩
      simp only [althinglaw05_Few.j4]; rw [if_neg (by simp), if_neg h1, if_neg h2]
theorem few_l2 (hn : ∃ q, Ev (fun k => althinglaw05_Few.l0 k l n (wrap64 (j + 1))) q ∧ (q = true → P)) : ∀ dd i, i + dd = min w.length 21 → ∃ q, Ev (fun k => althinglaw05_Few.l2 k (i : Int) l n j a b c d e s r w m) q ∧ (q = true → P ∧ r.length ≤ 20 ∧ w.length ≤ 20 ∧ ∀ x ∈ w.drop i, x.f0.size ≤ 100 ∧ x.f1.size ≤ 100)
  | 0, i, hi => by
    obtain ⟨q, hq, hp⟩ := few_j4 l n j a b c d e s r w m P hn (i : Int)
    refine ⟨q, Ev.step (fun k => ?_) hq, fun e => ⟨(hp e).1, (hp e).2.1, (hp e).2.2, fun x hx => ?_⟩⟩
    · simp only [althinglaw05_Few.l2]
      by_cases h1 : (i : Int) < (w.length : Int)
      · rw [if_pos h1, decide_eq_false (by omega)]
      · rw [if_neg h1]
    · have := (hp e).2.2
      rw [List.drop_eq_nil_of_le (by omega)] at hx
      cases hx
  | dd + 1, i, hi => by
    have hil : i < w.length := by omega
    have hstep : ∀ k, althinglaw05_Few.l2 (k + 1) (i : Int) l n j a b c d e s r w m = althinglaw05_Few.j4 k (i : Int) l n j true a b c d e s r w m := fun k => by
      simp only [althinglaw05_Few.l2]; rw [if_pos (by omega), decide_eq_true (by omega)]
    have hj : ∃ q, Ev (fun k => althinglaw05_Few.j4 k (i : Int) l n j true a b c d e s r w m) q ∧ (q = true → P ∧ r.length ≤ 20 ∧ w.length ≤ 20 ∧ ∀ x ∈ w.drop i, x.f0.size ≤ 100 ∧ x.f1.size ≤ 100) := by
      by_cases h1 : (w[i].f0.size : Int) > 100
      · refine ⟨false, Ev.step (f := fun _ => some false) (fun k => ?_) (Ev.const rfl), fun e => by cases e⟩
        simp only [althinglaw05_Few.j4]; rw [if_pos trivial, if_pos (by omega), if_pos (by omega), rdW w i hil, if_pos h1]
      · by_cases h2 : (w[i].f1.size : Int) > 100
        · refine ⟨false, Ev.step (f := fun _ => some false) (fun k => ?_) (Ev.const rfl), fun e => by cases e⟩
          simp only [althinglaw05_Few.j4]; rw [if_pos trivial, if_pos (by omega), if_pos (by omega), rdW w i hil, if_neg h1, if_pos h2]
        · obtain ⟨q, hq, hp⟩ := few_l2 hn dd (i + 1) (by omega)
          refine ⟨q, Ev.step (fun k => ?_) hq, fun e => ⟨(hp e).1, (hp e).2.1, (hp e).2.2.1, fun x hx => ?_⟩⟩
          · simp only [althinglaw05_Few.j4]; rw [if_pos trivial, if_pos (by omega), if_pos (by omega), rdW w i hil, if_neg h1, if_neg h2, w1 i (by omega)]
          · rw [List.drop_eq_getElem_cons hil] at hx
            rcases List.mem_cons.1 hx with rfl | hx
            · exact ⟨by omega, by omega⟩
            · exact (hp e).2.2.2 x hx
    obtain ⟨q, hq, hp⟩ := hj
    exact ⟨q, Ev.step hstep hq, hp⟩
theorem few_l1 (hn : ∃ q, Ev (fun k => althinglaw05_Few.l0 k l n (wrap64 (j + 1))) q ∧ (q = true → P)) : ∀ dd i, i + dd = min r.length 21 → ∃ q, Ev (fun k => althinglaw05_Few.l1 k (i : Int) l n j a b c d e s r w m) q ∧ (q = true → P ∧ r.length ≤ 20 ∧ w.length ≤ 20 ∧ (∀ x ∈ r.drop i, x.f0.size ≤ 100) ∧ ∀ x ∈ w, x.f0.size ≤ 100 ∧ x.f1.size ≤ 100)
  | 0, i, hi => by
    obtain ⟨q, hq, hp⟩ := few_l2 l n j a b c d e s r w m P hn (min w.length 21) 0 (by omega)
    refine ⟨q, Ev.step (f := fun k => althinglaw05_Few.j2 k (i : Int) l n j false a b c d e s r w m) (fun k => ?_) (Ev.step (fun k => ?_) hq), fun e => ⟨(hp e).1, (hp e).2.1, (hp e).2.2.1, fun x hx => ?_, by simpa using (hp e).2.2.2⟩⟩
    · simp only [althinglaw05_Few.l1]
      by_cases h1 : (i : Int) < (r.length : Int)
      · rw [if_pos h1, decide_eq_false (by omega)]
      · rw [if_neg h1]
    · simp only [althinglaw05_Few.j2]; rw [if_neg (by simp)]; rfl
    · have := (hp e).2.1
      rw [List.drop_eq_nil_of_le (by omega)] at hx
      cases hx
  | dd + 1, i, hi => by
    have hil : i < r.length := by omega
    have hstep : ∀ k, althinglaw05_Few.l1 (k + 1) (i : Int) l n j a b c d e s r w m = althinglaw05_Few.j2 k (i : Int) l n j true a b c d e s r w m := fun k => by
      simp only [althinglaw05_Few.l1]; rw [if_pos (by omega), decide_eq_true (by omega)]
    have hj : ∃ q, Ev (fun k => althinglaw05_Few.j2 k (i : Int) l n j true a b c d e s r w m) q ∧ (q = true → P ∧ r.length ≤ 20 ∧ w.length ≤ 20 ∧ (∀ x ∈ r.drop i, x.f0.size ≤ 100) ∧ ∀ x ∈ w, x.f0.size ≤ 100 ∧ x.f1.size ≤ 100) := by
      by_cases h1 : (r[i].f0.size : Int) > 100
      · refine ⟨false, Ev.step (f := fun _ => some false) (fun k => ?_) (Ev.const rfl), fun e => by cases e⟩
        simp only [althinglaw05_Few.j2]; rw [if_pos trivial, if_pos (by omega), if_pos (by omega), rdR r i hil, if_pos h1]
      · obtain ⟨q, hq, hp⟩ := few_l1 hn dd (i + 1) (by omega)
        refine ⟨q, Ev.step (fun k => ?_) hq, fun e => ⟨(hp e).1, (hp e).2.1, (hp e).2.2.1, fun x hx => ?_, (hp e).2.2.2.2⟩⟩
        · simp only [althinglaw05_Few.j2]; rw [if_pos trivial, if_pos (by omega), if_pos (by omega), rdR r i hil, if_neg h1, w1 i (by omega)]
        · rw [List.drop_eq_getElem_cons hil] at hx
          rcases List.mem_cons.1 hx with rfl | hx
          · omega
          · exact (hp e).2.2.2.1 x hx
    obtain ⟨q, hq, hp⟩ := hj
    exact ⟨q, Ev.step hstep hq, hp⟩
end
theorem few_l0 (l : List Cm) (hl : l.length ≤ 1000) : ∀ dd i, i + dd = l.length → ∃ q, Ev (fun k => althinglaw05_Few.l0 k l (l.length : Int) (i : Int)) q ∧ (q = true → ∀ c ∈ l.drop i, small c.f4 c.f5)
  | 0, i, hi => by
    refine ⟨true, Ev.step (f := fun _ => some true) (fun k => ?_) (Ev.const rfl), fun _ c hc => ?_⟩
    · simp only [althinglaw05_Few.l0]; rw [if_neg (by omega)]
    · rw [List.drop_eq_nil_of_le (by omega)] at hc; cases hc
  | dd + 1, i, hi => by
    have hil : i < l.length := by omega
    obtain ⟨q0, hq0, hp0⟩ := few_l0 l hl dd (i + 1) (by omega)
    have hn : ∃ q, Ev (fun k => althinglaw05_Few.l0 k l (l.length : Int) (wrap64 ((i : Int) + 1))) q ∧ (q = true → ∀ c ∈ l.drop (i + 1), small c.f4 c.f5) := ⟨q0, by rw [w1 i (by omega)]; exact hq0, hp0⟩
    obtain ⟨q, hq, hp⟩ := few_l1 l (l.length : Int) (i : Int) l[i].f0 l[i].f1.f0 l[i].f1.f1 l[i].f2.f0 l[i].f2.f1 l[i].f3 l[i].f4 l[i].f5 l[i].f6 _ hn (min l[i].f4.length 21) 0 (by omega)
    refine ⟨q, Ev.step (fun k => ?_) hq, fun e c hc => ?_⟩
    · simp only [althinglaw05_Few.l0]; rw [if_pos (by omega), if_pos (by omega), if_pos (by omega), rdC l i hil]; rfl
    · rw [List.drop_eq_getElem_cons hil] at hc
      rcases List.mem_cons.1 hc with rfl | hc
      · have := hp e
        exact ⟨this.2.1, this.2.2.1, by simpa using this.2.2.2.1, this.2.2.2.2⟩
      · exact (hp e).1 c hc
theorem few_ex (l : List Cm) (hl : l.length ≤ 1000) : ∃ q, Ev (fun k => althinglaw05_Few.f k l) q ∧ (q = true → ∀ c ∈ l, small c.f4 c.f5) := by
  obtain ⟨q, hq, hp⟩ := few_l0 l hl l.length 0 (by omega)
  exact ⟨q, hq, by simpa using hp⟩
def someR : List Rd := [⟨⟨#[97]⟩, ⟨0, 0⟩⟩]
def someW : List Wr := [⟨⟨#[98]⟩, ⟨#[49]⟩⟩]
theorem some_small : small someR someW := ⟨by decide, by decide, by unfold someR; simp; decide, by unfold someW; simp; decide⟩
theorem some_right : rightB 1 0 1 1 0 1 someR someW false = true := by decide
theorem some_keys : (keysB someR someW).length = 2 := by
  unfold keysB joinB
  rw [srt_length]
  decide
theorem awake_is : Ev (fun k => althinglaw05_awake.f k) true := by
  unfold althinglaw05_awake.f althinglaw05_some.f
  simp only [Option.bind_some]
  refine Ev.bindT (some_right ▸ right_is 1 0 1 1 0 1 someR someW false some_small) ?_
  refine Ev.bindT ((show interB 1 0 1 someR someW 1 0 1 someR someW = true by simp [interB]) ▸ inter_is 1 0 1 1 0 1 someR someW false 1 0 1 1 0 1 someR someW false some_small some_small) ?_
  refine Ev.bind (keys_is 1 0 1 1 0 1 someR someW false some_small) (Ev.congr (fun k => if_pos (by rw [some_keys]; rfl)) ?_)
  exact Ev.bind (same_self 1 0 1 1 0 1 someR someW false some_small) (Ev.const rfl)
end Go.Proofs.Ytnjeeedndnfglaa.Strs
end
