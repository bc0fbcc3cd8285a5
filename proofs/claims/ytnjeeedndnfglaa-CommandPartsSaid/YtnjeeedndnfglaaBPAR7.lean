/- What the claim PAR leans on: texts joined by bundle.py, a program of ours; the words cut down to what is used. -/
import Derived.Test.YtnjeeedndnfglaaBPAR6
import Derived.Lib.RuneCountTail
import Derived.Lib.TrimU
import Derived.Lib.OthersKept
section
namespace Go.Proofs.Ytnjeeedndnfglaa.X
open Go.RowKit Go.Proofs.YtnjeeedndnfglaaW.PrintWords Go.Proofs.YtnjeeedndnfglaaW.PrintLast Go.Proofs.YtnjeeedndnfglaaW.PrintMore
attribute [local go_sem] max2_int min2_int max_two min_two max_three min_three max_four min_four   -- for this text's walks alone
set_option linter.unusedVariables false
set_option linter.unusedSimpArgs false
mutual
def althingref04_Join.l0 : Nat → List ByteArray → List ByteArray → Int → Option (List ByteArray)
 | 0, _, _, _ => none
 | k + 1, x5, x6, x7 => if x7 < (x6.length : Int) then (if 0 ≤ x7 then ((althingref04_In.f k x5 (rdOf ByteArray.empty x6 x7)).bind fun t508 => (if t508 = true then (althingref04_Join.l0 k x5 x6 (wrap64 (x7 + 1))) else (althingref04_Join.l1 k x5 x6 x7 0))) else (none)) else (some x5)
def althingref04_Join.l1 : Nat → List ByteArray → List ByteArray → Int → Int → Option (List ByteArray)
 | 0, _, _, _, _ => none
 | k + 1, x5, x6, x7, x8 => if x8 < (x5.length : Int) then (if 0 ≤ x8 then (if 0 ≤ x7 then (if x7 < (x6.length : Int) then ((althingref04_Before.f k (rdOf ByteArray.empty x5 x8) (rdOf ByteArray.empty x6 x7)).bind fun t511 => (if t511 = true then (althingref04_Join.l1 k x5 x6 x7 (wrap64 (x8 + 1))) else ((some (([] : List ByteArray) : List ByteArray)).bind fun y512 => (if x8 ≤ (x5.length : Int) then ((some (x5.drop (x8 : Int).toNat : List ByteArray)).bind fun y515 => (if y512.length + y515.length < 8796093022208 then ((some (y512 ++ y515 : List ByteArray)).bind fun y519 => ((some (x5.take (x8 : Int).toNat : List ByteArray)).bind fun y522 => (if y522.length < 8796093022208 then ((some (y522 ++ [rdOf ByteArray.empty x6 x7] : List ByteArray)).bind fun y526 => (if y526.length + y519.length < 8796093022208 then (althingref04_Join.l0 k (y526 ++ y519) x6 (wrap64 (x7 + 1))) else (none))) else (none)))) else (none))) else (none))))) else (none)) else (none)) else (none)) else ((some (([] : List ByteArray) : List ByteArray)).bind fun y532 => (if 0 ≤ x8 then (if x8 ≤ (x5.length : Int) then ((some (x5.drop (x8 : Int).toNat : List ByteArray)).bind fun y535 => (if y532.length + y535.length < 8796093022208 then ((some (y532 ++ y535 : List ByteArray)).bind fun y539 => ((some (x5.take (x8 : Int).toNat : List ByteArray)).bind fun y542 => (if 0 ≤ x7 then (if x7 < (x6.length : Int) then (if y542.length < 8796093022208 then ((some (y542 ++ [rdOf ByteArray.empty x6 x7] : List ByteArray)).bind fun y546 => (if y546.length + y539.length < 8796093022208 then (althingref04_Join.l0 k (y546 ++ y539) x6 (wrap64 (x7 + 1))) else (none))) else (none)) else (none)) else (none)))) else (none))) else (none)) else (none)))
end
def althingref04_Join.f (k : Nat) (l0 : List ByteArray) (l1 : List ByteArray) : Option (List ByteArray) := (some (([] : List ByteArray) : List ByteArray)).bind fun y498 => (if y498.length + l0.length < 8796093022208 then ((some (y498 ++ l0 : List ByteArray)).bind fun y501 => (if y501.length + l1.length < 8796093022208 then (althingref04_Join.l0 k ([] : List ByteArray) (y501 ++ l1) 0) else (none))) else (none))
def althingref04_Join.T8 : Bool × List (List Nat × List Nat) := (true, [([], []), ([], []), ([1], [1]), ([0, 2], [0, 2]), ([3], [3]), ([4], [4]), ([4], [4]), ([5, 6, 4], [4, 5, 6]), ([7, 4], [4, 7]), ([4], [4]), ([4], [4]), ([9, 10, 4], [4, 9, 10]), ([11, 4], [4, 11]), ([8, 12, 4, 4], [4, 8, 12]), ([4, 13], [4, 13])])
def althingref04_Join.B8 : List Nat := [0, 0, 2, 7, 15, 31, 31, 127, 255, 31, 31, 1567, 3615, 8191, 16383]
theorem althingref04_Join.tab8 : rtab .any (opsOf Try.f20 8) = althingref04_Join.T8 := by kernel_rfl
theorem althingref04_Join.bits8 : waitsOk althingref04_Join.T8.2 althingref04_Join.B8 = true := by kernel_rfl
def althingref04_Join.T11 : Bool × List (List Nat × List Nat) := (true, [([], []), ([], []), ([0, 1], [0, 1]), ([], []), ([], []), ([3, 4], [3, 4]), ([5], [5]), ([6], [6]), ([2, 7], [2, 7]), ([], []), ([8, 9, 8], [8, 9]), ([10, 10, 0, 1, 2, 3, 4, 5, 6, 7, 8, 9, 10], [0, 10])])
def althingref04_Join.B11 : List Nat := [0, 0, 3, 0, 0, 24, 56, 120, 255, 0, 1023, 2047]
theorem althingref04_Join.tab11 : rtab .any (opsOf Try.f20 11) = althingref04_Join.T11 := by kernel_rfl
theorem althingref04_Join.bits11 : waitsOk althingref04_Join.T11.2 althingref04_Join.B11 = true := by kernel_rfl
set_option maxHeartbeats 40000000 in
set_option maxRecDepth 100000 in
theorem althingref04_Join.calls (k : Nat) (A0 : Option Addr) (c0 : Nat) (l0 : List ByteArray) (A1 : Option Addr) (c1 : Nat) (l1 : List ByteArray) (r : List ByteArray) (w : World) (hr0 : Kd.C Kd.string w A0 l0.length l0) (hc0 : l0.length ≤ c0) (hr1 : Kd.C Kd.string w A1 l1.length l1) (hc1 : l1.length ≤ c1) (h : althingref04_Join.f k l0 l1 = some r) :
 Calls Try.prog 20 #[.slice A0 l0.length c0, .slice A1 l1.length c1] w fun e w' => ∃ v0_ : Value, e = .returned (v0_) ∧ Kd.R Kd.string 9 w' w.heap.size (fun _ => True) v0_ r ∧ Below w.heap.size w w' := by
 have HR0 := Aside0.mk hr0
 have HC0 := Aside0.mk hc0
 clear hr0 hc0
 have HR1 := Aside0.mk hr1
 have HC1 := Aside0.mk hc1
 clear hr1 hc1
 have HB := Aside0.mk (Below.refl w.heap.size w)
 have H : ((some (([] : List ByteArray) : List ByteArray)).bind fun y498 => (if y498.length + l0.length < 8796093022208 then ((some (y498 ++ l0 : List ByteArray)).bind fun y501 => (if y501.length + l1.length < 8796093022208 then (althingref04_Join.l0 k ([] : List ByteArray) (y501 ++ l1) 0) else (none))) else (none))) = some r := h
 clear h
 obtain ⟨y498, hy498⟩ : ∃ y_ : List ByteArray, y_ = (([] : List ByteArray)) := ⟨_, rfl⟩
 replace H : (if y498.length + l0.length < 8796093022208 then ((some (y498 ++ l0 : List ByteArray)).bind fun y501 => (if y501.length + l1.length < 8796093022208 then (althingref04_Join.l0 k ([] : List ByteArray) (y501 ++ l1) 0) else (none))) else (none)) = some r := by first | (rw [hy498]; with_reducible exact H) | (have H2_ := (Option.bind_some _ _).symm.trans H; rw [hy498]; with_reducible exact H2_) | (have H2_ := (Option.bind_some _ _).symm.trans H; with_reducible exact H2_) | with_reducible exact H | (rw [hy498]; exact H) | exact H
 have Ny498 := Aside0.mk hy498
 clear hy498
 by_cases c3 : y498.length + l0.length < 8796093022208
 · rw [if_pos c3] at H
   have LMc3 := Aside0.mk c3
   clear c3
   obtain ⟨y501, hy501⟩ : ∃ y_ : List ByteArray, y_ = (y498 ++ l0) := ⟨_, rfl⟩
   replace H : (if y501.length + l1.length < 8796093022208 then (althingref04_Join.l0 k ([] : List ByteArray) (y501 ++ l1) 0) else (none)) = some r := by first | (rw [hy501]; with_reducible exact H) | (have H2_ := (Option.bind_some _ _).symm.trans H; rw [hy501]; with_reducible exact H2_) | (have H2_ := (Option.bind_some _ _).symm.trans H; with_reducible exact H2_) | with_reducible exact H | (rw [hy501]; exact H) | exact H
   have Ny501 := Aside0.mk hy501
   clear hy501
   by_cases c4 : y501.length + l1.length < 8796093022208
   · rw [if_pos c4] at H
     have LMc4 := Aside0.mk c4
     clear c4
     obtain ⟨y504, hy504⟩ : ∃ y_ : List ByteArray, y_ = (y501 ++ l1) := ⟨_, rfl⟩
     replace H : (althingref04_Join.l0 k ([] : List ByteArray) y504 0) = some r := by first | (rw [hy504]; with_reducible exact H) | (have H2_ := (Option.bind_some _ _).symm.trans H; rw [hy504]; with_reducible exact H2_) | (have H2_ := (Option.bind_some _ _).symm.trans H; with_reducible exact H2_) | with_reducible exact H | (rw [hy504]; exact H) | exact H
     have Ny504 := Aside0.mk hy504
     clear hy504
     have H' := Aside0.mk H
     clear H
     go_enter Try.func20, Try.ntmps20
     go_wp2_with (first | ((with_reducible refine gate_dst (N := 10) rfl ?_); refine Kd.R_lit Kd.string _ 9 ?hg (N := 10) ?hd (xs := ([] : List ByteArray)) (inner := []) (ok := fun _ => True) (okp := fun _ => True) ?hr ?hp (fun _ hk => hk) trivial (Below.refl _ _) (Nat.le_refl _) (by simp) ?_; (case hd => rfl); (case hg => rfl); (case hr => first | (go_simp; done) | (go_simp; rfl)); (case hp => exact (Reps.none _ _)); intro v499 w5 ho6 hb hg_ hnew_; clear hg_ hnew_; (first | rw [← Ny498.out] at ho6 | (simp only [Int.reduceToNat] at ho6; rw [← Ny498.out] at ho6)); have HO500 := Aside0.mk (Kd.R_lower ho6 (below_size lb_)); replace HB := hs_ HB hb; clear hb ho6) | ((with_reducible refine gate_builtin (b := .append) (xs := #[.tmp 10, .tmp 11]) rfl ?_); at_builtin; refine Kd.R_append_rows Kd.string (w0 := w) w.heap.size rfl (.tmp 10) (.tmp 11) 45 9 (.string ⟨#[]⟩) 16 rfl Try.underlying45 info9 rfl (by decide) (by omega) v499 y498 l0 _ _ _ (fun _ => True) (fun _ => False) rfl rfl ?aO ?aR (fun _ _ h => h) (fun _ h => h.elim) ?aF ?aB ?aS ?aL ?_; (case aR => repeat (first | exact (Kd.C_below HR0.out HB.out) | (with_reducible refine Kd.C_alloc ?_ _) | (with_reducible refine Kd.C_drewN ?_ _) | (with_reducible refine Kd.C_drew ?_))); (case aB => exact lb_); (case aF => exact (fun _ _ => trivial)); (case aO => exact (kr_ HO500.out)); (case aS => exact (below_size lb_)); (case aL => have := LMc3.out; omega); intro v502 w7 ho hb hg hat; rw [← Ny501.out] at ho; have n0_ := Aside0.mk (hb); have n1_ := Aside0.mk (ho); clear HB HO500; have HB := n0_; have HO503 := n1_; clear n0_ n1_ ho hb hg hat) | ((with_reducible refine gate_builtin (b := .append) (xs := #[.tmp 12, .tmp 13]) rfl ?_); at_builtin; refine Kd.R_append_rows Kd.string (w0 := w) w.heap.size rfl (.tmp 12) (.tmp 13) 45 9 (.string ⟨#[]⟩) 16 rfl Try.underlying45 info9 rfl (by decide) (by omega) v502 y501 l1 _ _ _ (fun _ => True) (fun _ => False) rfl rfl ?aO ?aR (fun _ _ h => h) (fun _ h => h.elim) ?aF ?aB ?aS ?aL ?_; (case aR => repeat (first | exact (Kd.C_below HR1.out HB.out) | (with_reducible refine Kd.C_alloc ?_ _) | (with_reducible refine Kd.C_drewN ?_ _) | (with_reducible refine Kd.C_drew ?_))); (case aB => exact lb_); (case aF => exact (fun _ _ => trivial)); (case aO => exact (kr_ HO503.out)); (case aS => exact (below_size lb_)); (case aL => have := LMc4.out; omega); intro v505 w8 ho hb hg hat; rw [← Ny504.out] at ho; have n0_ := Aside0.mk (hb); have n1_ := Aside0.mk (ho); clear HB HO503; have HB := n0_; have HO506 := n1_; clear n0_ n1_ ho hb hg hat))
     go_loopg [5, 7] k (fun kq v5 v7 w' => ∃ (x5_1 : List ByteArray) (x7_1 : Int), v7 = .int .i64 x7_1 ∧ Aside0 (althingref04_Join.l0 kq x5_1 y504 x7_1 = some r) ∧ Aside0 (kq ≤ k) ∧ Aside0 (Kd.R Kd.string 9 w' w.heap.size (fun k_ => some k_ ≠ (v505 : Value).ownBlock) v5 x5_1) ∧ Aside0 (Kd.R Kd.string 9 w' w.heap.size (fun k_ => some k_ ≠ (v5 : Value).ownBlock) v505 y504) ∧ Aside0 (Below w.heap.size w w'))
     case atStart => exact ⟨(([] : List ByteArray)), (0), sm_, H', ⟨Nat.le_refl _⟩, ⟨by first | exact Kd.R_nil _ _ _ _ _ | exact Kd.N_nil _ _ _ _ _ | exact Kd.V_nil _ _ _ _ _ | exact Kd.Q_nil _ _ _ _ _ | exact Kd.S_nil _ _ _ _ _⟩, ⟨kr_ (Kd.R_mono HO506.out (fun _ hk => (by simp [Value.ownBlock])))⟩, ⟨by repeat (first | (with_reducible first | exact HB.out | apply below_alloc | apply pw_below_drewN | apply below_drew1) | exact HB.out)⟩⟩
     case round =>
      clear H'
      try clear c1
      try clear c2
      try clear p2
      try clear c3
      try clear c4
      obtain ⟨x5_1, x7_1, rfl, HA, HK1, HO_5, HO_6, HB⟩ := hrel
      cases gk with
      | zero => exact absurd HA.out (by simp [althingref04_Join.l0])
      | succ k1 =>
       have H := HA.out
       clear HA
       simp only [althingref04_Join.l0] at H
       by_cases c9 : x7_1 < (y504.length : Int)
       · rw [if_pos c9] at H
         have c9b0 : decide (x7_1 < (y504.length : Int)) = true := decide_eq_true c9
         clear c9
         by_cases c10 : 0 ≤ x7_1
         · rw [if_pos c10] at H
           have c10b0 : decide (0 ≤ x7_1) = true := decide_eq_true c10
           clear c10
           obtain ⟨t508, A11, H⟩ := bs_ H
           by_cases c12 : t508 = true
           · subst c12
             rw [if_pos rfl] at H
             have H' := Aside0.mk H
             clear H
             obtain ⟨Ao13, co13, eo13⟩ := Kd.R_slice HO_6.out
             subst eo13
             have p507 : 0 ≤ (x7_1 : Int) := of_decide_eq_true (by first | (with_reducible assumption) | assumption)
             have q507 : x7_1 < (y504.length : Int) := of_decide_eq_true (by first | (with_reducible assumption) | assumption)
             obtain ⟨ad507, e507, hx507_0⟩ := Kd.at_string (Kd.R_reads' HO_6.out).2.2 x7_1 p507 q507
             cases e507
             replace p507 := eq_true p507
             replace q507 := eq_true q507
             obtain ⟨Ao14, co14, eo14⟩ := Kd.R_slice HO_5.out
             subst eo14
             go_wp2_with (first | ((with_reducible refine gate_callee (f := 40) rfl ?_); refine gl_ (some 26) Try.func40 #[.slice Ao14 x5_1.length co14, .string (rdOf ByteArray.empty y504 x7_1)] ?_; (with_reducible refine (althingref04_In.calls k1 _ _ x5_1 (rdOf ByteArray.empty y504 x7_1) true _ ?side1 ?side2 A11.out).mono ?_); (case side1 => repeat (first | exact (Kd.R_reads' HO_5.out).2.2 | (with_reducible refine Kd.C_alloc ?_ _) | (with_reducible refine Kd.C_drewN ?_ _) | (with_reducible refine Kd.C_drew ?_))); (case side2 => exact (Kd.R_reads' HO_5.out).2.1); rintro e w' ⟨rfl, ⟨nd, rfl⟩⟩; refine ⟨_, rfl, ?_⟩))
             go_roundg k1
             case measure => have := HK1.out; omega
             case rel => exact ⟨(x5_1), (wrap64 (x7_1 + 1)), sm_, H', ⟨by have := HK1.out; omega⟩, ⟨kr_ HO_5.out⟩, ⟨kr_ HO_6.out⟩, ⟨by repeat (first | (with_reducible first | exact HB.out | apply below_alloc | apply pw_below_drewN | apply below_drew1) | exact HB.out)⟩⟩
           · replace c12 := Bool.eq_false_iff.mpr c12
             subst c12
             rw [if_neg (show ¬ (false = true) by decide)] at H
             have H' := Aside0.mk H
             clear H
             obtain ⟨Ao15, co15, eo15⟩ := Kd.R_slice HO_6.out
             subst eo15
             have p507 : 0 ≤ (x7_1 : Int) := of_decide_eq_true (by first | (with_reducible assumption) | assumption)
             have q507 : x7_1 < (y504.length : Int) := of_decide_eq_true (by first | (with_reducible assumption) | assumption)
             obtain ⟨ad507, e507, hx507_0⟩ := Kd.at_string (Kd.R_reads' HO_6.out).2.2 x7_1 p507 q507
             cases e507
             replace p507 := eq_true p507
             replace q507 := eq_true q507
             obtain ⟨Ao16, co16, eo16⟩ := Kd.R_slice HO_5.out
             subst eo16
             go_wp2_with (first | ((with_reducible refine gate_callee (f := 40) rfl ?_); refine gl_ (some 26) Try.func40 #[.slice Ao16 x5_1.length co16, .string (rdOf ByteArray.empty y504 x7_1)] ?_; (with_reducible refine (althingref04_In.calls k1 _ _ x5_1 (rdOf ByteArray.empty y504 x7_1) false _ ?side1 ?side2 A11.out).mono ?_); (case side1 => repeat (first | exact (Kd.R_reads' HO_5.out).2.2 | (with_reducible refine Kd.C_alloc ?_ _) | (with_reducible refine Kd.C_drewN ?_ _) | (with_reducible refine Kd.C_drew ?_))); (case side2 => exact (Kd.R_reads' HO_5.out).2.1); rintro e w' ⟨rfl, ⟨nd, rfl⟩⟩; refine ⟨_, rfl, ?_⟩))
             go_loopg [8] k1 (fun kq v8 w' => ∃ (x8_2 : Int), v8 = .int .i64 x8_2 ∧ Aside0 (althingref04_Join.l1 kq x5_1 y504 x7_1 x8_2 = some r) ∧ Aside0 (kq ≤ k1) ∧ Aside0 (Kd.R Kd.string 9 w' w.heap.size (fun k_ => some k_ ≠ ((.slice (some ad507) y504.length co15) : Value).ownBlock) (.slice Ao16 x5_1.length co16) x5_1) ∧ Aside0 (Kd.R Kd.string 9 w' w.heap.size (fun k_ => some k_ ≠ ((.slice Ao16 x5_1.length co16) : Value).ownBlock) (.slice (some ad507) y504.length co15) y504) ∧ Aside0 (Below w.heap.size w w'))
             case atStart => exact ⟨(0), sm_, H', ⟨Nat.le_refl _⟩, ⟨kr_ HO_5.out⟩, ⟨kr_ HO_6.out⟩, ⟨by repeat (first | (with_reducible first | exact HB.out | apply below_alloc | apply pw_below_drewN | apply below_drew1) | exact HB.out)⟩⟩
             case round =>
              clear H'
              try clear c1
              try clear c2
              try clear p2
              try clear c3
              try clear c4
              try clear p5
              try clear q5
              try clear hx5
              try clear p6
              try clear c9
              try clear c9b0
              try clear c10
              try clear c10b0
              try clear c12
              try clear hx507_0
              try clear p2
              try clear p507
              try clear q507
              obtain ⟨x8_2, rfl, HA, HK2, HO_5, HO_6, HB⟩ := hrel
              cases gk with
              | zero => exact absurd HA.out (by simp [althingref04_Join.l1])
              | succ k2 =>
               have H := HA.out
               clear HA
               simp only [althingref04_Join.l1] at H
               by_cases c17 : x8_2 < (x5_1.length : Int)
               · rw [if_pos c17] at H
                 have c17b0 : decide (x8_2 < (x5_1.length : Int)) = true := decide_eq_true c17
                 clear c17
                 by_cases c18 : 0 ≤ x8_2
                 · rw [if_pos c18] at H
                   have c18b0 : decide (0 ≤ x8_2) = true := decide_eq_true c18
                   clear c18
                   by_cases c19 : 0 ≤ x7_1
                   · rw [if_pos c19] at H
                     have c19b0 : decide (0 ≤ x7_1) = true := decide_eq_true c19
                     clear c19
                     by_cases c20 : x7_1 < (y504.length : Int)
                     · rw [if_pos c20] at H
                       have c20b0 : decide (x7_1 < (y504.length : Int)) = true := decide_eq_true c20
                       clear c20
                       obtain ⟨t511, A21, H⟩ := bs_ H
                       by_cases c22 : t511 = true
                       · subst c22
                         rw [if_pos rfl] at H
                         have H' := Aside0.mk H
                         clear H
                         try go_wp2
                         replace HO_5 := Aside0.mk (Kd.R_drew HO_5.out)
                         replace HO_6 := Aside0.mk (Kd.R_drew HO_6.out)
                         replace HB := Aside0.mk (below_drew1 HB.out)
                         have p509 : 0 ≤ (x8_2 : Int) := of_decide_eq_true (by first | (with_reducible assumption) | assumption)
                         have q509 : x8_2 < (x5_1.length : Int) := of_decide_eq_true (by first | (with_reducible assumption) | assumption)
                         obtain ⟨ad509, e509, hx509_0⟩ := Kd.at_string (Kd.R_reads' HO_5.out).2.2 x8_2 p509 q509
                         cases e509
                         replace p509 := eq_true p509
                         replace q509 := eq_true q509
                         have p510 : 0 ≤ (x7_1 : Int) := of_decide_eq_true (by first | (with_reducible assumption) | assumption)
                         have q510 : x7_1 < (y504.length : Int) := of_decide_eq_true (by first | (with_reducible assumption) | assumption)
                         obtain ⟨ad510, e510, hx510_0⟩ := Kd.at_string (Kd.R_reads' HO_6.out).2.2 x7_1 p510 q510
                         obtain rfl : ad507 = ad510 := (by injection e510)
                         replace p510 := eq_true p510
                         replace q510 := eq_true q510
                         refine start_ (n := 15) (S := fun w' => w'.cell? (ad509.add (x8_2).toNat) = some (.string (rdOf ByteArray.empty x5_1 x8_2)) ∧ w'.cell? (ad507.add (x7_1).toNat) = some (.string (rdOf ByteArray.empty y504 x7_1))) (ds := []) #[false, false, false, false, false, false, false, false, false, false, false, false, false, false, false] (by kernel_rfl) rfl rfl ⟨hx509_0, hx510_0⟩ (fun hHeld => ?_); refine with_tabW althingref04_Join.tab8 althingref04_Join.bits8 (fun HT_ HW_ => ?_)
                         generalize wr.drew = w23 at HO_5 HO_6 HB hx509_0 hx510_0 hHeld ⊢
                         refine pu_ 0 (some 27) (tf_ 1 14) HT_ ?_
                         refine pu_ 1 (some 28) (tf_ 2 13) HT_ ?_
                         refine pu_ 2 (some 29) (tf_ 3 12) HT_ ?_
                         refine pu_ 3 (some 30) (tf_ 4 11) HT_ ?_
                         refine pu_ 4 (some 31) (tf_ 5 10) HT_ ?_
                         refine pu_ 5 (some 32) (tf_ 6 9) HT_ ?_
                         refine pu_ 6 (some 33) (tf_ 7 8) HT_ ?_
                         refine pu_ 7 (some 34) (tf_ 8 7) HT_ ?_
                         refine pu_ 9 (some 36) #[true, true, true, true, true, true, true, true, false, true, false, false, false, false, false] HT_ ?_
                         refine pu_ 10 (some 37) #[true, true, true, true, true, true, true, true, false, true, true, false, false, false, false] HT_ ?_
                         refine pu_ 11 (some 38) #[true, true, true, true, true, true, true, true, false, true, true, true, false, false, false] HT_ ?_
                         refine tk_ 8 (some 35) (tf_ 12 3) HT_ HW_ hHeld (hy := by
                          rintro w' ⟨s0, s1⟩
                          go_simp
                          with_reducible rfl) (h := ?_)
                         refine tk_ 12 (some 39) (tf_ 13 2) HT_ HW_ hHeld (hy := by
                          rintro w' ⟨s0, s1⟩
                          go_simp
                          with_reducible rfl) (h := ?_)
                         refine on_ 13 (some 40) (tf_ 14 1) HT_ fun K hK => ?_
                         refine goes_ Try.func41 (by kernel_rfl) rfl #[.string (rdOf ByteArray.empty x5_1 x8_2), .string (rdOf ByteArray.empty y504 x7_1)] (by rfl) rfl rfl (by (try simp only [List.map_toArray, List.map_cons, List.map_nil]); first | done | rfl | (simp only [List.length_drop, List.length_take]; rfl)) ?_
                         with_reducible refine (althingref04_Before.calls k2 (rdOf ByteArray.empty x5_1 x8_2) (rdOf ByteArray.empty y504 x7_1) true _ A21.out).mono ?_
                         rintro e w' ⟨rfl, ⟨nd, rfl⟩⟩
                         refine ⟨_, rfl, ?_⟩
                         refine hK.out _ _ ⟨hHeld.1, hHeld.2⟩ (fun hHeld => ?_)
                         clear hK K
                         refine nr_ 40 ?_
                         refine pu_ 14 (some 41) (tf_ 15 0) HT_ ?_
                         refine done_ (done_of HT_.out (by kernel_rfl)) ?_
                         try go_wp2
                         go_roundg k2
                         case measure => have := HK1.out; have := HK2.out; omega
                         case rel => exact ⟨(wrap64 (x8_2 + 1)), sm_, H', ⟨by have := HK1.out; have := HK2.out; omega⟩, ⟨kr_ HO_5.out⟩, ⟨kr_ HO_6.out⟩, ⟨by repeat (first | (with_reducible first | exact HB.out | apply below_alloc | apply pw_below_drewN | apply below_drew1) | exact HB.out)⟩⟩
                       · replace c22 := Bool.eq_false_iff.mpr c22
                         subst c22
                         rw [if_neg (show ¬ (false = true) by decide)] at H
                         obtain ⟨y512, hy512⟩ : ∃ y_ : List ByteArray, y_ = (([] : List ByteArray)) := ⟨_, rfl⟩
                         replace H : (if x8_2 ≤ (x5_1.length : Int) then ((some (x5_1.drop (x8_2 : Int).toNat : List ByteArray)).bind fun y515 => (if y512.length + y515.length < 8796093022208 then ((some (y512 ++ y515 : List ByteArray)).bind fun y519 => ((some (x5_1.take (x8_2 : Int).toNat : List ByteArray)).bind fun y522 => (if y522.length < 8796093022208 then ((some (y522 ++ [rdOf ByteArray.empty y504 x7_1] : List ByteArray)).bind fun y526 => (if y526.length + y519.length < 8796093022208 then (althingref04_Join.l0 k2 (y526 ++ y519) y504 (wrap64 (x7_1 + 1))) else (none))) else (none)))) else (none))) else (none)) = some r := by first | (rw [hy512]; with_reducible exact H) | (have H2_ := (Option.bind_some _ _).symm.trans H; rw [hy512]; with_reducible exact H2_) | (have H2_ := (Option.bind_some _ _).symm.trans H; with_reducible exact H2_) | with_reducible exact H | (rw [hy512]; exact H) | exact H
                         have Ny512 := Aside0.mk hy512
                         clear hy512
                         have c24b0 := eq_true (of_decide_eq_true (by first | (with_reducible assumption) | assumption) : 0 ≤ x8_2)
                         by_cases c25 : x8_2 ≤ (x5_1.length : Int)
                         · rw [if_pos c25] at H
                           have c25b0 := eq_true c25
                           have c25b1 : decide (x8_2 ≤ (x5_1.length : Int)) = true := decide_eq_true c25
                           clear c25
                           obtain ⟨y515, hy515⟩ : ∃ y_ : List ByteArray, y_ = (x5_1.drop (x8_2 : Int).toNat) := ⟨_, rfl⟩
                           replace H : (if y512.length + y515.length < 8796093022208 then ((some (y512 ++ y515 : List ByteArray)).bind fun y519 => ((some (x5_1.take (x8_2 : Int).toNat : List ByteArray)).bind fun y522 => (if y522.length < 8796093022208 then ((some (y522 ++ [rdOf ByteArray.empty y504 x7_1] : List ByteArray)).bind fun y526 => (if y526.length + y519.length < 8796093022208 then (althingref04_Join.l0 k2 (y526 ++ y519) y504 (wrap64 (x7_1 + 1))) else (none))) else (none)))) else (none)) = some r := by first | (rw [hy515]; with_reducible exact H) | (have H2_ := (Option.bind_some _ _).symm.trans H; rw [hy515]; with_reducible exact H2_) | (have H2_ := (Option.bind_some _ _).symm.trans H; with_reducible exact H2_) | with_reducible exact H | (rw [hy515]; exact H) | exact H
                           have Ny515 := Aside0.mk hy515
                           clear hy515
                           by_cases c26 : y512.length + y515.length < 8796093022208
                           · rw [if_pos c26] at H
                             have LMc26 := Aside0.mk c26
                             clear c26
                             obtain ⟨y519, hy519⟩ : ∃ y_ : List ByteArray, y_ = (y512 ++ y515) := ⟨_, rfl⟩
                             replace H : ((some (x5_1.take (x8_2 : Int).toNat : List ByteArray)).bind fun y522 => (if y522.length < 8796093022208 then ((some (y522 ++ [rdOf ByteArray.empty y504 x7_1] : List ByteArray)).bind fun y526 => (if y526.length + y519.length < 8796093022208 then (althingref04_Join.l0 k2 (y526 ++ y519) y504 (wrap64 (x7_1 + 1))) else (none))) else (none))) = some r := by first | (rw [hy519]; with_reducible exact H) | (have H2_ := (Option.bind_some _ _).symm.trans H; rw [hy519]; with_reducible exact H2_) | (have H2_ := (Option.bind_some _ _).symm.trans H; with_reducible exact H2_) | with_reducible exact H | (rw [hy519]; exact H) | exact H
                             have Ny519 := Aside0.mk hy519
                             clear hy519
                             have c27b0 := eq_true (of_decide_eq_true (by first | (with_reducible assumption) | assumption) : x8_2 ≤ (x5_1.length : Int))
                             obtain ⟨y522, hy522⟩ : ∃ y_ : List ByteArray, y_ = (x5_1.take (x8_2 : Int).toNat) := ⟨_, rfl⟩
                             replace H : (if y522.length < 8796093022208 then ((some (y522 ++ [rdOf ByteArray.empty y504 x7_1] : List ByteArray)).bind fun y526 => (if y526.length + y519.length < 8796093022208 then (althingref04_Join.l0 k2 (y526 ++ y519) y504 (wrap64 (x7_1 + 1))) else (none))) else (none)) = some r := by first | (rw [hy522]; with_reducible exact H) | (have H2_ := (Option.bind_some _ _).symm.trans H; rw [hy522]; with_reducible exact H2_) | (have H2_ := (Option.bind_some _ _).symm.trans H; with_reducible exact H2_) | with_reducible exact H | (rw [hy522]; exact H) | exact H
                             have Ny522 := Aside0.mk hy522
                             clear hy522
                             by_cases c28 : y522.length < 8796093022208
                             · rw [if_pos c28] at H
                               have LMc28 := Aside0.mk c28
                               clear c28
                               obtain ⟨y526, hy526⟩ : ∃ y_ : List ByteArray, y_ = (y522 ++ [rdOf ByteArray.empty y504 x7_1]) := ⟨_, rfl⟩
                               replace H : (if y526.length + y519.length < 8796093022208 then (althingref04_Join.l0 k2 (y526 ++ y519) y504 (wrap64 (x7_1 + 1))) else (none)) = some r := by first | (rw [hy526]; with_reducible exact H) | (have H2_ := (Option.bind_some _ _).symm.trans H; rw [hy526]; with_reducible exact H2_) | (have H2_ := (Option.bind_some _ _).symm.trans H; with_reducible exact H2_) | with_reducible exact H | (rw [hy526]; exact H) | exact H
                               have Ny526 := Aside0.mk hy526
                               clear hy526
                               by_cases c29 : y526.length + y519.length < 8796093022208
                               · rw [if_pos c29] at H
                                 have LMc29 := Aside0.mk c29
                                 clear c29
                                 obtain ⟨y529, hy529⟩ : ∃ y_ : List ByteArray, y_ = (y526 ++ y519) := ⟨_, rfl⟩
                                 replace H : (althingref04_Join.l0 k2 y529 y504 (wrap64 (x7_1 + 1))) = some r := by first | (rw [hy529]; with_reducible exact H) | (have H2_ := (Option.bind_some _ _).symm.trans H; rw [hy529]; with_reducible exact H2_) | (have H2_ := (Option.bind_some _ _).symm.trans H; with_reducible exact H2_) | with_reducible exact H | (rw [hy529]; exact H) | exact H
                                 have Ny529 := Aside0.mk hy529
                                 clear hy529
                                 have H' := Aside0.mk H
                                 clear H
                                 try go_wp2
                                 replace HO_5 := Aside0.mk (Kd.R_drew HO_5.out)
                                 replace HO_6 := Aside0.mk (Kd.R_drew HO_6.out)
                                 replace HB := Aside0.mk (below_drew1 HB.out)
                                 have p509 : 0 ≤ (x8_2 : Int) := of_decide_eq_true (by first | (with_reducible assumption) | assumption)
                                 have q509 : x8_2 < (x5_1.length : Int) := of_decide_eq_true (by first | (with_reducible assumption) | assumption)
                                 obtain ⟨ad509, e509, hx509_0⟩ := Kd.at_string (Kd.R_reads' HO_5.out).2.2 x8_2 p509 q509
                                 cases e509
                                 replace p509 := eq_true p509
                                 replace q509 := eq_true q509
                                 have p510 : 0 ≤ (x7_1 : Int) := of_decide_eq_true (by first | (with_reducible assumption) | assumption)
                                 have q510 : x7_1 < (y504.length : Int) := of_decide_eq_true (by first | (with_reducible assumption) | assumption)
                                 obtain ⟨ad510, e510, hx510_0⟩ := Kd.at_string (Kd.R_reads' HO_6.out).2.2 x7_1 p510 q510
                                 obtain rfl : ad507 = ad510 := (by injection e510)
                                 replace p510 := eq_true p510
                                 replace q510 := eq_true q510
                                 refine start_ (n := 15) (S := fun w' => w'.cell? (ad509.add (x8_2).toNat) = some (.string (rdOf ByteArray.empty x5_1 x8_2)) ∧ w'.cell? (ad507.add (x7_1).toNat) = some (.string (rdOf ByteArray.empty y504 x7_1))) (ds := []) #[false, false, false, false, false, false, false, false, false, false, false, false, false, false, false] (by kernel_rfl) rfl rfl ⟨hx509_0, hx510_0⟩ (fun hHeld => ?_); refine with_tabW althingref04_Join.tab8 althingref04_Join.bits8 (fun HT_ HW_ => ?_)
                                 generalize wr.drew = w30 at HO_5 HO_6 HB hx509_0 hx510_0 hHeld ⊢
                                 refine pu_ 0 (some 27) (tf_ 1 14) HT_ ?_
                                 refine pu_ 1 (some 28) (tf_ 2 13) HT_ ?_
                                 refine pu_ 2 (some 29) (tf_ 3 12) HT_ ?_
                                 refine pu_ 3 (some 30) (tf_ 4 11) HT_ ?_
                                 refine pu_ 4 (some 31) (tf_ 5 10) HT_ ?_
                                 refine pu_ 5 (some 32) (tf_ 6 9) HT_ ?_
                                 refine pu_ 6 (some 33) (tf_ 7 8) HT_ ?_
                                 refine pu_ 7 (some 34) (tf_ 8 7) HT_ ?_
                                 refine pu_ 9 (some 36) #[true, true, true, true, true, true, true, true, false, true, false, false, false, false, false] HT_ ?_
                                 refine pu_ 10 (some 37) #[true, true, true, true, true, true, true, true, false, true, true, false, false, false, false] HT_ ?_
                                 refine pu_ 11 (some 38) #[true, true, true, true, true, true, true, true, false, true, true, true, false, false, false] HT_ ?_
                                 refine tk_ 8 (some 35) (tf_ 12 3) HT_ HW_ hHeld (hy := by
                                  rintro w' ⟨s0, s1⟩
                                  go_simp
                                  with_reducible rfl) (h := ?_)
                                 refine tk_ 12 (some 39) (tf_ 13 2) HT_ HW_ hHeld (hy := by
                                  rintro w' ⟨s0, s1⟩
                                  go_simp
                                  with_reducible rfl) (h := ?_)
                                 refine on_ 13 (some 40) (tf_ 14 1) HT_ fun K hK => ?_
                                 refine goes_ Try.func41 (by kernel_rfl) rfl #[.string (rdOf ByteArray.empty x5_1 x8_2), .string (rdOf ByteArray.empty y504 x7_1)] (by rfl) rfl rfl (by (try simp only [List.map_toArray, List.map_cons, List.map_nil]); first | done | rfl | (simp only [List.length_drop, List.length_take]; rfl)) ?_
                                 with_reducible refine (althingref04_Before.calls k2 (rdOf ByteArray.empty x5_1 x8_2) (rdOf ByteArray.empty y504 x7_1) false _ A21.out).mono ?_
                                 rintro e w' ⟨rfl, ⟨nd, rfl⟩⟩
                                 refine ⟨_, rfl, ?_⟩
                                 refine hK.out _ _ ⟨hHeld.1, hHeld.2⟩ (fun hHeld => ?_)
                                 clear hK K
                                 refine nr_ 40 ?_
                                 refine pu_ 14 (some 41) (tf_ 15 0) HT_ ?_
                                 refine done_ (done_of HT_.out (by kernel_rfl)) ?_
                                 try go_wp2_with (first | ((with_reducible refine gate_dst (N := 44) rfl ?_); refine Kd.R_lit Kd.string _ 9 ?hg (N := 44) ?hd (xs := ([] : List ByteArray)) (inner := []) (ok := fun _ => True) (okp := fun _ => True) ?hr ?hp (fun _ hk => hk) trivial (Below.refl _ _) (Nat.le_refl _) (by simp) ?_; (case hd => rfl); (case hg => rfl); (case hr => first | (go_simp; done) | (go_simp; rfl)); (case hp => exact (Reps.none _ _)); intro v513 w31 ho32 hb hg_ hnew_; clear hg_ hnew_; (first | rw [← Ny512.out] at ho32 | (simp only [Int.reduceToNat] at ho32; rw [← Ny512.out] at ho32)); have HO514 := Aside0.mk (Kd.R_lower (Kd.R_new' (Kd.R_new' ho32 (Kd.R_lt (kr_ HO_5.out))) (Kd.R_lt (kr_ HO_6.out))) (below_size lb_)); replace HO_5 := Aside0.mk (Kd.R_elder' (kr_ HO_5.out) (Kd.R_base ho32) hb); replace HO_6 := Aside0.mk (Kd.R_elder' (kr_ HO_6.out) (Kd.R_base ho32) hb); replace HB := hs_ HB hb; clear hb ho32; have q33 : (x8_2 : Int) ≤ ((x5_1.length : Int) : Int) := of_decide_eq_true (by first | (with_reducible assumption) | assumption); obtain ⟨i033, hi033, _, hsz33, _⟩ := info_parts info9; have hroom33 : x5_1.length ≤ co16 := (Kd.R_reads' HO_5.out).2.1; have hC33 : Kd.C Kd.string _ (some ad509) x5_1.length x5_1 := (Kd.R_reads' HO_5.out).2.2; have q033 : (0 : Int) ≤ (x8_2 : Int) := of_decide_eq_true (by first | (with_reducible assumption) | assumption); have hcut33 := cut_from (P := Try.prog) 45 9 .i64 Try.underlying45 hi033 1 hsz33 (some ad509) x5_1.length co16 x8_2 q033 q33; have hr33 := Kd.C_drop (m := (x8_2 : Int).toNat) (c := co16) hC33 (by omega) hroom33; obtain ⟨A33, hA33⟩ : ∃ A1, A1 = (if co16 = (x8_2 : Int).toNat then (some ad509) else ((some ad509) : Option Addr).map (·.add ((x8_2 : Int).toNat * 1))) := ⟨_, rfl⟩; obtain ⟨c33, hc33⟩ : ∃ c1, c1 = co16 - (x8_2 : Int).toNat := ⟨_, rfl⟩; have hy33 : y515.length = x5_1.length - (x8_2 : Int).toNat := (by rw [Ny515.out, List.length_drop] <;> omega); rw [show (x5_1).drop (x8_2 : Int).toNat = y515 from Ny515.out.symm] at hr33; replace hr33 : Kd.C Kd.string _ A33 y515.length y515 := (by rw [hA33]; exact hr33); rw [← hy33, ← hA33, ← hc33] at hcut33; have HR518 := Aside0.mk hr33; have HC518 := Aside0.mk (show y515.length ≤ c33 from by rw [hy33, hc33]; exact Nat.sub_le_sub_right hroom33 _); clear hr33 hC33 hroom33 hi033 hsz33 hc33; have KY33 := Aside0.mk hy33; have KA33 := Aside0.mk hA33; clear hy33 hA33; have KL33 := Aside0.mk (show (x8_2 : Int).toNat ≤ x5_1.length from by omega); replace q33 := eq_true q33) | ((with_reducible refine gate_builtin (b := .append) (xs := #[.tmp 44, .tmp 47]) rfl ?_); at_builtin; refine Kd.R_append_rows Kd.string (w0 := w) w.heap.size rfl (.tmp 44) (.tmp 47) 45 9 (.string ⟨#[]⟩) 16 rfl Try.underlying45 info9 rfl (by decide) (by omega) v513 y512 y515 _ _ _ (fun k_ => some k_ ≠ (.slice (some ad509) x5_1.length co16 : Value).ownBlock ∧ some k_ ≠ (.slice (some ad507) y504.length co15 : Value).ownBlock) (fun _ => False) rfl rfl ?aO ?aR (fun _ _ h => h) (fun _ h => h.elim) ?aF ?aB ?aS ?aL ?_; (case aR => repeat (first | exact (by repeat (first | (with_reducible exact HR518.out) | (with_reducible refine Kd.C_alloc ?_ _) | (with_reducible refine Kd.C_drewN ?_ _) | (with_reducible refine Kd.C_drew ?_) | exact HR518.out)) | (with_reducible refine Kd.C_alloc ?_ _) | (with_reducible refine Kd.C_drewN ?_ _) | (with_reducible refine Kd.C_drew ?_))); (case aB => exact lb_); (case aF => exact (fun k_ hk => ⟨Kd.fresh' (Kd.R_lt (kr_ HO_5.out)) k_ hk, Kd.fresh' (Kd.R_lt (kr_ HO_6.out)) k_ hk⟩)); (case aO => exact (by (with_reducible repeat (first | apply Kd.R_alloc | apply Kd.R_drewN | apply Kd.R_drew)); exact Kd.R_mono HO514.out (fun _ hk => ⟨hk.1.2, hk.2⟩))); (case aS => exact (below_size lb_)); (case aL => have := LMc26.out; omega); intro v520 w34 ho hb hg hat; rw [← Ny519.out] at ho; have n0_ := Aside0.mk (Kd.R_after (ok := (fun k_ => some k_ ≠ (.slice (some ad507) y504.length co15 : Value).ownBlock)) (kr_ HO_5.out) hg hat); have n1_ := Aside0.mk (Kd.R_after (ok := (fun k_ => some k_ ≠ (.slice (some ad509) x5_1.length co16 : Value).ownBlock)) (kr_ HO_6.out) hg hat); have n2_ := Aside0.mk (hb); have n3_ := Aside0.mk ((show Kd.C Kd.string w34 A33 y515.length y515 from by rw [Ny515.out, KA33.out]; exact Kd.C_drop (m := (x8_2 : Int).toNat) (c := co16) ((Kd.R_reads' (Kd.R_after (ok := (fun k_ => some k_ ≠ (.slice (some ad507) y504.length co15 : Value).ownBlock)) (kr_ HO_5.out) hg hat)).2.2) KL33.out ((Kd.R_reads' (Kd.R_after (ok := (fun k_ => some k_ ≠ (.slice (some ad507) y504.length co15 : Value).ownBlock)) (kr_ HO_5.out) hg hat)).2.1))); have n4_ := Aside0.mk (ho); clear HO_5 HO_6 HB HR518 HO514; have HO_5 := n0_; have HO_6 := n1_; have HB := n2_; have HR518 := n3_; have HO521 := n4_; clear n0_ n1_ n2_ n3_ n4_ ho hb hg hat))
                                 replace HO_5 := Aside0.mk (Kd.R_drew HO_5.out)
                                 replace HO_6 := Aside0.mk (Kd.R_drew HO_6.out)
                                 replace HO521 := Aside0.mk (Kd.R_drew HO521.out)
                                 replace HR518 := Aside0.mk (Kd.C_drew HR518.out)
                                 replace HB := Aside0.mk (below_drew1 HB.out)
                                 have q36 : (x8_2 : Int) ≤ ((x5_1.length : Int) : Int) := of_decide_eq_true (by first | (with_reducible assumption) | assumption)
                                 obtain ⟨i036, hi036, _, hsz36, _⟩ := info_parts info9
                                 have hcut36 := cut_to (P := Try.prog) 45 9 .i64 Try.underlying45 hi036 (some ad509) x5_1.length co16 x8_2 (of_decide_eq_true (by first | (with_reducible assumption) | assumption)) q36 (Kd.R_reads' HO_5.out).2.1
                                 have hr36 := Kd.R_take (m := (x8_2 : Int).toNat) HO_5.out (by omega)
                                 have hy36 : y522.length = (x8_2 : Int).toNat := (by rw [Ny522.out, List.length_take]; omega)
                                 rw [← Ny522.out] at hr36
                                 rw [← hy36] at hr36 hcut36
                                 clear hy36 hi036 hsz36 HO_5
                                 have HO524 := Aside0.mk hr36
                                 clear hr36
                                 replace q36 := eq_true q36
                                 have p525 : 0 ≤ (x7_1 : Int) := of_decide_eq_true (by first | (with_reducible assumption) | assumption)
                                 have q525 : x7_1 < (y504.length : Int) := of_decide_eq_true (by first | (with_reducible assumption) | assumption)
                                 obtain ⟨ad525, e525, hx525_0⟩ := Kd.at_string (Kd.R_reads' HO_6.out).2.2 x7_1 p525 q525
                                 obtain rfl : ad507 = ad525 := (by injection e525)
                                 replace p525 := eq_true p525
                                 replace q525 := eq_true q525
                                 refine start_ (n := 12) (S := fun w' => w'.cell? (ad507.add (x7_1).toNat) = some (.string (rdOf ByteArray.empty y504 x7_1))) (ds := [7, 8, 10]) #[false, false, false, false, false, false, false, false, false, false, false, false] (by kernel_rfl) rfl rfl (hx525_0) (fun hHeld => ?_); refine with_tabW althingref04_Join.tab11 althingref04_Join.bits11 (fun HT_ HW_ => ?_)
                                 generalize w34.drew = w35 at HO_5 HO_6 HO521 HR518 HB HO524 hx525_0 hHeld ⊢
                                 refine pu_ 0 (some 49) (tf_ 1 11) HT_ ?_
                                 refine pu_ 1 (some 50) (tf_ 2 10) HT_ ?_
                                 refine pu_ 2 (some 51) (tf_ 3 9) HT_ ?_
                                 refine pu_ 3 (some 52) (tf_ 4 8) HT_ ?_
                                 refine pu_ 4 (some 53) (tf_ 5 7) HT_ ?_
                                 refine pu_ 5 (some 54) (tf_ 6 6) HT_ ?_
                                 refine pu_ 9 (some 58) #[true, true, true, true, true, true, false, false, false, true, false, false] HT_ ?_
                                 refine take_ (i := 6) (N := some 55) (v := ?_) (a' := ?_) #[true, true, true, true, true, true, true, false, false, true, false, false] rfl rfl (take_ofW HT_.out HW_.out (by kernel_rfl)) (fun _ _ _ h => h) (Or.inl ⟨by rfl, ?_⟩) hHeld ?_ ?_
                                 rotate_left
                                 · intro w' s0
                                   go_simp
                                   with_reducible rfl
                                 rotate_left
                                 · simp only [Act.put, List.setIfInBounds_toArray, List.set_cons_zero, List.set_cons_succ, i64_w, i32_w]
                                   rfl
                                 refine last_ (i := 7) (N := some 56) #[true, true, true, true, true, true, true, true, false, true, false, false] rfl rfl (one_of HT_.out (by kernel_rfl)) (by decide) (fun K hK => ?_)
                                 refine value_ (w1 := ?_) (v := ?_) (by rfl) rfl ?_ ?_
                                 rotate_left 2
                                 · go_simp
                                   constructor
                                   · rfl
                                   · rfl
                                 refine hK.out _ _ ?_
                                 clear hK K
                                 refine nr_ 56 ?_
                                 refine last_ (i := 8) (N := some 57) (tf_ 10 2) rfl rfl (one_of HT_.out (by kernel_rfl)) (by decide) (fun K hK => ?_)
                                 refine Kd.R_append_step Kd.string (w0 := w) w.heap.size (by rfl) (.tmp 51) (.tmp 56) 45 9 (.string ⟨#[]⟩) 16 rfl Try.underlying45 info9 rfl (by decide) (by omega) (.slice (some ad509) y522.length co16) y522 (rdOf ByteArray.empty y504 x7_1) [.string (rdOf ByteArray.empty y504 x7_1)] (fun k_ => some k_ ≠ (.slice (some ad507) y504.length co15 : Value).ownBlock ∧ some k_ ≠ (v520 : Value).ownBlock) (fun _ => False) rfl rfl ?aP (fun _ hk => hk.elim) ?aF ?aO ?aB ?aS ?aL ?_
                                 (case aP => exact rfl)
                                 (case aB => exact lb_)
                                 (case aF => exact (fun k_ hk => ⟨Kd.fresh' (Kd.R_lt (kr_ HO_6.out)) k_ hk, Kd.fresh' (Kd.R_lt (kr_ HO521.out)) k_ hk⟩))
                                 (case aO => exact (kr_ HO524.out))
                                 (case aS => exact (below_size lb_))
                                 (case aL => have := LMc28.out; omega)
                                 intro v527 w37 ho hb hg hat
                                 rw [← Ny526.out] at ho
                                 have n0_ := Aside0.mk (Kd.R_after (ok := (fun k_ => some k_ ≠ (v520 : Value).ownBlock)) (by (with_reducible repeat (first | apply Kd.R_alloc | apply Kd.R_drewN | apply Kd.R_drew)); exact Kd.R_mono HO_6.out (fun _ hk => ⟨hk.2, by first | exact hk.1 | (have h1 := hk.1; simpa [Value.ownBlock] using h1) | (have h1 := hk.1; revert h1; cases Ao16 <;> exact id)⟩)) hg hat)
                                 have n1_ := Aside0.mk (Kd.R_after (ok := (fun k_ => some k_ ≠ (.slice (some ad507) y504.length co15 : Value).ownBlock)) (by (with_reducible repeat (first | apply Kd.R_alloc | apply Kd.R_drewN | apply Kd.R_drew)); exact Kd.R_mono HO521.out (fun _ hk => ⟨hk.2, by first | exact hk.1 | (have h1 := hk.1; simpa [Value.ownBlock] using h1) | (have h1 := hk.1; revert h1; cases Ao16 <;> exact id)⟩)) hg hat)
                                 have n2_ := Aside0.mk (hb)
                                 have n3_ := Aside0.mk (ho)
                                 clear HO_6 HO521 HB HO524
                                 have HO_6 := n0_; have HO521 := n1_; have HB := n2_; have HO528 := n3_
                                 clear n0_ n1_ n2_ n3_ ho hb hg hat
                                 obtain ⟨Ao39, co39, eo39⟩ := Kd.R_slice HO521.out
                                 (first | subst eo39 | (injection eo39 with f1_ f2_ f3_; have f4_ := f1_.symm; have f5_ := f3_.symm; clear f1_ f2_ f3_; subst f4_; subst f5_))
                                 refine hK.out _ _ ?_
                                 clear hK K
                                 refine nr_ 57 ?_
                                 refine last_ (i := 10) (N := some 59) (tf_ 11 1) rfl rfl (one_of HT_.out (by kernel_rfl)) (by decide) (fun K hK => ?_)
                                 refine Kd.R_append_rows_step Kd.string (w0 := w) w.heap.size (by rfl) (.tmp 57) (.tmp 58) 45 9 (.string ⟨#[]⟩) 16 rfl Try.underlying45 info9 rfl (by decide) (by omega) v527 y526 y519 _ _ _ (fun k_ => some k_ ≠ (.slice (some ad507) y504.length co15 : Value).ownBlock ∧ some k_ ≠ (.slice Ao39 y519.length co39 : Value).ownBlock) (fun _ => False) rfl rfl ?aO ?aR (fun _ _ h => h) (fun _ h => h.elim) ?aF ?aB ?aS ?aL ?_
                                 (case aR => repeat (first | exact (Kd.R_reads' HO521.out).2.2 | (with_reducible refine Kd.C_alloc ?_ _) | (with_reducible refine Kd.C_drewN ?_ _) | (with_reducible refine Kd.C_drew ?_)))
                                 (case aB => exact lb_)
                                 (case aF => exact (fun k_ hk => ⟨Kd.fresh' (Kd.R_lt (kr_ HO_6.out)) k_ hk, Kd.fresh' (Kd.R_lt (kr_ HO521.out)) k_ hk⟩))
                                 (case aO => exact (kr_ HO528.out))
                                 (case aS => exact (below_size lb_))
                                 (case aL => have := LMc29.out; omega)
                                 intro v530 w38 ho hb hg hat
                                 rw [← Ny529.out] at ho
                                 have n0_ := Aside0.mk (Kd.R_after (ok := (fun k_ => some k_ ≠ (.slice Ao39 y519.length co39 : Value).ownBlock)) (kr_ HO_6.out) hg hat)
                                 have n1_ := Aside0.mk (Kd.R_after (ok := (fun k_ => some k_ ≠ (.slice (some ad507) y504.length co15 : Value).ownBlock)) (kr_ HO521.out) hg hat)
                                 have n2_ := Aside0.mk (hb)
                                 have n3_ := Aside0.mk (ho)
                                 clear HO_6 HO521 HB HO528
                                 have HO_6 := n0_; have HO521 := n1_; have HB := n2_; have HO531 := n3_
                                 clear n0_ n1_ n2_ n3_ ho hb hg hat
                                 refine hK.out _ _ ?_
                                 clear hK K
                                 refine nr_ 59 ?_
                                 refine pu_ 11 (some 5) (tf_ 12 0) HT_ ?_
                                 refine done_ (done_of HT_.out (by kernel_rfl)) ?_
                                 try go_wp2
                                 go_roundg k2
                                 case measure => have := HK1.out; have := HK2.out; omega
                                 case rel => exact ⟨(y529), (wrap64 (x7_1 + 1)), sm_, H', ⟨by have := HK1.out; have := HK2.out; omega⟩, ⟨kr_ (Kd.R_mono HO531.out (fun _ hk => hk.1))⟩, ⟨kr_ (Kd.R_mono HO_6.out (fun _ hk => hk.2))⟩, ⟨by repeat (first | (with_reducible first | exact HB.out | apply below_alloc | apply pw_below_drewN | apply below_drew1) | exact HB.out)⟩⟩
                               · rw [if_neg c29] at H
                                 exact absurd H (by simp)
                             · rw [if_neg c28] at H
                               exact absurd H (by simp)
                           · rw [if_neg c26] at H
                             exact absurd H (by simp)
                         · rw [if_neg c25] at H
                           exact absurd H (by simp)
                     · rw [if_neg c20] at H
                       exact absurd H (by simp)
                   · rw [if_neg c19] at H
                     exact absurd H (by simp)
                 · rw [if_neg c18] at H
                   exact absurd H (by simp)
               · rw [if_neg c17] at H
                 have c17b0 : decide (x8_2 < (x5_1.length : Int)) = false := decide_eq_false c17
                 clear c17
                 obtain ⟨y532, hy532⟩ : ∃ y_ : List ByteArray, y_ = (([] : List ByteArray)) := ⟨_, rfl⟩
                 replace H : (if 0 ≤ x8_2 then (if x8_2 ≤ (x5_1.length : Int) then ((some (x5_1.drop (x8_2 : Int).toNat : List ByteArray)).bind fun y535 => (if y532.length + y535.length < 8796093022208 then ((some (y532 ++ y535 : List ByteArray)).bind fun y539 => ((some (x5_1.take (x8_2 : Int).toNat : List ByteArray)).bind fun y542 => (if 0 ≤ x7_1 then (if x7_1 < (y504.length : Int) then (if y542.length < 8796093022208 then ((some (y542 ++ [rdOf ByteArray.empty y504 x7_1] : List ByteArray)).bind fun y546 => (if y546.length + y539.length < 8796093022208 then (althingref04_Join.l0 k2 (y546 ++ y539) y504 (wrap64 (x7_1 + 1))) else (none))) else (none)) else (none)) else (none)))) else (none))) else (none)) else (none)) = some r := by first | (rw [hy532]; with_reducible exact H) | (have H2_ := (Option.bind_some _ _).symm.trans H; rw [hy532]; with_reducible exact H2_) | (have H2_ := (Option.bind_some _ _).symm.trans H; with_reducible exact H2_) | with_reducible exact H | (rw [hy532]; exact H) | exact H
                 have Ny532 := Aside0.mk hy532
                 clear hy532
                 by_cases c40 : 0 ≤ x8_2
                 · rw [if_pos c40] at H
                   have c40b0 := eq_true c40
                   have c40b1 : decide (0 ≤ x8_2) = true := decide_eq_true c40
                   clear c40
                   by_cases c41 : x8_2 ≤ (x5_1.length : Int)
                   · rw [if_pos c41] at H
                     have c41b0 := eq_true c41
                     have c41b1 : decide (x8_2 ≤ (x5_1.length : Int)) = true := decide_eq_true c41
                     clear c41
                     obtain ⟨y535, hy535⟩ : ∃ y_ : List ByteArray, y_ = (x5_1.drop (x8_2 : Int).toNat) := ⟨_, rfl⟩
                     replace H : (if y532.length + y535.length < 8796093022208 then ((some (y532 ++ y535 : List ByteArray)).bind fun y539 => ((some (x5_1.take (x8_2 : Int).toNat : List ByteArray)).bind fun y542 => (if 0 ≤ x7_1 then (if x7_1 < (y504.length : Int) then (if y542.length < 8796093022208 then ((some (y542 ++ [rdOf ByteArray.empty y504 x7_1] : List ByteArray)).bind fun y546 => (if y546.length + y539.length < 8796093022208 then (althingref04_Join.l0 k2 (y546 ++ y539) y504 (wrap64 (x7_1 + 1))) else (none))) else (none)) else (none)) else (none)))) else (none)) = some r := by first | (rw [hy535]; with_reducible exact H) | (have H2_ := (Option.bind_some _ _).symm.trans H; rw [hy535]; with_reducible exact H2_) | (have H2_ := (Option.bind_some _ _).symm.trans H; with_reducible exact H2_) | with_reducible exact H | (rw [hy535]; exact H) | exact H
                     have Ny535 := Aside0.mk hy535
                     clear hy535
                     by_cases c42 : y532.length + y535.length < 8796093022208
                     · rw [if_pos c42] at H
                       have LMc42 := Aside0.mk c42
                       clear c42
                       obtain ⟨y539, hy539⟩ : ∃ y_ : List ByteArray, y_ = (y532 ++ y535) := ⟨_, rfl⟩
                       replace H : ((some (x5_1.take (x8_2 : Int).toNat : List ByteArray)).bind fun y542 => (if 0 ≤ x7_1 then (if x7_1 < (y504.length : Int) then (if y542.length < 8796093022208 then ((some (y542 ++ [rdOf ByteArray.empty y504 x7_1] : List ByteArray)).bind fun y546 => (if y546.length + y539.length < 8796093022208 then (althingref04_Join.l0 k2 (y546 ++ y539) y504 (wrap64 (x7_1 + 1))) else (none))) else (none)) else (none)) else (none))) = some r := by first | (rw [hy539]; with_reducible exact H) | (have H2_ := (Option.bind_some _ _).symm.trans H; rw [hy539]; with_reducible exact H2_) | (have H2_ := (Option.bind_some _ _).symm.trans H; with_reducible exact H2_) | with_reducible exact H | (rw [hy539]; exact H) | exact H
                       have Ny539 := Aside0.mk hy539
                       clear hy539
                       have c43b0 := eq_true (of_decide_eq_true (by first | (with_reducible assumption) | assumption) : x8_2 ≤ (x5_1.length : Int))
                       obtain ⟨y542, hy542⟩ : ∃ y_ : List ByteArray, y_ = (x5_1.take (x8_2 : Int).toNat) := ⟨_, rfl⟩
                       replace H : (if 0 ≤ x7_1 then (if x7_1 < (y504.length : Int) then (if y542.length < 8796093022208 then ((some (y542 ++ [rdOf ByteArray.empty y504 x7_1] : List ByteArray)).bind fun y546 => (if y546.length + y539.length < 8796093022208 then (althingref04_Join.l0 k2 (y546 ++ y539) y504 (wrap64 (x7_1 + 1))) else (none))) else (none)) else (none)) else (none)) = some r := by first | (rw [hy542]; with_reducible exact H) | (have H2_ := (Option.bind_some _ _).symm.trans H; rw [hy542]; with_reducible exact H2_) | (have H2_ := (Option.bind_some _ _).symm.trans H; with_reducible exact H2_) | with_reducible exact H | (rw [hy542]; exact H) | exact H
                       have Ny542 := Aside0.mk hy542
                       clear hy542
                       by_cases c44 : 0 ≤ x7_1
                       · rw [if_pos c44] at H
                         have c44b0 : decide (0 ≤ x7_1) = true := decide_eq_true c44
                         clear c44
                         by_cases c45 : x7_1 < (y504.length : Int)
                         · rw [if_pos c45] at H
                           have c45b0 : decide (x7_1 < (y504.length : Int)) = true := decide_eq_true c45
                           clear c45
                           by_cases c46 : y542.length < 8796093022208
                           · rw [if_pos c46] at H
                             have LMc46 := Aside0.mk c46
                             clear c46
                             obtain ⟨y546, hy546⟩ : ∃ y_ : List ByteArray, y_ = (y542 ++ [rdOf ByteArray.empty y504 x7_1]) := ⟨_, rfl⟩
                             replace H : (if y546.length + y539.length < 8796093022208 then (althingref04_Join.l0 k2 (y546 ++ y539) y504 (wrap64 (x7_1 + 1))) else (none)) = some r := by first | (rw [hy546]; with_reducible exact H) | (have H2_ := (Option.bind_some _ _).symm.trans H; rw [hy546]; with_reducible exact H2_) | (have H2_ := (Option.bind_some _ _).symm.trans H; with_reducible exact H2_) | with_reducible exact H | (rw [hy546]; exact H) | exact H
                             have Ny546 := Aside0.mk hy546
                             clear hy546
                             by_cases c47 : y546.length + y539.length < 8796093022208
                             · rw [if_pos c47] at H
                               have LMc47 := Aside0.mk c47
                               clear c47
                               obtain ⟨y549, hy549⟩ : ∃ y_ : List ByteArray, y_ = (y546 ++ y539) := ⟨_, rfl⟩
                               replace H : (althingref04_Join.l0 k2 y549 y504 (wrap64 (x7_1 + 1))) = some r := by first | (rw [hy549]; with_reducible exact H) | (have H2_ := (Option.bind_some _ _).symm.trans H; rw [hy549]; with_reducible exact H2_) | (have H2_ := (Option.bind_some _ _).symm.trans H; with_reducible exact H2_) | with_reducible exact H | (rw [hy549]; exact H) | exact H
                               have Ny549 := Aside0.mk hy549
                               clear hy549
                               have H' := Aside0.mk H
                               clear H
                               try go_wp2
                               replace HO_5 := Aside0.mk (Kd.R_drew HO_5.out)
                               replace HO_6 := Aside0.mk (Kd.R_drew HO_6.out)
                               replace HB := Aside0.mk (below_drew1 HB.out)
                               refine start_ (n := 15) (S := fun w' => True) (ds := []) #[false, false, false, false, false, false, false, false, false, false, false, false, false, false, false] (by kernel_rfl) rfl rfl trivial (fun hHeld => ?_); refine with_tabW althingref04_Join.tab8 althingref04_Join.bits8 (fun HT_ HW_ => ?_)
                               generalize wr.drew = w48 at HO_5 HO_6 HB hHeld ⊢
                               refine pu_ 0 (some 27) (tf_ 1 14) HT_ ?_
                               refine pu_ 1 (some 28) (tf_ 2 13) HT_ ?_
                               refine pu_ 2 (some 29) (tf_ 3 12) HT_ ?_
                               refine pu_ 3 (some 30) (tf_ 4 11) HT_ ?_
                               refine pu_ 4 (some 31) (tf_ 5 10) HT_ ?_
                               refine pure_ (i := 5) (N := some 32) (v := undef) (a' := ?_) (tf_ 6 9) rfl rfl (any_of HT_.out (by kernel_rfl)) (fun _ _ _ h => h) (Or.inr ⟨by rfl, rfl⟩) ?_ ?_
                               rotate_left
                               · simp only [Act.put, List.setIfInBounds_toArray, List.set_cons_zero, List.set_cons_succ, i64_w, i32_w]
                                 rfl
                               refine pure_ (i := 6) (N := some 33) (v := undef) (a' := ?_) (tf_ 7 8) rfl rfl (any_of HT_.out (by kernel_rfl)) (fun _ _ _ h => h) (Or.inr ⟨by rfl, rfl⟩) ?_ ?_
                               rotate_left
                               · simp only [Act.put, List.setIfInBounds_toArray, List.set_cons_zero, List.set_cons_succ, i64_w, i32_w]
                                 rfl
                               refine pure_ (i := 7) (N := some 34) (v := undef) (a' := ?_) (tf_ 8 7) rfl rfl (any_of HT_.out (by kernel_rfl)) (fun _ _ _ h => h) (Or.inr ⟨by rfl, rfl⟩) ?_ ?_
                               rotate_left
                               · simp only [Act.put, List.setIfInBounds_toArray, List.set_cons_zero, List.set_cons_succ, i64_w, i32_w]
                                 rfl
                               refine pure_ (i := 8) (N := some 35) (v := undef) (a' := ?_) (tf_ 9 6) rfl rfl (any_of HT_.out (by kernel_rfl)) (fun _ _ _ h => h) (Or.inr ⟨by rfl, rfl⟩) ?_ ?_
                               rotate_left
                               · simp only [Act.put, List.setIfInBounds_toArray, List.set_cons_zero, List.set_cons_succ, i64_w, i32_w]
                                 rfl
                               refine pure_ (i := 9) (N := some 36) (v := undef) (a' := ?_) (tf_ 10 5) rfl rfl (any_of HT_.out (by kernel_rfl)) (fun _ _ _ h => h) (Or.inr ⟨by rfl, rfl⟩) ?_ ?_
                               rotate_left
                               · simp only [Act.put, List.setIfInBounds_toArray, List.set_cons_zero, List.set_cons_succ, i64_w, i32_w]
                                 rfl
                               refine pure_ (i := 10) (N := some 37) (v := undef) (a' := ?_) (tf_ 11 4) rfl rfl (any_of HT_.out (by kernel_rfl)) (fun _ _ _ h => h) (Or.inr ⟨by rfl, rfl⟩) ?_ ?_
                               rotate_left
                               · simp only [Act.put, List.setIfInBounds_toArray, List.set_cons_zero, List.set_cons_succ, i64_w, i32_w]
                                 rfl
                               refine pure_ (i := 11) (N := some 38) (v := undef) (a' := ?_) (tf_ 12 3) rfl rfl (any_of HT_.out (by kernel_rfl)) (fun _ _ _ h => h) (Or.inr ⟨by rfl, rfl⟩) ?_ ?_
                               rotate_left
                               · simp only [Act.put, List.setIfInBounds_toArray, List.set_cons_zero, List.set_cons_succ, i64_w, i32_w]
                                 rfl
                               refine pure_ (i := 12) (N := some 39) (v := undef) (a' := ?_) (tf_ 13 2) rfl rfl (any_of HT_.out (by kernel_rfl)) (fun _ _ _ h => h) (Or.inr ⟨by rfl, rfl⟩) ?_ ?_
                               rotate_left
                               · simp only [Act.put, List.setIfInBounds_toArray, List.set_cons_zero, List.set_cons_succ, i64_w, i32_w]
                                 rfl
                               refine pure_ (i := 13) (N := some 40) (v := undef) (a' := ?_) (tf_ 14 1) rfl rfl (any_of HT_.out (by kernel_rfl)) (fun _ _ _ h => h) (Or.inr ⟨by rfl, rfl⟩) ?_ ?_
                               rotate_left
                               · simp only [Act.put, List.setIfInBounds_toArray, List.set_cons_zero, List.set_cons_succ, i64_w, i32_w]
                                 rfl
                               refine pu_ 14 (some 41) (tf_ 15 0) HT_ ?_
                               refine done_ (done_of HT_.out (by kernel_rfl)) ?_
                               try go_wp2_with (first | ((with_reducible refine gate_dst (N := 44) rfl ?_); refine Kd.R_lit Kd.string _ 9 ?hg (N := 44) ?hd (xs := ([] : List ByteArray)) (inner := []) (ok := fun _ => True) (okp := fun _ => True) ?hr ?hp (fun _ hk => hk) trivial (Below.refl _ _) (Nat.le_refl _) (by simp) ?_; (case hd => rfl); (case hg => rfl); (case hr => first | (go_simp; done) | (go_simp; rfl)); (case hp => exact (Reps.none _ _)); intro v533 w49 ho50 hb hg_ hnew_; clear hg_ hnew_; (first | rw [← Ny532.out] at ho50 | (simp only [Int.reduceToNat] at ho50; rw [← Ny532.out] at ho50)); have HO534 := Aside0.mk (Kd.R_lower (Kd.R_new' (Kd.R_new' ho50 (Kd.R_lt (kr_ HO_5.out))) (Kd.R_lt (kr_ HO_6.out))) (below_size lb_)); replace HO_5 := Aside0.mk (Kd.R_elder' (kr_ HO_5.out) (Kd.R_base ho50) hb); replace HO_6 := Aside0.mk (Kd.R_elder' (kr_ HO_6.out) (Kd.R_base ho50) hb); replace HB := hs_ HB hb; clear hb ho50; have q51 : (x8_2 : Int) ≤ ((x5_1.length : Int) : Int) := of_decide_eq_true (by first | (with_reducible assumption) | assumption); obtain ⟨i051, hi051, _, hsz51, _⟩ := info_parts info9; have hroom51 : x5_1.length ≤ co16 := (Kd.R_reads' HO_5.out).2.1; have hC51 : Kd.C Kd.string _ Ao16 x5_1.length x5_1 := (Kd.R_reads' HO_5.out).2.2; have q051 : (0 : Int) ≤ (x8_2 : Int) := of_decide_eq_true (by first | (with_reducible assumption) | assumption); have hcut51 := cut_from (P := Try.prog) 45 9 .i64 Try.underlying45 hi051 1 hsz51 Ao16 x5_1.length co16 x8_2 q051 q51; have hr51 := Kd.C_drop (m := (x8_2 : Int).toNat) (c := co16) hC51 (by omega) hroom51; obtain ⟨A51, hA51⟩ : ∃ A1, A1 = (if co16 = (x8_2 : Int).toNat then Ao16 else (Ao16 : Option Addr).map (·.add ((x8_2 : Int).toNat * 1))) := ⟨_, rfl⟩; obtain ⟨c51, hc51⟩ : ∃ c1, c1 = co16 - (x8_2 : Int).toNat := ⟨_, rfl⟩; have hy51 : y535.length = x5_1.length - (x8_2 : Int).toNat := (by rw [Ny535.out, List.length_drop] <;> omega); rw [show (x5_1).drop (x8_2 : Int).toNat = y535 from Ny535.out.symm] at hr51; replace hr51 : Kd.C Kd.string _ A51 y535.length y535 := (by rw [hA51]; exact hr51); rw [← hy51, ← hA51, ← hc51] at hcut51; have HR538 := Aside0.mk hr51; have HC538 := Aside0.mk (show y535.length ≤ c51 from by rw [hy51, hc51]; exact Nat.sub_le_sub_right hroom51 _); clear hr51 hC51 hroom51 hi051 hsz51 hc51; have KY51 := Aside0.mk hy51; have KA51 := Aside0.mk hA51; clear hy51 hA51; have KL51 := Aside0.mk (show (x8_2 : Int).toNat ≤ x5_1.length from by omega); replace q51 := eq_true q51) | ((with_reducible refine gate_builtin (b := .append) (xs := #[.tmp 44, .tmp 47]) rfl ?_); at_builtin; refine Kd.R_append_rows Kd.string (w0 := w) w.heap.size rfl (.tmp 44) (.tmp 47) 45 9 (.string ⟨#[]⟩) 16 rfl Try.underlying45 info9 rfl (by decide) (by omega) v533 y532 y535 _ _ _ (fun k_ => some k_ ≠ (.slice Ao16 x5_1.length co16 : Value).ownBlock ∧ some k_ ≠ (.slice (some ad507) y504.length co15 : Value).ownBlock) (fun _ => False) rfl rfl ?aO ?aR (fun _ _ h => h) (fun _ h => h.elim) ?aF ?aB ?aS ?aL ?_; (case aR => repeat (first | exact (by repeat (first | (with_reducible exact HR538.out) | (with_reducible refine Kd.C_alloc ?_ _) | (with_reducible refine Kd.C_drewN ?_ _) | (with_reducible refine Kd.C_drew ?_) | exact HR538.out)) | (with_reducible refine Kd.C_alloc ?_ _) | (with_reducible refine Kd.C_drewN ?_ _) | (with_reducible refine Kd.C_drew ?_))); (case aB => exact lb_); (case aF => exact (fun k_ hk => ⟨Kd.fresh' (Kd.R_lt (kr_ HO_5.out)) k_ hk, Kd.fresh' (Kd.R_lt (kr_ HO_6.out)) k_ hk⟩)); (case aO => exact (by (with_reducible repeat (first | apply Kd.R_alloc | apply Kd.R_drewN | apply Kd.R_drew)); exact Kd.R_mono HO534.out (fun _ hk => ⟨hk.1.2, hk.2⟩))); (case aS => exact (below_size lb_)); (case aL => have := LMc42.out; omega); intro v540 w52 ho hb hg hat; rw [← Ny539.out] at ho; have n0_ := Aside0.mk (Kd.R_after (ok := (fun k_ => some k_ ≠ (.slice (some ad507) y504.length co15 : Value).ownBlock)) (kr_ HO_5.out) hg hat); have n1_ := Aside0.mk (Kd.R_after (ok := (fun k_ => some k_ ≠ (.slice Ao16 x5_1.length co16 : Value).ownBlock)) (kr_ HO_6.out) hg hat); have n2_ := Aside0.mk (hb); have n3_ := Aside0.mk ((show Kd.C Kd.string w52 A51 y535.length y535 from by rw [Ny535.out, KA51.out]; exact Kd.C_drop (m := (x8_2 : Int).toNat) (c := co16) ((Kd.R_reads' (Kd.R_after (ok := (fun k_ => some k_ ≠ (.slice (some ad507) y504.length co15 : Value).ownBlock)) (kr_ HO_5.out) hg hat)).2.2) KL51.out ((Kd.R_reads' (Kd.R_after (ok := (fun k_ => some k_ ≠ (.slice (some ad507) y504.length co15 : Value).ownBlock)) (kr_ HO_5.out) hg hat)).2.1))); have n4_ := Aside0.mk (ho); clear HO_5 HO_6 HB HR538 HO534; have HO_5 := n0_; have HO_6 := n1_; have HB := n2_; have HR538 := n3_; have HO541 := n4_; clear n0_ n1_ n2_ n3_ n4_ ho hb hg hat))
                               replace HO_5 := Aside0.mk (Kd.R_drew HO_5.out)
                               replace HO_6 := Aside0.mk (Kd.R_drew HO_6.out)
                               replace HO541 := Aside0.mk (Kd.R_drew HO541.out)
                               replace HR538 := Aside0.mk (Kd.C_drew HR538.out)
                               replace HB := Aside0.mk (below_drew1 HB.out)
                               have q54 : (x8_2 : Int) ≤ ((x5_1.length : Int) : Int) := of_decide_eq_true (by first | (with_reducible assumption) | assumption)
                               obtain ⟨i054, hi054, _, hsz54, _⟩ := info_parts info9
                               have hcut54 := cut_to (P := Try.prog) 45 9 .i64 Try.underlying45 hi054 Ao16 x5_1.length co16 x8_2 (of_decide_eq_true (by first | (with_reducible assumption) | assumption)) q54 (Kd.R_reads' HO_5.out).2.1
                               have hr54 := Kd.R_take (m := (x8_2 : Int).toNat) HO_5.out (by omega)
                               have hy54 : y542.length = (x8_2 : Int).toNat := (by rw [Ny542.out, List.length_take]; omega)
                               rw [← Ny542.out] at hr54
                               rw [← hy54] at hr54 hcut54
                               clear hy54 hi054 hsz54 HO_5
                               have HO544 := Aside0.mk hr54
                               clear hr54
                               replace q54 := eq_true q54
                               have p545 : 0 ≤ (x7_1 : Int) := of_decide_eq_true (by first | (with_reducible assumption) | assumption)
                               have q545 : x7_1 < (y504.length : Int) := of_decide_eq_true (by first | (with_reducible assumption) | assumption)
                               obtain ⟨ad545, e545, hx545_0⟩ := Kd.at_string (Kd.R_reads' HO_6.out).2.2 x7_1 p545 q545
                               obtain rfl : ad507 = ad545 := (by injection e545)
                               replace p545 := eq_true p545
                               replace q545 := eq_true q545
                               refine start_ (n := 12) (S := fun w' => w'.cell? (ad507.add (x7_1).toNat) = some (.string (rdOf ByteArray.empty y504 x7_1))) (ds := [7, 8, 10]) #[false, false, false, false, false, false, false, false, false, false, false, false] (by kernel_rfl) rfl rfl (hx545_0) (fun hHeld => ?_); refine with_tabW althingref04_Join.tab11 althingref04_Join.bits11 (fun HT_ HW_ => ?_)
                               generalize w52.drew = w53 at HO_5 HO_6 HO541 HR538 HB HO544 hx545_0 hHeld ⊢
                               refine pu_ 0 (some 49) (tf_ 1 11) HT_ ?_
                               refine pu_ 1 (some 50) (tf_ 2 10) HT_ ?_
                               refine pu_ 2 (some 51) (tf_ 3 9) HT_ ?_
                               refine pu_ 3 (some 52) (tf_ 4 8) HT_ ?_
                               refine pu_ 4 (some 53) (tf_ 5 7) HT_ ?_
                               refine pu_ 5 (some 54) (tf_ 6 6) HT_ ?_
                               refine pu_ 9 (some 58) #[true, true, true, true, true, true, false, false, false, true, false, false] HT_ ?_
                               refine take_ (i := 6) (N := some 55) (v := ?_) (a' := ?_) #[true, true, true, true, true, true, true, false, false, true, false, false] rfl rfl (take_ofW HT_.out HW_.out (by kernel_rfl)) (fun _ _ _ h => h) (Or.inl ⟨by rfl, ?_⟩) hHeld ?_ ?_
                               rotate_left
                               · intro w' s0
                                 go_simp
                                 with_reducible rfl
                               rotate_left
                               · simp only [Act.put, List.setIfInBounds_toArray, List.set_cons_zero, List.set_cons_succ, i64_w, i32_w]
                                 rfl
                               refine last_ (i := 7) (N := some 56) #[true, true, true, true, true, true, true, true, false, true, false, false] rfl rfl (one_of HT_.out (by kernel_rfl)) (by decide) (fun K hK => ?_)
                               refine value_ (w1 := ?_) (v := ?_) (by rfl) rfl ?_ ?_
                               rotate_left 2
                               · go_simp
                                 constructor
                                 · rfl
                                 · rfl
                               refine hK.out _ _ ?_
                               clear hK K
                               refine nr_ 56 ?_
                               refine last_ (i := 8) (N := some 57) (tf_ 10 2) rfl rfl (one_of HT_.out (by kernel_rfl)) (by decide) (fun K hK => ?_)
                               refine Kd.R_append_step Kd.string (w0 := w) w.heap.size (by rfl) (.tmp 51) (.tmp 56) 45 9 (.string ⟨#[]⟩) 16 rfl Try.underlying45 info9 rfl (by decide) (by omega) (.slice Ao16 y542.length co16) y542 (rdOf ByteArray.empty y504 x7_1) [.string (rdOf ByteArray.empty y504 x7_1)] (fun k_ => some k_ ≠ (.slice (some ad507) y504.length co15 : Value).ownBlock ∧ some k_ ≠ (v540 : Value).ownBlock) (fun _ => False) rfl rfl ?aP (fun _ hk => hk.elim) ?aF ?aO ?aB ?aS ?aL ?_
                               (case aP => exact rfl)
                               (case aB => exact lb_)
                               (case aF => exact (fun k_ hk => ⟨Kd.fresh' (Kd.R_lt (kr_ HO_6.out)) k_ hk, Kd.fresh' (Kd.R_lt (kr_ HO541.out)) k_ hk⟩))
                               (case aO => exact (kr_ HO544.out))
                               (case aS => exact (below_size lb_))
                               (case aL => have := LMc46.out; omega)
                               intro v547 w55 ho hb hg hat
                               rw [← Ny546.out] at ho
                               have n0_ := Aside0.mk (Kd.R_after (ok := (fun k_ => some k_ ≠ (v540 : Value).ownBlock)) (by (with_reducible repeat (first | apply Kd.R_alloc | apply Kd.R_drewN | apply Kd.R_drew)); exact Kd.R_mono HO_6.out (fun _ hk => ⟨hk.2, by first | exact hk.1 | (have h1 := hk.1; simpa [Value.ownBlock] using h1) | (have h1 := hk.1; revert h1; cases Ao16 <;> exact id)⟩)) hg hat)
                               have n1_ := Aside0.mk (Kd.R_after (ok := (fun k_ => some k_ ≠ (.slice (some ad507) y504.length co15 : Value).ownBlock)) (by (with_reducible repeat (first | apply Kd.R_alloc | apply Kd.R_drewN | apply Kd.R_drew)); exact Kd.R_mono HO541.out (fun _ hk => ⟨hk.2, by first | exact hk.1 | (have h1 := hk.1; simpa [Value.ownBlock] using h1) | (have h1 := hk.1; revert h1; cases Ao16 <;> exact id)⟩)) hg hat)
                               have n2_ := Aside0.mk (hb)
                               have n3_ := Aside0.mk (ho)
                               clear HO_6 HO541 HB HO544
                               have HO_6 := n0_; have HO541 := n1_; have HB := n2_; have HO548 := n3_
                               clear n0_ n1_ n2_ n3_ ho hb hg hat
                               obtain ⟨Ao57, co57, eo57⟩ := Kd.R_slice HO541.out
                               (first | subst eo57 | (injection eo57 with f1_ f2_ f3_; have f4_ := f1_.symm; have f5_ := f3_.symm; clear f1_ f2_ f3_; subst f4_; subst f5_))
                               refine hK.out _ _ ?_
                               clear hK K
                               refine nr_ 57 ?_
                               refine last_ (i := 10) (N := some 59) (tf_ 11 1) rfl rfl (one_of HT_.out (by kernel_rfl)) (by decide) (fun K hK => ?_)
                               refine Kd.R_append_rows_step Kd.string (w0 := w) w.heap.size (by rfl) (.tmp 57) (.tmp 58) 45 9 (.string ⟨#[]⟩) 16 rfl Try.underlying45 info9 rfl (by decide) (by omega) v547 y546 y539 _ _ _ (fun k_ => some k_ ≠ (.slice (some ad507) y504.length co15 : Value).ownBlock ∧ some k_ ≠ (.slice Ao57 y539.length co57 : Value).ownBlock) (fun _ => False) rfl rfl ?aO ?aR (fun _ _ h => h) (fun _ h => h.elim) ?aF ?aB ?aS ?aL ?_
                               (case aR => repeat (first | exact (Kd.R_reads' HO541.out).2.2 | (with_reducible refine Kd.C_alloc ?_ _) | (with_reducible refine Kd.C_drewN ?_ _) | (with_reducible refine Kd.C_drew ?_)))
                               (case aB => exact lb_)
                               (case aF => exact (fun k_ hk => ⟨Kd.fresh' (Kd.R_lt (kr_ HO_6.out)) k_ hk, Kd.fresh' (Kd.R_lt (kr_ HO541.out)) k_ hk⟩))
                               (case aO => exact (kr_ HO548.out))
                               (case aS => exact (below_size lb_))
                               (case aL => have := LMc47.out; omega)
                               intro v550 w56 ho hb hg hat
                               rw [← Ny549.out] at ho
                               have n0_ := Aside0.mk (Kd.R_after (ok := (fun k_ => some k_ ≠ (.slice Ao57 y539.length co57 : Value).ownBlock)) (kr_ HO_6.out) hg hat)
                               have n1_ := Aside0.mk (Kd.R_after (ok := (fun k_ => some k_ ≠ (.slice (some ad507) y504.length co15 : Value).ownBlock)) (kr_ HO541.out) hg hat)
                               have n2_ := Aside0.mk (hb)
                               have n3_ := Aside0.mk (ho)
                               clear HO_6 HO541 HB HO548
                               have HO_6 := n0_; have HO541 := n1_; have HB := n2_; have HO551 := n3_
                               clear n0_ n1_ n2_ n3_ ho hb hg hat
                               refine hK.out _ _ ?_
                               clear hK K
                               refine nr_ 59 ?_
                               refine pu_ 11 (some 5) (tf_ 12 0) HT_ ?_
                               refine done_ (done_of HT_.out (by kernel_rfl)) ?_
                               try go_wp2
                               go_roundg k2
                               case measure => have := HK1.out; have := HK2.out; omega
                               case rel => exact ⟨(y549), (wrap64 (x7_1 + 1)), sm_, H', ⟨by have := HK1.out; have := HK2.out; omega⟩, ⟨kr_ (Kd.R_mono HO551.out (fun _ hk => hk.1))⟩, ⟨kr_ (Kd.R_mono HO_6.out (fun _ hk => hk.2))⟩, ⟨by repeat (first | (with_reducible first | exact HB.out | apply below_alloc | apply pw_below_drewN | apply below_drew1) | exact HB.out)⟩⟩
                             · rw [if_neg c47] at H
                               exact absurd H (by simp)
                           · rw [if_neg c46] at H
                             exact absurd H (by simp)
                         · rw [if_neg c45] at H
                           exact absurd H (by simp)
                       · rw [if_neg c44] at H
                         exact absurd H (by simp)
                     · rw [if_neg c42] at H
                       exact absurd H (by simp)
                   · rw [if_neg c41] at H
                     exact absurd H (by simp)
                 · rw [if_neg c40] at H
                   exact absurd H (by simp)
         · rw [if_neg c10] at H
           exact absurd H (by simp)
       · rw [if_neg c9] at H
         have c9b0 : decide (x7_1 < (y504.length : Int)) = false := decide_eq_false c9
         clear c9
         obtain rfl := Option.some.inj H
         obtain ⟨Ao58, co58, eo58⟩ := Kd.R_slice HO_6.out
         subst eo58
         go_wp2
         go_ret
         exact ⟨_, by first | rfl | (simp [errW_none, errW_some] <;> rfl) | (simp [*, errW_none, errW_some] <;> rfl), by (with_reducible repeat (first | apply Kd.R_alloc | apply Kd.R_drewN | apply Kd.R_drew)); exact Kd.R_mono HO_5.out (fun _ hk => trivial), by repeat (first | (with_reducible first | exact HB.out | apply below_alloc | apply pw_below_drewN | apply below_drew1) | exact HB.out)⟩
   · rw [if_neg c4] at H
     exact absurd H (by simp)
 · rw [if_neg c3] at H
   exact absurd H (by simp)
end Go.Proofs.Ytnjeeedndnfglaa.X
end
section
namespace Go.Proofs.Ytnjeeedndnfglaa.Strs
open Go.RowKit Go.Proofs.YtnjeeedndnfglaaW.PrintWords Go.Proofs.YtnjeeedndnfglaaW.PrintLast Go.Proofs.YtnjeeedndnfglaaW.PrintMore Go.Proofs.Ytnjeeedndnfglaa.X
set_option linter.unusedSimpArgs false
set_option linter.unusedVariables false
end Go.Proofs.Ytnjeeedndnfglaa.Strs
end
section
namespace Go.Proofs.Ytnjeeedndnfglaa.X
open Go.RowKit Go.Proofs.YtnjeeedndnfglaaW.PrintWords Go.Proofs.YtnjeeedndnfglaaW.PrintLast Go.Proofs.YtnjeeedndnfglaaW.PrintMore
attribute [local go_sem] max2_int min2_int max_two min_two max_three min_three max_four min_four   -- for this text's walks alone
set_option linter.unusedVariables false
set_option linter.unusedSimpArgs false
mutual
def althingref05_Keys.l0 : Nat → List ByteArray → Int → Int → Int → Int → Int → Int → Int → List (S38) → List (S40) → Bool → Option (List ByteArray)
 | 0, _, _, _, _, _, _, _, _, _, _, _ => none
 | k + 1, x3, x4, x553000, x553001, x553002, x553003, x553004, x553005, x553006, x553007, x553008 => if x4 < (x553006.length : Int) then (if 0 ≤ x4 then (if x3.length < 8796093022208 then (althingref05_Keys.l0 k (x3 ++ [(rd_T38 x553006 x4).f0]) (wrap64 (x4 + 1)) x553000 x553001 x553002 x553003 x553004 x553005 x553006 x553007 x553008) else (none)) else (none)) else (althingref05_Keys.l1 k x3 0 x553000 x553001 x553002 x553003 x553004 x553005 x553006 x553007 x553008)
def althingref05_Keys.l1 : Nat → List ByteArray → Int → Int → Int → Int → Int → Int → Int → List (S38) → List (S40) → Bool → Option (List ByteArray)
 | 0, _, _, _, _, _, _, _, _, _, _, _ => none
 | k + 1, x3, x5, x553000, x553001, x553002, x553003, x553004, x553005, x553006, x553007, x553008 => if x5 < (x553007.length : Int) then (if 0 ≤ x5 then (if x3.length < 8796093022208 then (althingref05_Keys.l1 k (x3 ++ [(rd_T40 x553007 x5).f0]) (wrap64 (x5 + 1)) x553000 x553001 x553002 x553003 x553004 x553005 x553006 x553007 x553008) else (none)) else (none)) else ((althingref04_Join.f k x3 ([] : List ByteArray)).bind fun t561 => (some t561))
end
def althingref05_Keys.f (k : Nat) (a0_0 : Int) (a0_1 : Int) (a0_2 : Int) (a0_3 : Int) (a0_4 : Int) (a0_5 : Int) (l0_6 : List (S38)) (l0_7 : List (S40)) (a0_8 : Bool) : Option (List ByteArray) := althingref05_Keys.l0 k ([] : List ByteArray) 0 a0_0 a0_1 a0_2 a0_3 a0_4 a0_5 l0_6 l0_7 a0_8
set_option maxHeartbeats 40000000 in
set_option maxRecDepth 100000 in
theorem althingref05_Keys.calls (k : Nat) (a0_0 : Int) (a0_1 : Int) (a0_2 : Int) (a0_3 : Int) (a0_4 : Int) (a0_5 : Int) (A0_6 : Option Addr) (c0_6 : Nat) (l0_6 : List (S38)) (A0_7 : Option Addr) (c0_7 : Nat) (l0_7 : List (S40)) (a0_8 : Bool) (r : List ByteArray) (w : World) (hr0_6 : Kd.C k38 w A0_6 l0_6.length l0_6) (hc0_6 : l0_6.length ≤ c0_6) (hr0_7 : Kd.C k40 w A0_7 l0_7.length l0_7) (hc0_7 : l0_7.length ≤ c0_7) (h : althingref05_Keys.f k a0_0 a0_1 a0_2 a0_3 a0_4 a0_5 l0_6 l0_7 a0_8 = some r) :
 Calls Try.prog 18 #[.agg #[.int .i64 a0_0, .int .i64 a0_1, .int .i64 a0_2, .int .i64 a0_3, .int .i64 a0_4, .int .i64 a0_5, .slice A0_6 l0_6.length c0_6, .slice A0_7 l0_7.length c0_7, .bool a0_8]] w fun e w' => ∃ v0_ : Value, e = .returned (v0_) ∧ Kd.R Kd.string 9 w' w.heap.size (fun _ => True) v0_ r ∧ Below w.heap.size w w' := by
 have hu29 := Try.underlying29
 have HR0_6 := Aside0.mk hr0_6
 have HC0_6 := Aside0.mk hc0_6
 clear hr0_6 hc0_6
 have HR0_7 := Aside0.mk hr0_7
 have HC0_7 := Aside0.mk hc0_7
 clear hr0_7 hc0_7
 have HB := Aside0.mk (Below.refl w.heap.size w)
 have H : (althingref05_Keys.l0 k ([] : List ByteArray) 0 a0_0 a0_1 a0_2 a0_3 a0_4 a0_5 l0_6 l0_7 a0_8) = some r := h
 clear h
 have H' := Aside0.mk H
 clear H
 go_enter Try.func18, Try.ntmps18
 go_wp2_with (first | ((with_reducible refine gate_dst (N := 1) rfl ?_); refine bx_ 1 29 #[.int .i64 a0_0, .int .i64 a0_1, .int .i64 a0_2, .int .i64 a0_3, .int .i64 a0_4, .int .i64 a0_5, .slice A0_6 l0_6.length c0_6, .slice A0_7 l0_7.length c0_7, .bool a0_8] ?_; intro gb552 hg w2 hbox hb; have BK552 := Aside0.mk hbox; have GE552 := ge_ HB hg; replace HB := hs_ HB hb; clear hb hbox hg))
 go_loopg [3, 4] k (fun kq v3 v4 w' => ∃ (x3_1 : List ByteArray) (x4_1 : Int), v4 = .int .i64 x4_1 ∧ Aside0 (althingref05_Keys.l0 kq x3_1 x4_1 a0_0 a0_1 a0_2 a0_3 a0_4 a0_5 l0_6 l0_7 a0_8 = some r) ∧ Aside0 (kq ≤ k) ∧ Aside0 (Kd.R Kd.string 9 w' w.heap.size (fun _ => True) v3 x3_1) ∧ Aside0 (w'.heap[gb552]? = some (.cells #[.int .i64 a0_0, .int .i64 a0_1, .int .i64 a0_2, .int .i64 a0_3, .int .i64 a0_4, .int .i64 a0_5, (.slice A0_6 l0_6.length c0_6), (.slice A0_7 l0_7.length c0_7), .bool a0_8] 29 (0, 0))) ∧ Aside0 (Below w.heap.size w w'))
 case atStart => exact ⟨(([] : List ByteArray)), (0), sm_, H', ⟨Nat.le_refl _⟩, ⟨by first | exact Kd.R_nil _ _ _ _ _ | exact Kd.N_nil _ _ _ _ _ | exact Kd.V_nil _ _ _ _ _ | exact Kd.Q_nil _ _ _ _ _ | exact Kd.S_nil _ _ _ _ _⟩, ⟨by (with_reducible repeat (first | refine blk_drewN ?_ _ | refine blk_drew ?_ | refine blk_alloc ?_ _)); exact BK552.out⟩, ⟨by repeat (first | (with_reducible first | exact HB.out | apply below_alloc | apply pw_below_drewN | apply below_drew1 | refine below_set ?_ GE552.out) | exact HB.out)⟩⟩
 case round =>
  clear H'
  try clear c1
  try clear p2
  (try clear BK552)
  obtain ⟨x3_1, x4_1, rfl, HA, HK1, HO_3, BK552, HB⟩ := hrel
  cases gk with
  | zero => exact absurd HA.out (by simp [althingref05_Keys.l0])
  | succ k1 =>
   have H := HA.out
   clear HA
   simp only [althingref05_Keys.l0] at H
   by_cases c3 : x4_1 < (l0_6.length : Int)
   · rw [if_pos c3] at H
     have c3b0 : decide (x4_1 < (l0_6.length : Int)) = true := decide_eq_true c3
     clear c3
     by_cases c4 : 0 ≤ x4_1
     · rw [if_pos c4] at H
       have c4b0 : decide (0 ≤ x4_1) = true := decide_eq_true c4
       clear c4
       by_cases c5 : x3_1.length < 8796093022208
       · rw [if_pos c5] at H
         have LMc5 := Aside0.mk c5
         clear c5
         obtain ⟨y554, hy554⟩ : ∃ y_ : List ByteArray, y_ = (x3_1 ++ [(rd_T38 l0_6 x4_1).f0]) := ⟨_, rfl⟩
         replace H : (althingref05_Keys.l0 k1 y554 (wrap64 (x4_1 + 1)) a0_0 a0_1 a0_2 a0_3 a0_4 a0_5 l0_6 l0_7 a0_8) = some r := by first | (rw [hy554]; with_reducible exact H) | (have H2_ := (Option.bind_some _ _).symm.trans H; rw [hy554]; with_reducible exact H2_) | (have H2_ := (Option.bind_some _ _).symm.trans H; with_reducible exact H2_) | with_reducible exact H | (rw [hy554]; exact H) | exact H
         have Ny554 := Aside0.mk hy554
         clear hy554
         have H' := Aside0.mk H
         clear H
         refine blk9_ BK552.out fun hcz6_0 hcz6_1 hcz6_2 hcz6_3 hcz6_4 hcz6_5 hcz6_6 hcz6_7 hcz6_8 hfz6_0 hfz6_1 hfz6_2 hfz6_3 hfz6_4 hfz6_5 hfz6_6 hfz6_7 hfz6_8 => ?_
         have p553 : 0 ≤ (x4_1 : Int) := of_decide_eq_true (by first | (with_reducible assumption) | assumption)
         have q553 : x4_1 < (l0_6.length : Int) := of_decide_eq_true (by first | (with_reducible assumption) | assumption)
         obtain ⟨ad553, e553, hx553_0, hx553_1, hx553_2⟩ := at_T38 HR0_6.out x4_1 p553 q553
         cases e553
         replace hx553_0 := (HB.out.cell (World.block_lt_of_cell? w _ hx553_0)).trans hx553_0
         replace hx553_1 := (HB.out.cell (World.block_lt_of_cell? w _ hx553_1)).trans hx553_1
         replace hx553_2 := (HB.out.cell (World.block_lt_of_cell? w _ hx553_2)).trans hx553_2
         replace p553 := eq_true p553
         replace q553 := eq_true q553
         go_wp2_with (first | ((with_reducible refine gate_builtin (b := .append) (xs := #[.tmp 13, .tmp 20]) rfl ?_); at_builtin; refine Kd.R_append Kd.string (w0 := w) w.heap.size rfl (.tmp 13) (.tmp 20) 45 9 (.string ⟨#[]⟩) 16 rfl Try.underlying45 info9 rfl (by decide) (by omega) u3 x3_1 ((rd_T38 l0_6 x4_1).f0) [.string ((rd_T38 l0_6 x4_1).f0)] (fun _ => True) (fun _ => False) rfl rfl ?aP (fun _ hk => hk.elim) ?aF ?aO ?aB ?aS ?aL ?_; (case aP => exact rfl); (case aB => exact lbt_); (case aF => exact (fun _ _ => trivial)); (case aO => exact (kr_ HO_3.out)); (case aS => exact (below_size lbt_)); (case aL => have := LMc5.out; omega); intro v555 w7 ho hb hg hat; rw [← Ny554.out] at ho; have n0_ := Aside0.mk (blk_grown (kb_ BK552.out) hg (Kd.R_ne HO_3.out BK552.out (by decide))); have n1_ := Aside0.mk (hb); have n2_ := Aside0.mk (ho); clear BK552 HB HO_3; have BK552 := n0_; have HB := n1_; have HO556 := n2_; clear n0_ n1_ n2_ ho hb hg hat))
         go_roundg k1
         case measure => have := HK1.out; omega
         case rel => exact ⟨(y554), (wrap64 (x4_1 + 1)), sm_, H', ⟨by have := HK1.out; omega⟩, ⟨kr_ HO556.out⟩, ⟨by (with_reducible repeat (first | refine blk_drewN ?_ _ | refine blk_drew ?_ | refine blk_alloc ?_ _)); exact BK552.out⟩, ⟨by repeat (first | (with_reducible first | exact HB.out | apply below_alloc | apply pw_below_drewN | apply below_drew1 | refine below_set ?_ GE552.out) | exact HB.out)⟩⟩
       · rw [if_neg c5] at H
         exact absurd H (by simp)
     · rw [if_neg c4] at H
       exact absurd H (by simp)
   · rw [if_neg c3] at H
     have c3b0 : decide (x4_1 < (l0_6.length : Int)) = false := decide_eq_false c3
     clear c3
     have H' := Aside0.mk H
     clear H
     refine blk9_ BK552.out fun hcz8_0 hcz8_1 hcz8_2 hcz8_3 hcz8_4 hcz8_5 hcz8_6 hcz8_7 hcz8_8 hfz8_0 hfz8_1 hfz8_2 hfz8_3 hfz8_4 hfz8_5 hfz8_6 hfz8_7 hfz8_8 => ?_
     go_wp2
     go_loopg [3, 5] k1 (fun kq v3 v5 w' => ∃ (x3_2 : List ByteArray) (x5_2 : Int), v5 = .int .i64 x5_2 ∧ Aside0 (althingref05_Keys.l1 kq x3_2 x5_2 a0_0 a0_1 a0_2 a0_3 a0_4 a0_5 l0_6 l0_7 a0_8 = some r) ∧ Aside0 (kq ≤ k1) ∧ Aside0 (Kd.R Kd.string 9 w' w.heap.size (fun _ => True) v3 x3_2) ∧ Aside0 (w'.heap[gb552]? = some (.cells #[.int .i64 a0_0, .int .i64 a0_1, .int .i64 a0_2, .int .i64 a0_3, .int .i64 a0_4, .int .i64 a0_5, (.slice A0_6 l0_6.length c0_6), (.slice A0_7 l0_7.length c0_7), .bool a0_8] 29 (0, 0))) ∧ Aside0 (Below w.heap.size w w'))
     case atStart => exact ⟨(x3_1), (0), sm_, H', ⟨Nat.le_refl _⟩, ⟨kr_ HO_3.out⟩, ⟨by (with_reducible repeat (first | refine blk_drewN ?_ _ | refine blk_drew ?_ | refine blk_alloc ?_ _)); exact BK552.out⟩, ⟨by repeat (first | (with_reducible first | exact HB.out | apply below_alloc | apply pw_below_drewN | apply below_drew1 | refine below_set ?_ GE552.out) | exact HB.out)⟩⟩
     case round =>
      clear H'
      try clear c1
      try clear p2
      try clear c3
      try clear c3b0
      try clear c4
      try clear c4b0
      try clear c5
      try clear p5
      try clear q5
      try clear hx5
      try clear p6
      try clear hcz6_0 hcz6_1 hcz6_2 hcz6_3 hcz6_4 hcz6_5 hcz6_6 hcz6_7 hcz6_8
      try clear hcz8_0 hcz8_1 hcz8_2 hcz8_3 hcz8_4 hcz8_5 hcz8_6 hcz8_7 hcz8_8
      try clear hfz6_0 hfz6_1 hfz6_2 hfz6_3 hfz6_4 hfz6_5 hfz6_6 hfz6_7 hfz6_8
      try clear hfz8_0 hfz8_1 hfz8_2 hfz8_3 hfz8_4 hfz8_5 hfz8_6 hfz8_7 hfz8_8
      try clear hx553_0
      try clear hx553_1
      try clear hx553_2
      try clear p2
      try clear p553
      try clear q553
      (try clear BK552)
      obtain ⟨x3_2, x5_2, rfl, HA, HK2, HO_3, BK552, HB⟩ := hrel
      cases gk with
      | zero => exact absurd HA.out (by simp [althingref05_Keys.l1])
      | succ k2 =>
       have H := HA.out
       clear HA
       simp only [althingref05_Keys.l1] at H
       by_cases c9 : x5_2 < (l0_7.length : Int)
       · rw [if_pos c9] at H
         have c9b0 : decide (x5_2 < (l0_7.length : Int)) = true := decide_eq_true c9
         clear c9
         by_cases c10 : 0 ≤ x5_2
         · rw [if_pos c10] at H
           have c10b0 : decide (0 ≤ x5_2) = true := decide_eq_true c10
           clear c10
           by_cases c11 : x3_2.length < 8796093022208
           · rw [if_pos c11] at H
             have LMc11 := Aside0.mk c11
             clear c11
             obtain ⟨y558, hy558⟩ : ∃ y_ : List ByteArray, y_ = (x3_2 ++ [(rd_T40 l0_7 x5_2).f0]) := ⟨_, rfl⟩
             replace H : (althingref05_Keys.l1 k2 y558 (wrap64 (x5_2 + 1)) a0_0 a0_1 a0_2 a0_3 a0_4 a0_5 l0_6 l0_7 a0_8) = some r := by first | (rw [hy558]; with_reducible exact H) | (have H2_ := (Option.bind_some _ _).symm.trans H; rw [hy558]; with_reducible exact H2_) | (have H2_ := (Option.bind_some _ _).symm.trans H; with_reducible exact H2_) | with_reducible exact H | (rw [hy558]; exact H) | exact H
             have Ny558 := Aside0.mk hy558
             clear hy558
             have H' := Aside0.mk H
             clear H
             refine blk9_ BK552.out fun hcz12_0 hcz12_1 hcz12_2 hcz12_3 hcz12_4 hcz12_5 hcz12_6 hcz12_7 hcz12_8 hfz12_0 hfz12_1 hfz12_2 hfz12_3 hfz12_4 hfz12_5 hfz12_6 hfz12_7 hfz12_8 => ?_
             have p557 : 0 ≤ (x5_2 : Int) := of_decide_eq_true (by first | (with_reducible assumption) | assumption)
             have q557 : x5_2 < (l0_7.length : Int) := of_decide_eq_true (by first | (with_reducible assumption) | assumption)
             obtain ⟨ad557, e557, hx557_0, hx557_1⟩ := at_T40 HR0_7.out x5_2 p557 q557
             cases e557
             replace hx557_0 := (HB.out.cell (World.block_lt_of_cell? w _ hx557_0)).trans hx557_0
             replace hx557_1 := (HB.out.cell (World.block_lt_of_cell? w _ hx557_1)).trans hx557_1
             replace p557 := eq_true p557
             replace q557 := eq_true q557
             go_wp2_with (first | ((with_reducible refine gate_builtin (b := .append) (xs := #[.tmp 29, .tmp 36]) rfl ?_); at_builtin; refine Kd.R_append Kd.string (w0 := w) w.heap.size rfl (.tmp 29) (.tmp 36) 45 9 (.string ⟨#[]⟩) 16 rfl Try.underlying45 info9 rfl (by decide) (by omega) u3 x3_2 ((rd_T40 l0_7 x5_2).f0) [.string ((rd_T40 l0_7 x5_2).f0)] (fun _ => True) (fun _ => False) rfl rfl ?aP (fun _ hk => hk.elim) ?aF ?aO ?aB ?aS ?aL ?_; (case aP => exact rfl); (case aB => exact lbt_); (case aF => exact (fun _ _ => trivial)); (case aO => exact (kr_ HO_3.out)); (case aS => exact (below_size lbt_)); (case aL => have := LMc11.out; omega); intro v559 w13 ho hb hg hat; rw [← Ny558.out] at ho; have n0_ := Aside0.mk (blk_grown (kb_ BK552.out) hg (Kd.R_ne HO_3.out BK552.out (by decide))); have n1_ := Aside0.mk (hb); have n2_ := Aside0.mk (ho); clear BK552 HB HO_3; have BK552 := n0_; have HB := n1_; have HO560 := n2_; clear n0_ n1_ n2_ ho hb hg hat))
             go_roundg k2
             case measure => have := HK1.out; have := HK2.out; omega
             case rel => exact ⟨(y558), (wrap64 (x5_2 + 1)), sm_, H', ⟨by have := HK1.out; have := HK2.out; omega⟩, ⟨kr_ HO560.out⟩, ⟨by (with_reducible repeat (first | refine blk_drewN ?_ _ | refine blk_drew ?_ | refine blk_alloc ?_ _)); exact BK552.out⟩, ⟨by repeat (first | (with_reducible first | exact HB.out | apply below_alloc | apply pw_below_drewN | apply below_drew1 | refine below_set ?_ GE552.out) | exact HB.out)⟩⟩
           · rw [if_neg c11] at H
             exact absurd H (by simp)
         · rw [if_neg c10] at H
           exact absurd H (by simp)
       · rw [if_neg c9] at H
         have c9b0 : decide (x5_2 < (l0_7.length : Int)) = false := decide_eq_false c9
         clear c9
         obtain ⟨t561, A14, H⟩ := bs_ H
         obtain rfl := Option.some.inj H
         refine blk9_ BK552.out fun hcz15_0 hcz15_1 hcz15_2 hcz15_3 hcz15_4 hcz15_5 hcz15_6 hcz15_7 hcz15_8 hfz15_0 hfz15_1 hfz15_2 hfz15_3 hfz15_4 hfz15_5 hfz15_6 hfz15_7 hfz15_8 => ?_
         obtain ⟨Ao16, co16, eo16⟩ := Kd.R_slice HO_3.out
         subst eo16
         go_wp2_with (first | ((with_reducible refine gate_callee (f := 20) rfl ?_); refine gl_ (some 39) Try.func20 #[.slice Ao16 x3_2.length co16, .slice none 0 0] ?_; (refine (althingref04_Join.calls k2 _ _ x3_2 _ _ ([] : List ByteArray) t561 _ ?side1 ?side2 ?side3 ?side4 A14.out).mono ?_); (case side1 => repeat (first | exact (Kd.R_reads' HO_3.out).2.2 | (with_reducible refine Kd.C_alloc ?_ _) | (with_reducible refine Kd.C_drewN ?_ _) | (with_reducible refine Kd.C_drew ?_))); (case side2 => exact (Kd.R_reads' HO_3.out).2.1); (case side3 => exact Kd.C_nil _ _); (case side4 => exact Nat.le_refl _); rintro e w17 ⟨v562, rfl, ho0, hb⟩; refine ⟨_, rfl, ?_⟩; have HO563 := Aside0.mk (Kd.R_lower (Kd.R_new' ho0 (Kd.R_lt (kr_ HO_3.out))) (below_size lbt_)); replace HO_3 := Aside0.mk (Kd.R_elder' (kr_ HO_3.out) (Kd.R_base ho0) hb); replace BK552 := bb_ BK552 hb; replace HB := hs_ HB hb; (try clear hb); (try clear ho0)))
         go_ret
         exact ⟨_, by first | rfl | (simp [errW_none, errW_some] <;> rfl) | (simp [*, errW_none, errW_some] <;> rfl), by (with_reducible repeat (first | apply Kd.R_alloc | apply Kd.R_drewN | apply Kd.R_drew)); exact Kd.R_mono HO563.out (fun _ hk => trivial), by repeat (first | (with_reducible first | exact HB.out | apply below_alloc | apply pw_below_drewN | apply below_drew1 | refine below_set ?_ GE552.out) | exact HB.out)⟩
end Go.Proofs.Ytnjeeedndnfglaa.X
end
section
namespace Go.Proofs.Ytnjeeedndnfglaa.Strs
open Go.RowKit Go.Proofs.Ytnjeeedndnfglaa.Keys Go.Proofs.YtnjeeedndnfglaaW.PrintWords Go.Proofs.YtnjeeedndnfglaaW.PrintLast Go.Proofs.YtnjeeedndnfglaaW.PrintMore Go.Proofs.Ytnjeeedndnfglaa.X
set_option linter.unusedSimpArgs false
set_option linter.unusedVariables false
theorem ref02_RightTxn_val (b c : Int) : althingref02_RightTxn.f b c = some (txnB b c) := by
  unfold althingref02_RightTxn.f txnB
  by_cases h1 : b ≥ 0 <;> by_cases h2 : b ≤ 3 <;> by_cases h3 : c ≥ 1 <;> by_cases h4 : c ≤ 1099511627776 <;> simp [h1, h2, h3, h4] <;> omega
theorem ref02_RightStamp_val (t c : Int) : althingref02_RightStamp.f t c = some (stampB t c) := by
  unfold althingref02_RightStamp.f stampB
  by_cases h1 : t ≥ 0 <;> by_cases h2 : t ≤ 1099511627776 <;> by_cases h3 : c ≥ 0 <;> by_cases h4 : c ≤ 3 <;> simp [h1, h2, h3, h4] <;> omega
theorem ref02_Before_val (a b c d : Int) : althingref02_Before.f a b c d = some (decide (ordI a b c d < 0)) := by
  unfold althingref02_Before.f althingref02_Order.f ordI
  by_cases h1 : a < c
  · simp [h1]
  · by_cases h2 : a > c
    · simp [h1, h2, show ¬ a = c by omega]
    · have h3 : a = c := by omega
      subst h3
      by_cases h4 : b < d
      · simp [h4]
      · by_cases h5 : b > d
        · simp [h4, h5, show ¬ b = d by omega]
        · simp [h4, h5, show b = d by omega]
section
variable (a b c d e s : Int) (r : List Rd) (w : List Wr) (m : Bool)
theorem rrt_l1 (h : small r w) : ∀ dd i, i + dd = w.length → Ev (fun k => althingref05_Right.l1 k (rk r) (wk (w.take i)) (i : Int) a b c d e s r w m) ((w.drop i).all (fun x => decide (x.f1.size ≤ 8)) && (rightsB (rk r) && rightsB (wk w)))
  | 0, i, hi => by
    refine Ev.step (f := fun k => (althingref04_Rights.f k (rk r)).bind fun t => if t = true then (althingref04_Rights.f k (wk (w.take i))).bind fun t => some t else some false) (fun k => ?_) ?_
    · simp only [althingref05_Right.l1]; rw [if_neg (by omega)]
    · rw [show i = w.length by omega, List.take_length, List.drop_length, List.all_nil, Bool.true_and]
      have hq := rrights_is (rk r) (by have := (rk_few h).1; omega) (fun x hx => by have := (rk_few h).2 x hx; omega)
      cases hR : rightsB (rk r) with
      | false => exact Ev.bindF (hR ▸ hq) (Ev.const rfl)
      | true => exact Ev.bindT (hR ▸ hq) (Ev.bind (rrights_is (wk w) (by have := (wk_few h).1; omega) (fun x hx => by have := (wk_few h).2 x hx; omega)) (Ev.const (by rw [Bool.true_and])))
  | dd + 1, i, hi => by
    have hil : i < w.length := by omega
    have hw := h.2.1
    rw [List.drop_eq_getElem_cons hil, List.all_cons]
    by_cases h8 : w[i].f1.size ≤ 8
    · rw [decide_eq_true h8, Bool.true_and]
      refine Ev.step (fun k => ?_) (rrt_l1 h dd (i + 1) (by omega))
      simp only [althingref05_Right.l1]
      rw [if_pos (by omega), if_pos (by omega), rdW w i hil, if_neg (by omega), if_pos (by unfold wk; rw [List.length_map, List.length_take]; omega), w1 i (by omega), List.take_succ_eq_append_getElem hil]
      unfold wk
      rw [List.map_append]; rfl
    · rw [decide_eq_false h8, Bool.false_and, Bool.false_and]
      refine Ev.step (f := fun _ => some false) (fun k => ?_) (Ev.const rfl)
      simp only [althingref05_Right.l1]
      rw [if_pos (by omega), if_pos (by omega), rdW w i hil, if_pos (by omega)]
theorem rrt_l0 (h : small r w) : ∀ dd i, i + dd = r.length → Ev (fun k => althingref05_Right.l0 k (rk (r.take i)) (i : Int) a b c d e s r w m) ((r.drop i).all (oldB d e) && (w.all (fun x => decide (x.f1.size ≤ 8)) && (rightsB (rk r) && rightsB (wk w))))
  | 0, i, hi => by
    have hq := rrt_l1 a b c d e s r w m h w.length 0 (by omega)
    rw [show i = r.length by omega, List.take_length, List.drop_length, List.all_nil, Bool.true_and]
    refine Ev.step (fun k => ?_) (by simpa using hq)
    simp only [althingref05_Right.l0]
    rw [if_neg (by omega)]; rfl
  | dd + 1, i, hi => by
    have hil : i < r.length := by omega
    have hr := h.1
    rw [List.drop_eq_getElem_cons hil, List.all_cons]
    cases ho : oldB d e r[i] with
    | true =>
      have ho' := ho
      unfold oldB at ho'
      rw [Bool.and_eq_true] at ho'
      rw [Bool.true_and]
      refine Ev.step (fun k => ?_) (rrt_l0 h dd (i + 1) (by omega))
      simp only [althingref05_Right.l0]
      rw [if_pos (by omega), if_pos (by omega), rdR r i hil, ref02_RightStamp_val, Option.bind_some, ho'.1, if_pos rfl, ref02_Before_val, Option.bind_some, ho'.2, if_pos rfl, if_pos (by unfold rk; rw [List.length_map, List.length_take]; omega), w1 i (by omega), List.take_succ_eq_append_getElem hil]
      unfold rk
      rw [List.map_append]; rfl
    | false =>
      have ho' := ho
      unfold oldB at ho'
      rw [Bool.false_and]
      refine Ev.step (f := fun _ => some false) (fun k => ?_) (Ev.const rfl)
      simp only [althingref05_Right.l0]
      rw [if_pos (by omega), if_pos (by omega), rdR r i hil, ref02_RightStamp_val, Option.bind_some]
      cases h1 : stampB r[i].f1.f0 r[i].f1.f1 with
      | false => rw [if_neg (by simp)]
      | true =>
        rw [h1, Bool.true_and] at ho'
        rw [if_pos rfl, ref02_Before_val, Option.bind_some, ho', if_neg (by simp)]
theorem rrt_tail (h : small r w) : Ev (fun k => althingref05_Right.l0 k [] 0 a b c d e s r w m) (tailB d e r w) := by
  unfold tailB
  rw [all_okR, all_okW]
  simpa [show rk [] = [] from rfl] using rrt_l0 a b c d e s r w m h r.length 0 (by omega)
theorem rright_j2 (h : small r w) (x : Bool) : Ev (fun k => althingref05_Right.j2 k x a b c d e s r w m) (!x && tailB d e r w) := by
  cases x with
  | true =>
    refine Ev.step (f := fun _ => some false) (fun k => ?_) (Ev.const (by simp))
    simp only [althingref05_Right.j2]; rw [if_pos trivial]
  | false =>
    refine Ev.step (fun k => ?_) (by simpa using rrt_tail a b c d e s r w m h)
    simp only [althingref05_Right.j2]; rw [if_neg (by simp)]
theorem rright_j1 (h : small r w) (x : Bool) : Ev (fun k => althingref05_Right.j1 k x a b c d e s r w m) (!x && (decide (1 ≤ s) && decide (s ≤ 15) && decide (r.length + w.length ≠ 0)) && tailB d e r w) := by
  cases x with
  | true =>
    refine Ev.step (f := fun _ => some false) (fun k => ?_) (Ev.const (by simp))
    simp only [althingref05_Right.j1]; rw [if_pos trivial]
  | false =>
    by_cases h1 : s ≤ 0
    · refine Ev.step (fun k => ?_) (by simpa [show ¬ 1 ≤ s by omega] using rright_j2 a b c d e s r w m h true)
      simp only [althingref05_Right.j1]; rw [if_neg (by simp), if_pos h1]
    · by_cases h2 : s ≥ 16
      · refine Ev.step (fun k => ?_) (by simpa [show ¬ s ≤ 15 by omega] using rright_j2 a b c d e s r w m h true)
        simp only [althingref05_Right.j1]; rw [if_neg (by simp), if_neg h1, if_pos h2]
      · by_cases h3 : r.length = 0
        · have hq := rright_j2 a b c d e s r w m h ((w.length : Int) == 0)
          refine Ev.step (f := fun k => althingref05_Right.j2 k ((w.length : Int) == 0) a b c d e s r w m) (fun k => ?_) ?_
          · simp only [althingref05_Right.j1]; rw [if_neg (by simp), if_neg h1, if_neg h2, if_pos (by omega)]
          · have e : (!false && (decide (1 ≤ s) && decide (s ≤ 15) && decide (r.length + w.length ≠ 0)) && tailB d e r w) = (!((w.length : Int) == 0) && tailB d e r w) := by
              rw [decide_eq_true (show 1 ≤ s by omega), decide_eq_true (show s ≤ 15 by omega)]
              by_cases h4 : w.length = 0
              · simp [h3, h4]
              · have h5 : ((w.length : Int) == 0) = false := by simpa using h4
                rw [h5, decide_eq_true (show r.length + w.length ≠ 0 by omega)]; simp
            rw [e]; exact hq
        · refine Ev.step (fun k => ?_) (by simpa [show 1 ≤ s by omega, show s ≤ 15 by omega, h3] using rright_j2 a b c d e s r w m h false)
          simp only [althingref05_Right.j1]; rw [if_neg (by simp), if_neg h1, if_neg h2, if_neg (by omega)]
theorem rright_j0 (h : small r w) (x : Bool) : Ev (fun k => althingref05_Right.j0 k x a b c d e s r w m) (!x && (txnB b c && stampB d e && decide (1 ≤ d) && decide (e = b) && decide (1 ≤ s) && decide (s ≤ 15) && decide (r.length + w.length ≠ 0)) && tailB d e r w) := by
  cases x with
  | true =>
    refine Ev.step (f := fun _ => some false) (fun k => ?_) (Ev.const (by simp))
    simp only [althingref05_Right.j0]; rw [if_pos trivial]
  | false =>
    cases h1 : txnB b c with
    | false =>
      refine Ev.step (fun k => ?_) (by simpa using rright_j1 a b c d e s r w m h true)
      simp only [althingref05_Right.j0]; rw [if_neg (by simp), ref02_RightTxn_val, Option.bind_some, h1, if_neg (by simp)]
    | true =>
      cases h2 : stampB d e with
      | false =>
        refine Ev.step (fun k => ?_) (by simpa using rright_j1 a b c d e s r w m h true)
        simp only [althingref05_Right.j0]; rw [if_neg (by simp), ref02_RightTxn_val, Option.bind_some, h1, if_pos rfl, ref02_RightStamp_val, Option.bind_some, h2, if_neg (by simp)]
      | true =>
        have hd : 0 ≤ d := by
          unfold stampB at h2
          rw [Bool.and_eq_true, decide_eq_true_eq] at h2
          exact h2.1.1
        by_cases h3 : d = 0
        · refine Ev.step (fun k => ?_) (by simpa [show ¬ 1 ≤ d by omega] using rright_j1 a b c d e s r w m h true)
          simp only [althingref05_Right.j0]; rw [if_neg (by simp), ref02_RightTxn_val, Option.bind_some, h1, if_pos rfl, ref02_RightStamp_val, Option.bind_some, h2, if_pos rfl, if_pos h3]
        · have e1 : (!false && (true && true && decide (1 ≤ d) && decide (e = b) && decide (1 ≤ s) && decide (s ≤ 15) && decide (r.length + w.length ≠ 0)) && tailB d e r w) = (!(e != b) && (decide (1 ≤ s) && decide (s ≤ 15) && decide (r.length + w.length ≠ 0)) && tailB d e r w) := by
            rw [decide_eq_true (show 1 ≤ d by omega)]
            by_cases h4 : e = b <;> simp [h4, Bool.and_assoc]
          rw [e1]
          refine Ev.step (fun k => ?_) (rright_j1 a b c d e s r w m h (e != b))
          simp only [althingref05_Right.j0]; rw [if_neg (by simp), ref02_RightTxn_val, Option.bind_some, h1, if_pos rfl, ref02_RightStamp_val, Option.bind_some, h2, if_pos rfl, if_neg h3]
theorem rright_is (h : small r w) : Ev (fun k => althingref05_Right.f k a b c d e s r w m) (rightB a b c d e s r w m) := by
  unfold rightB althingref05_Right.f
  by_cases h0 : a = 0
  · simp only [h0, ↓reduceIte]
    unfold zeroB
    cases h1 : (b == 0 && (c == 0)) with
    | false => simp only [Bool.false_eq_true, ↓reduceIte, Bool.false_and]; exact Ev.const rfl
    | true =>
      cases h2 : (d == 0 && (e == 0)) with
      | false => simp only [Bool.false_eq_true, ↓reduceIte, Bool.false_and, Bool.and_false]; exact Ev.const rfl
      | true =>
        by_cases h3 : s = 0
        · cases r with
          | nil =>
            cases w with
            | nil => exact Ev.const (by cases m <;> simp [h3])
            | cons y l => exact Ev.const (by simp [h3]; omega)
          | cons y l => exact Ev.const (by simp [h3]; omega)
        · exact Ev.const (by simp [h3])
  · by_cases h1 : a = 1
    · simp only [h0, h1, ↓reduceIte, true_or, Int.reduceEq]
      have hq := rright_j0 1 b c d e s r w m h m
      have e1 : (preB 1 b c d e s r w m && tailB d e r w) = (!m && (txnB b c && stampB d e && decide (1 ≤ d) && decide (e = b) && decide (1 ≤ s) && decide (s ≤ 15) && decide (r.length + w.length ≠ 0)) && tailB d e r w) := by
        unfold preB; rw [show ((1 : Int) == 1) = true from rfl, Bool.and_true, Bool.and_comm _ (!m)]
      rw [e1]; exact hq
    · by_cases h2 : a = 2
      · simp only [h0, h1, h2, ↓reduceIte, or_true, Int.reduceEq]
        have hq := rright_j0 2 b c d e s r w m h false
        have e1 : (preB 2 b c d e s r w m && tailB d e r w) = (!false && (txnB b c && stampB d e && decide (1 ≤ d) && decide (e = b) && decide (1 ≤ s) && decide (s ≤ 15) && decide (r.length + w.length ≠ 0)) && tailB d e r w) := by
          unfold preB; simp
        rw [e1]; exact hq
      · simp only [h0, h1, h2, ↓reduceIte, or_self]
        simpa using rright_j0 a b c d e s r w m h true
end
end Go.Proofs.Ytnjeeedndnfglaa.Strs
end
section
namespace Go.Proofs.Ytnjeeedndnfglaa.X
open Go.RowKit Go.Proofs.YtnjeeedndnfglaaW.PrintWords Go.Proofs.YtnjeeedndnfglaaW.PrintLast Go.Proofs.YtnjeeedndnfglaaW.PrintMore
attribute [local go_sem] max2_int min2_int max_two min_two max_three min_three max_four min_four   -- for this text's walks alone
set_option linter.unusedVariables false
set_option linter.unusedSimpArgs false
def keys_Of.l0 : Nat → Int → Int → List ByteArray → List ByteArray → Int → Int → Option (List ByteArray)
 | 0, _, _, _, _, _, _ => none
 | k + 1, x1, x2, x7, x12, x13, x14 => if x14 < x13 then (if 0 ≤ x14 then (if x14 < (x12.length : Int) then ((keys_Shard.f (rdOf ByteArray.empty x12 x14) x2).bind fun bt492 => (if bt492.2 = 0 then (if bt492.1 = x1 then (if x7.length < 8796093022208 then (keys_Of.l0 k x1 x2 (x7 ++ [rdOf ByteArray.empty x12 x14]) x12 x13 (wrap64 (x14 + 1))) else (none)) else (keys_Of.l0 k x1 x2 x7 x12 x13 (wrap64 (x14 + 1)))) else (keys_Of.l0 k x1 x2 x7 x12 x13 (wrap64 (x14 + 1))))) else (none)) else (none)) else (some x7)
def keys_Of.f (k : Nat) (l0 : List ByteArray) (a1 : Int) (a2 : Int) : Option (List ByteArray) := keys_Of.l0 k a1 a2 ([] : List ByteArray) l0 (l0.length : Int) 0
set_option maxHeartbeats 40000000 in
set_option maxRecDepth 100000 in
theorem keys_Of.calls (k : Nat) (A0 : Option Addr) (c0 : Nat) (l0 : List ByteArray) (a1 : Int) (a2 : Int) (r : List ByteArray) (w : World) (hr0 : Kd.C Kd.string w A0 l0.length l0) (hc0 : l0.length ≤ c0) (h : keys_Of.f k l0 a1 a2 = some r) :
 Calls Try.prog 17 #[.slice A0 l0.length c0, .int .i64 a1, .int .i64 a2] w fun e w' => ∃ v0_ : Value, e = .returned (v0_) ∧ Kd.R Kd.string 9 w' w.heap.size (fun _ => True) v0_ r ∧ Below w.heap.size w w' := by
 have HR0 := Aside0.mk hr0
 have HC0 := Aside0.mk hc0
 clear hr0 hc0
 have HB := Aside0.mk (Below.refl w.heap.size w)
 have H : (keys_Of.l0 k a1 a2 ([] : List ByteArray) l0 (l0.length : Int) 0) = some r := h
 clear h
 have H' := Aside0.mk H
 clear H
 go_enter Try.func17, Try.ntmps17
 go_wp2
 go_loopg [7, 14] k (fun kq v7 v14 w' => ∃ (x7_1 : List ByteArray) (x14_1 : Int), v14 = .int .i64 x14_1 ∧ Aside0 (keys_Of.l0 kq a1 a2 x7_1 l0 (l0.length : Int) x14_1 = some r) ∧ Aside0 (kq ≤ k) ∧ Aside0 (Kd.R Kd.string 9 w' w.heap.size (fun _ => True) v7 x7_1) ∧ Aside0 (Below w.heap.size w w'))
 case atStart => exact ⟨(([] : List ByteArray)), (0), sm_, H', ⟨Nat.le_refl _⟩, ⟨by first | exact Kd.R_nil _ _ _ _ _ | exact Kd.N_nil _ _ _ _ _ | exact Kd.V_nil _ _ _ _ _ | exact Kd.Q_nil _ _ _ _ _ | exact Kd.S_nil _ _ _ _ _⟩, ⟨by repeat (first | (with_reducible first | exact HB.out | apply below_alloc | apply pw_below_drewN | apply below_drew1) | exact HB.out)⟩⟩
 case round =>
  clear H'
  try clear c1
  try clear p2
  obtain ⟨x7_1, x14_1, rfl, HA, HK1, HO_7, HB⟩ := hrel
  cases gk with
  | zero => exact absurd HA.out (by simp [keys_Of.l0])
  | succ k1 =>
   have H := HA.out
   clear HA
   simp only [keys_Of.l0] at H
   by_cases c4 : x14_1 < (l0.length : Int)
   · rw [if_pos c4] at H
     have c4b0 : decide (x14_1 < (l0.length : Int)) = true := decide_eq_true c4
     clear c4
     by_cases c5 : 0 ≤ x14_1
     · rw [if_pos c5] at H
       have c5b0 : decide (0 ≤ x14_1) = true := decide_eq_true c5
       clear c5
       by_cases c6 : x14_1 < (l0.length : Int)
       · rw [if_pos c6] at H
         have c6b0 : decide (x14_1 < (l0.length : Int)) = true := decide_eq_true c6
         clear c6
         replace H := Option.bind_eq_some_iff.mp H
         obtain ⟨⟨t492, t493⟩, A70, H⟩ := H
         replace H : (if t493 = 0 then (if t492 = a1 then (if x7_1.length < 8796093022208 then (keys_Of.l0 k1 a1 a2 (x7_1 ++ [rdOf ByteArray.empty l0 x14_1]) l0 (l0.length : Int) (wrap64 (x14_1 + 1))) else (none)) else (keys_Of.l0 k1 a1 a2 x7_1 l0 (l0.length : Int) (wrap64 (x14_1 + 1)))) else (keys_Of.l0 k1 a1 a2 x7_1 l0 (l0.length : Int) (wrap64 (x14_1 + 1)))) = some r := H
         have A7 := Aside0.mk A70
         clear A70
         by_cases c8 : t493 = 0
         · rw [if_pos c8] at H
           have c8b0 : (t493 == 0) = true := beq_iff_eq.mpr c8
           have c8b1 : (t493 != 0) = false := bne_eq_false_iff_eq.mpr c8
           clear c8
           by_cases c9 : t492 = a1
           · rw [if_pos c9] at H
             have c9b0 : (t492 == a1) = true := beq_iff_eq.mpr c9
             have c9b1 : (t492 != a1) = false := bne_eq_false_iff_eq.mpr c9
             clear c9
             by_cases c10 : x7_1.length < 8796093022208
             · rw [if_pos c10] at H
               have LMc10 := Aside0.mk c10
               clear c10
               obtain ⟨y494, hy494⟩ : ∃ y_ : List ByteArray, y_ = (x7_1 ++ [rdOf ByteArray.empty l0 x14_1]) := ⟨_, rfl⟩
               replace H : (keys_Of.l0 k1 a1 a2 y494 l0 (l0.length : Int) (wrap64 (x14_1 + 1))) = some r := by first | (rw [hy494]; with_reducible exact H) | (have H2_ := (Option.bind_some _ _).symm.trans H; rw [hy494]; with_reducible exact H2_) | (have H2_ := (Option.bind_some _ _).symm.trans H; with_reducible exact H2_) | with_reducible exact H | (rw [hy494]; exact H) | exact H
               have Ny494 := Aside0.mk hy494
               clear hy494
               have H' := Aside0.mk H
               clear H
               have p491 : 0 ≤ (x14_1 : Int) := of_decide_eq_true (by first | (with_reducible assumption) | assumption)
               have q491 : x14_1 < (l0.length : Int) := of_decide_eq_true (by first | (with_reducible assumption) | assumption)
               obtain ⟨ad491, e491, hx491_0⟩ := Kd.at_string HR0.out x14_1 p491 q491
               cases e491
               replace hx491_0 := (HB.out.cell (World.block_lt_of_cell? w _ hx491_0)).trans hx491_0
               replace p491 := eq_true p491
               replace q491 := eq_true q491
               go_wp2_with (first | ((with_reducible refine gate_callee (f := 35) rfl ?_); refine gl_ (some 21) Try.func35 #[.string (rdOf ByteArray.empty l0 x14_1), .int .i64 a2] ?_; (with_reducible refine (keys_Shard.calls (rdOf ByteArray.empty l0 x14_1) a2 t492 t493 _ A7.out).mono ?_); rintro e w11 ⟨rfl, hb⟩; refine ⟨_, rfl, ?_⟩; replace HO_7 := rb_ HO_7 hb; replace HB := hs_ HB hb; (try clear hb); (try clear hk); (try clear hi)) | ((with_reducible refine gate_builtin (b := .append) (xs := #[.tmp 31, .tmp 33]) rfl ?_); at_builtin; refine Kd.R_append Kd.string (w0 := w) w.heap.size rfl (.tmp 31) (.tmp 33) 45 9 (.string ⟨#[]⟩) 16 rfl Try.underlying45 info9 rfl (by decide) (by omega) u7 x7_1 (rdOf ByteArray.empty l0 x14_1) [.string (rdOf ByteArray.empty l0 x14_1)] (fun _ => True) (fun _ => False) rfl rfl ?aP (fun _ hk => hk.elim) ?aF ?aO ?aB ?aS ?aL ?_; (case aP => exact rfl); (case aB => exact lb_); (case aF => exact (fun _ _ => trivial)); (case aO => exact (kr_ HO_7.out)); (case aS => exact (below_size lb_)); (case aL => have := LMc10.out; omega); intro v495 w12 ho hb hg hat; rw [← Ny494.out] at ho; have n0_ := Aside0.mk (hb); have n1_ := Aside0.mk (ho); clear HB HO_7; have HB := n0_; have HO496 := n1_; clear n0_ n1_ ho hb hg hat))
               go_roundg k1
               case measure => have := HK1.out; omega
               case rel => exact ⟨(y494), (wrap64 (x14_1 + 1)), sm_, H', ⟨by have := HK1.out; omega⟩, ⟨kr_ HO496.out⟩, ⟨by repeat (first | (with_reducible first | exact HB.out | apply below_alloc | apply pw_below_drewN | apply below_drew1) | exact HB.out)⟩⟩
             · rw [if_neg c10] at H
               exact absurd H (by simp)
           · rw [if_neg c9] at H
             have c9b0 : (t492 == a1) = false := beq_eq_false_iff_ne.mpr c9
             have c9b1 : (t492 != a1) = true := bne_iff_ne.mpr c9
             have H' := Aside0.mk H
             clear H
             have p491 : 0 ≤ (x14_1 : Int) := of_decide_eq_true (by first | (with_reducible assumption) | assumption)
             have q491 : x14_1 < (l0.length : Int) := of_decide_eq_true (by first | (with_reducible assumption) | assumption)
             obtain ⟨ad491, e491, hx491_0⟩ := Kd.at_string HR0.out x14_1 p491 q491
             cases e491
             replace hx491_0 := (HB.out.cell (World.block_lt_of_cell? w _ hx491_0)).trans hx491_0
             replace p491 := eq_true p491
             replace q491 := eq_true q491
             go_wp2_with (first | ((with_reducible refine gate_callee (f := 35) rfl ?_); refine gl_ (some 21) Try.func35 #[.string (rdOf ByteArray.empty l0 x14_1), .int .i64 a2] ?_; (with_reducible refine (keys_Shard.calls (rdOf ByteArray.empty l0 x14_1) a2 t492 t493 _ A7.out).mono ?_); rintro e w13 ⟨rfl, hb⟩; refine ⟨_, rfl, ?_⟩; replace HO_7 := rb_ HO_7 hb; replace HB := hs_ HB hb; (try clear hb); (try clear hi)))
             go_roundg k1
             case measure => have := HK1.out; omega
             case rel => exact ⟨(x7_1), (wrap64 (x14_1 + 1)), sm_, H', ⟨by have := HK1.out; omega⟩, ⟨kr_ HO_7.out⟩, ⟨by repeat (first | (with_reducible first | exact HB.out | apply below_alloc | apply pw_below_drewN | apply below_drew1) | exact HB.out)⟩⟩
         · rw [if_neg c8] at H
           have c8b0 : (t493 == 0) = false := beq_eq_false_iff_ne.mpr c8
           have c8b1 : (t493 != 0) = true := bne_iff_ne.mpr c8
           have H' := Aside0.mk H
           clear H
           have p491 : 0 ≤ (x14_1 : Int) := of_decide_eq_true (by first | (with_reducible assumption) | assumption)
           have q491 : x14_1 < (l0.length : Int) := of_decide_eq_true (by first | (with_reducible assumption) | assumption)
           obtain ⟨ad491, e491, hx491_0⟩ := Kd.at_string HR0.out x14_1 p491 q491
           cases e491
           replace hx491_0 := (HB.out.cell (World.block_lt_of_cell? w _ hx491_0)).trans hx491_0
           replace p491 := eq_true p491
           replace q491 := eq_true q491
           go_wp2_with (first | ((with_reducible refine gate_callee (f := 35) rfl ?_); refine gl_ (some 21) Try.func35 #[.string (rdOf ByteArray.empty l0 x14_1), .int .i64 a2] ?_; (with_reducible refine (keys_Shard.calls (rdOf ByteArray.empty l0 x14_1) a2 t492 t493 _ A7.out).mono ?_); rintro e w14 ⟨rfl, hb⟩; refine ⟨_, rfl, ?_⟩; replace HO_7 := rb_ HO_7 hb; replace HB := hs_ HB hb; (try clear hb); (try clear hi)))
           go_roundg k1
           case measure => have := HK1.out; omega
           case rel => exact ⟨(x7_1), (wrap64 (x14_1 + 1)), sm_, H', ⟨by have := HK1.out; omega⟩, ⟨kr_ HO_7.out⟩, ⟨by repeat (first | (with_reducible first | exact HB.out | apply below_alloc | apply pw_below_drewN | apply below_drew1) | exact HB.out)⟩⟩
       · rw [if_neg c6] at H
         exact absurd H (by simp)
     · rw [if_neg c5] at H
       exact absurd H (by simp)
   · rw [if_neg c4] at H
     have c4b0 : decide (x14_1 < (l0.length : Int)) = false := decide_eq_false c4
     clear c4
     obtain rfl := Option.some.inj H
     go_wp2
     go_ret
     exact ⟨_, by first | rfl | (simp [errW_none, errW_some] <;> rfl) | (simp [*, errW_none, errW_some] <;> rfl), by (with_reducible repeat (first | apply Kd.R_alloc | apply Kd.R_drewN | apply Kd.R_drew)); exact HO_7.out, by repeat (first | (with_reducible first | exact HB.out | apply below_alloc | apply pw_below_drewN | apply below_drew1) | exact HB.out)⟩
end Go.Proofs.Ytnjeeedndnfglaa.X
end
section
namespace Go.Proofs.Ytnjeeedndnfglaa.Strs
open Go.RowKit Go.Proofs.Ytnjeeedndnfglaa.Keys Go.Proofs.YtnjeeedndnfglaaW.PrintWords Go.Proofs.YtnjeeedndnfglaaW.PrintLast Go.Proofs.YtnjeeedndnfglaaW.PrintMore Go.Proofs.Ytnjeeedndnfglaa.X
set_option linter.unusedSimpArgs false
set_option linter.unusedVariables false
theorem shardE_ok {s : ByteArray} {m : Int} (h : okKey s = true) (h1 : 1 ≤ m) (h4 : m ≤ 4) : shardE s m = 0 := by
  unfold shardE
  rw [if_pos ⟨h, h1, h4⟩]
end Go.Proofs.Ytnjeeedndnfglaa.Strs
end
section
namespace Go.Proofs.Ytnjeeedndnfglaa.Strs
open Go.RowKit Go.Proofs.Ytnjeeedndnfglaa.Keys Go.Proofs.YtnjeeedndnfglaaW.PrintWords Go.Proofs.YtnjeeedndnfglaaW.PrintLast Go.Proofs.YtnjeeedndnfglaaW.PrintMore Go.Proofs.Ytnjeeedndnfglaa.X
set_option linter.unusedSimpArgs false
set_option linter.unusedVariables false
section
variable (a b c d e s : Int) (r : List Rd) (w : List Wr) (m : Bool)
theorem clone_f (h : small r w) : command_Clone.f a b c d e s r w m = some (a, b, c, d, e, s, r, w, m) := by
  have hr := h.1
  have hw := h.2.1
  unfold command_Clone.f
  simp only [Option.bind_some, List.nil_append, List.length_nil]
  rw [if_pos (by omega), if_pos (by omega)]
def decidedB (m' : Bool) : Int × Int × Int × Int × Int × Int × List Rd × List Wr × Bool × Int := if rightB a b c d e s r w m = true ∧ a = 1 then (2, b, c, d, e, s, r, w, m', 0) else (0, 0, 0, 0, 0, 0, [], [], false, 1)
theorem decided_is (h : small r w) (m' : Bool) : Ev (fun k => command_Decided.f k a b c d e s r w m m') (decidedB a b c d e s r w m m') := by
  unfold decidedB command_Decided.f
  have hq := right_is a b c d e s r w m h
  cases hR : rightB a b c d e s r w m with
  | false =>
    simp only [Bool.false_eq_true, false_and, ↓reduceIte]
    exact Ev.bindF (hR ▸ hq) (Ev.const rfl)
  | true =>
    by_cases ha : a = 1
    · simp only [ha, true_and, ↓reduceIte]
      rw [hR] at hq
      rw [ha] at hq
      exact Ev.bindT hq (Ev.bind (Ev.const (clone_f 1 b c d e s r w m h)) (Ev.const rfl))
    · simp only [ha, and_false, ↓reduceIte]
      exact Ev.bindT (hR ▸ hq) (Ev.const rfl)
end
end Go.Proofs.Ytnjeeedndnfglaa.Strs
end
section
namespace Go.Proofs.Ytnjeeedndnfglaa.Keys
open Go.RowKit Go.Proofs.YtnjeeedndnfglaaW.PrintWords Go.Proofs.YtnjeeedndnfglaaW.PrintLast Go.Proofs.YtnjeeedndnfglaaW.PrintMore Go.Proofs.Ytnjeeedndnfglaa.X
set_option linter.unusedSimpArgs false
set_option linter.unusedVariables false
theorem bt_get (s : ByteArray) (i : Nat) : bt s (i : Int) = ((s.get! i).toNat : Int) := by
  unfold bt
  rw [Int.toNat_natCast]
  split
  · rename_i h
    have := get_at s i h
    rw [Nat.add_zero] at this
    rw [this]
  · rename_i h
    rw [← Lib.getD_get!']
    have : s.data.toList.getD i 0 = 0 := by
      rw [List.getD_eq_getElem?_getD, List.getElem?_eq_none]
      · rfl
      · rw [← Lib.size_eq]; omega
    rw [this]; rfl
theorem bt_w (s : ByteArray) (i : Int) : wrap64 (bt s i) = bt s i := by
  have := bt_range s i
  unfold wrap64; omega
theorem tail_is (s : ByteArray) (i : Nat) (lo hi : Int) : althingref04_tail.f s (i : Int) lo hi = some (decide ((i : Int) < s.size ∧ lo ≤ bt s i ∧ bt s i ≤ hi)) := by
  unfold althingref04_tail.f
  rw [bt_w]
  by_cases h1 : (i : Int) < s.size
  · rw [if_pos h1, if_pos (by omega)]
    by_cases h2 : bt s i ≥ lo
    · rw [if_pos h2]; simp [h1]; intro _; exact h2
    · rw [if_neg h2]; simp [h1]; intro h3; exact absurd h3 h2
  · rw [if_neg h1]; simp [h1]
theorem tail1 (s : ByteArray) (lo hi : Int) : althingref04_tail.f s 1 lo hi = some (decide ((1 : Int) < s.size ∧ lo ≤ bt s 1 ∧ bt s 1 ≤ hi)) := tail_is s 1 lo hi
theorem tail2 (s : ByteArray) (lo hi : Int) : althingref04_tail.f s 2 lo hi = some (decide ((2 : Int) < s.size ∧ lo ≤ bt s 2 ∧ bt s 2 ≤ hi)) := tail_is s 2 lo hi
theorem tail3 (s : ByteArray) (lo hi : Int) : althingref04_tail.f s 3 lo hi = some (decide ((3 : Int) < s.size ∧ lo ≤ bt s 3 ∧ bt s 3 ≤ hi)) := tail_is s 3 lo hi
theorem wrapb (b : Nat) (h : b < 256) : wrap64 (b : Int) = b := by unfold wrap64; omega
set_option maxHeartbeats 8000000 in
set_option maxRecDepth 100000 in
theorem first_0 (k : Nat) (s : ByteArray) (hs : 0 < s.size) (hlo : 0 ≤ (s.get! 0).toNat) (hhi : (s.get! 0).toNat ≤ 127) : althingref04_first.f (k + 6) s = some (((Utf8.decode s 0).1 : Int), ((Utf8.decode s 0).2 : Int)) := by
  rw [Lib.decode_at]
  have e0 : bt s 0 = ((s.get! 0).toNat : Int) := bt_get s 0
  have e1 : bt s 1 = ((s.get! 1).toNat : Int) := bt_get s 1
  have e2 : bt s 2 = ((s.get! 2).toNat : Int) := bt_get s 2
  have e3 : bt s 3 = ((s.get! 3).toNat : Int) := bt_get s 3
  have r0 : (s.get! 0).toNat < 256 := UInt8.toNat_lt _
  have r1 : (s.get! 1).toNat < 256 := UInt8.toNat_lt _
  have r2 : (s.get! 2).toNat < 256 := UInt8.toNat_lt _
  have r3 : (s.get! 3).toNat < 256 := UInt8.toNat_lt _
  have t1 := tail1 s
  have t2 := tail2 s
  have t3 := tail3 s
  rw [Nat.sub_zero, Nat.zero_add, Nat.zero_add, Nat.zero_add]
  generalize (s.get! 0).toNat = b0 at *
  generalize (s.get! 1).toNat = b1 at *
  generalize (s.get! 2).toNat = b2 at *
  generalize (s.get! 3).toNat = b3 at *
  have u0 : wrap64 (b0 : Int) = b0 := wrapb _ r0
  have u1 : wrap64 (b1 : Int) = b1 := wrapb _ r1
  have u2 : wrap64 (b2 : Int) = b2 := wrapb _ r2
  have u3 : wrap64 (b3 : Int) = b3 := wrapb _ r3
  have hs0 : (0 < (s.size : Int)) = True := eq_true (by omega)
  have lt128 : ((b0 : Int) < 128) = True := eq_true (by omega)
  have ge194 : ((b0 : Int) ≥ 194) = False := eq_false (by omega)
  have le223 : ((b0 : Int) ≤ 223) = True := eq_true (by omega)
  have eq224 : ((b0 : Int) = 224) = False := eq_false (by omega)
  have eq237 : ((b0 : Int) = 237) = False := eq_false (by omega)
  have ge224 : ((b0 : Int) ≥ 224) = False := eq_false (by omega)
  have le239 : ((b0 : Int) ≤ 239) = True := eq_true (by omega)
  have eq240 : ((b0 : Int) = 240) = False := eq_false (by omega)
  have eq244 : ((b0 : Int) = 244) = False := eq_false (by omega)
  have ge240 : ((b0 : Int) ≥ 240) = False := eq_false (by omega)
  have le244 : ((b0 : Int) ≤ 244) = True := eq_true (by omega)
  simp only [althingref04_first.f, althingref04_first.j0, althingref04_first.j1, althingref04_first.j2, althingref04_first.j3, althingref04_first.j4, althingref04_first.j5, t1, t2, t3, Option.bind_some, e0, e1, e2, e3, u0, u1, u2, u3, hs0, decide_eq_true_eq, ↓reduceIte, Bool.false_eq_true, lt128, ge194, le223, eq224, eq237, ge224, le239, eq240, eq244, ge240, le244]
  clear t1 t2 t3 e0 e1 e2 e3 u0 u1 u2 u3 hs0 lt128 ge194 le223 eq224 eq237 ge224 le239 eq240 eq244 ge240 le244
  generalize s.size = n at *
  unfold Lib.decodeN
  (repeat' split) <;> first | rfl | (exfalso; omega) | (simp only [Option.some.injEq, Prod.mk.injEq]; refine ⟨?_, ?_⟩ <;> (try unfold wrap64) <;> omega)
set_option maxHeartbeats 8000000 in
set_option maxRecDepth 100000 in
theorem first_1 (k : Nat) (s : ByteArray) (hs : 0 < s.size) (hlo : 128 ≤ (s.get! 0).toNat) (hhi : (s.get! 0).toNat ≤ 193) : althingref04_first.f (k + 6) s = some (((Utf8.decode s 0).1 : Int), ((Utf8.decode s 0).2 : Int)) := by
  rw [Lib.decode_at]
  have e0 : bt s 0 = ((s.get! 0).toNat : Int) := bt_get s 0
  have e1 : bt s 1 = ((s.get! 1).toNat : Int) := bt_get s 1
  have e2 : bt s 2 = ((s.get! 2).toNat : Int) := bt_get s 2
  have e3 : bt s 3 = ((s.get! 3).toNat : Int) := bt_get s 3
  have r0 : (s.get! 0).toNat < 256 := UInt8.toNat_lt _
  have r1 : (s.get! 1).toNat < 256 := UInt8.toNat_lt _
  have r2 : (s.get! 2).toNat < 256 := UInt8.toNat_lt _
  have r3 : (s.get! 3).toNat < 256 := UInt8.toNat_lt _
  have t1 := tail1 s
  have t2 := tail2 s
  have t3 := tail3 s
  rw [Nat.sub_zero, Nat.zero_add, Nat.zero_add, Nat.zero_add]
  generalize (s.get! 0).toNat = b0 at *
  generalize (s.get! 1).toNat = b1 at *
  generalize (s.get! 2).toNat = b2 at *
  generalize (s.get! 3).toNat = b3 at *
  have u0 : wrap64 (b0 : Int) = b0 := wrapb _ r0
  have u1 : wrap64 (b1 : Int) = b1 := wrapb _ r1
  have u2 : wrap64 (b2 : Int) = b2 := wrapb _ r2
  have u3 : wrap64 (b3 : Int) = b3 := wrapb _ r3
  have hs0 : (0 < (s.size : Int)) = True := eq_true (by omega)
  have lt128 : ((b0 : Int) < 128) = False := eq_false (by omega)
  have ge194 : ((b0 : Int) ≥ 194) = False := eq_false (by omega)
  have le223 : ((b0 : Int) ≤ 223) = True := eq_true (by omega)
  have eq224 : ((b0 : Int) = 224) = False := eq_false (by omega)
  have eq237 : ((b0 : Int) = 237) = False := eq_false (by omega)
  have ge224 : ((b0 : Int) ≥ 224) = False := eq_false (by omega)
  have le239 : ((b0 : Int) ≤ 239) = True := eq_true (by omega)
  have eq240 : ((b0 : Int) = 240) = False := eq_false (by omega)
  have eq244 : ((b0 : Int) = 244) = False := eq_false (by omega)
  have ge240 : ((b0 : Int) ≥ 240) = False := eq_false (by omega)
  have le244 : ((b0 : Int) ≤ 244) = True := eq_true (by omega)
  simp only [althingref04_first.f, althingref04_first.j0, althingref04_first.j1, althingref04_first.j2, althingref04_first.j3, althingref04_first.j4, althingref04_first.j5, t1, t2, t3, Option.bind_some, e0, e1, e2, e3, u0, u1, u2, u3, hs0, decide_eq_true_eq, ↓reduceIte, Bool.false_eq_true, lt128, ge194, le223, eq224, eq237, ge224, le239, eq240, eq244, ge240, le244]
  clear t1 t2 t3 e0 e1 e2 e3 u0 u1 u2 u3 hs0 lt128 ge194 le223 eq224 eq237 ge224 le239 eq240 eq244 ge240 le244
  generalize s.size = n at *
  unfold Lib.decodeN
  (repeat' split) <;> first | rfl | (exfalso; omega) | (simp only [Option.some.injEq, Prod.mk.injEq]; refine ⟨?_, ?_⟩ <;> (try unfold wrap64) <;> omega)
set_option maxHeartbeats 8000000 in
set_option maxRecDepth 100000 in
theorem first_2 (k : Nat) (s : ByteArray) (hs : 0 < s.size) (hlo : 194 ≤ (s.get! 0).toNat) (hhi : (s.get! 0).toNat ≤ 223) : althingref04_first.f (k + 6) s = some (((Utf8.decode s 0).1 : Int), ((Utf8.decode s 0).2 : Int)) := by
  rw [Lib.decode_at]
  have e0 : bt s 0 = ((s.get! 0).toNat : Int) := bt_get s 0
  have e1 : bt s 1 = ((s.get! 1).toNat : Int) := bt_get s 1
  have e2 : bt s 2 = ((s.get! 2).toNat : Int) := bt_get s 2
  have e3 : bt s 3 = ((s.get! 3).toNat : Int) := bt_get s 3
  have r0 : (s.get! 0).toNat < 256 := UInt8.toNat_lt _
  have r1 : (s.get! 1).toNat < 256 := UInt8.toNat_lt _
  have r2 : (s.get! 2).toNat < 256 := UInt8.toNat_lt _
  have r3 : (s.get! 3).toNat < 256 := UInt8.toNat_lt _
  have t1 := tail1 s
  have t2 := tail2 s
  have t3 := tail3 s
  rw [Nat.sub_zero, Nat.zero_add, Nat.zero_add, Nat.zero_add]
  generalize (s.get! 0).toNat = b0 at *
  generalize (s.get! 1).toNat = b1 at *
  generalize (s.get! 2).toNat = b2 at *
  generalize (s.get! 3).toNat = b3 at *
  have u0 : wrap64 (b0 : Int) = b0 := wrapb _ r0
  have u1 : wrap64 (b1 : Int) = b1 := wrapb _ r1
  have u2 : wrap64 (b2 : Int) = b2 := wrapb _ r2
  have u3 : wrap64 (b3 : Int) = b3 := wrapb _ r3
  have hs0 : (0 < (s.size : Int)) = True := eq_true (by omega)
  have lt128 : ((b0 : Int) < 128) = False := eq_false (by omega)
  have ge194 : ((b0 : Int) ≥ 194) = True := eq_true (by omega)
  have le223 : ((b0 : Int) ≤ 223) = True := eq_true (by omega)
  have eq224 : ((b0 : Int) = 224) = False := eq_false (by omega)
  have eq237 : ((b0 : Int) = 237) = False := eq_false (by omega)
  have ge224 : ((b0 : Int) ≥ 224) = False := eq_false (by omega)
  have le239 : ((b0 : Int) ≤ 239) = True := eq_true (by omega)
  have eq240 : ((b0 : Int) = 240) = False := eq_false (by omega)
  have eq244 : ((b0 : Int) = 244) = False := eq_false (by omega)
  have ge240 : ((b0 : Int) ≥ 240) = False := eq_false (by omega)
  have le244 : ((b0 : Int) ≤ 244) = True := eq_true (by omega)
  simp only [althingref04_first.f, althingref04_first.j0, althingref04_first.j1, althingref04_first.j2, althingref04_first.j3, althingref04_first.j4, althingref04_first.j5, t1, t2, t3, Option.bind_some, e0, e1, e2, e3, u0, u1, u2, u3, hs0, decide_eq_true_eq, ↓reduceIte, Bool.false_eq_true, lt128, ge194, le223, eq224, eq237, ge224, le239, eq240, eq244, ge240, le244]
  clear t1 t2 t3 e0 e1 e2 e3 u0 u1 u2 u3 hs0 lt128 ge194 le223 eq224 eq237 ge224 le239 eq240 eq244 ge240 le244
  generalize s.size = n at *
  unfold Lib.decodeN
  (repeat' split) <;> first | rfl | (exfalso; omega) | (simp only [Option.some.injEq, Prod.mk.injEq]; refine ⟨?_, ?_⟩ <;> (try unfold wrap64) <;> omega)
set_option maxHeartbeats 8000000 in
set_option maxRecDepth 100000 in
theorem first_3 (k : Nat) (s : ByteArray) (hs : 0 < s.size) (hlo : 224 ≤ (s.get! 0).toNat) (hhi : (s.get! 0).toNat ≤ 224) : althingref04_first.f (k + 6) s = some (((Utf8.decode s 0).1 : Int), ((Utf8.decode s 0).2 : Int)) := by
  rw [Lib.decode_at]
  have e0 : bt s 0 = ((s.get! 0).toNat : Int) := bt_get s 0
  have e1 : bt s 1 = ((s.get! 1).toNat : Int) := bt_get s 1
  have e2 : bt s 2 = ((s.get! 2).toNat : Int) := bt_get s 2
  have e3 : bt s 3 = ((s.get! 3).toNat : Int) := bt_get s 3
  have r0 : (s.get! 0).toNat < 256 := UInt8.toNat_lt _
  have r1 : (s.get! 1).toNat < 256 := UInt8.toNat_lt _
  have r2 : (s.get! 2).toNat < 256 := UInt8.toNat_lt _
  have r3 : (s.get! 3).toNat < 256 := UInt8.toNat_lt _
  have t1 := tail1 s
  have t2 := tail2 s
  have t3 := tail3 s
  rw [Nat.sub_zero, Nat.zero_add, Nat.zero_add, Nat.zero_add]
  generalize (s.get! 0).toNat = b0 at *
  generalize (s.get! 1).toNat = b1 at *
  generalize (s.get! 2).toNat = b2 at *
  generalize (s.get! 3).toNat = b3 at *
  have u0 : wrap64 (b0 : Int) = b0 := wrapb _ r0
  have u1 : wrap64 (b1 : Int) = b1 := wrapb _ r1
  have u2 : wrap64 (b2 : Int) = b2 := wrapb _ r2
  have u3 : wrap64 (b3 : Int) = b3 := wrapb _ r3
  have hs0 : (0 < (s.size : Int)) = True := eq_true (by omega)
  have lt128 : ((b0 : Int) < 128) = False := eq_false (by omega)
  have ge194 : ((b0 : Int) ≥ 194) = True := eq_true (by omega)
  have le223 : ((b0 : Int) ≤ 223) = False := eq_false (by omega)
  have eq224 : ((b0 : Int) = 224) = True := eq_true (by omega)
  have eq237 : ((b0 : Int) = 237) = False := eq_false (by omega)
  have ge224 : ((b0 : Int) ≥ 224) = True := eq_true (by omega)
  have le239 : ((b0 : Int) ≤ 239) = True := eq_true (by omega)
  have eq240 : ((b0 : Int) = 240) = False := eq_false (by omega)
  have eq244 : ((b0 : Int) = 244) = False := eq_false (by omega)
  have ge240 : ((b0 : Int) ≥ 240) = False := eq_false (by omega)
  have le244 : ((b0 : Int) ≤ 244) = True := eq_true (by omega)
  simp only [althingref04_first.f, althingref04_first.j0, althingref04_first.j1, althingref04_first.j2, althingref04_first.j3, althingref04_first.j4, althingref04_first.j5, t1, t2, t3, Option.bind_some, e0, e1, e2, e3, u0, u1, u2, u3, hs0, decide_eq_true_eq, ↓reduceIte, Bool.false_eq_true, lt128, ge194, le223, eq224, eq237, ge224, le239, eq240, eq244, ge240, le244]
  clear t1 t2 t3 e0 e1 e2 e3 u0 u1 u2 u3 hs0 lt128 ge194 le223 eq224 eq237 ge224 le239 eq240 eq244 ge240 le244
  generalize s.size = n at *
  unfold Lib.decodeN
  (repeat' split) <;> first | rfl | (exfalso; omega) | (simp only [Option.some.injEq, Prod.mk.injEq]; refine ⟨?_, ?_⟩ <;> (try unfold wrap64) <;> omega)
set_option maxHeartbeats 8000000 in
set_option maxRecDepth 100000 in
theorem first_4 (k : Nat) (s : ByteArray) (hs : 0 < s.size) (hlo : 225 ≤ (s.get! 0).toNat) (hhi : (s.get! 0).toNat ≤ 236) : althingref04_first.f (k + 6) s = some (((Utf8.decode s 0).1 : Int), ((Utf8.decode s 0).2 : Int)) := by
  rw [Lib.decode_at]
  have e0 : bt s 0 = ((s.get! 0).toNat : Int) := bt_get s 0
  have e1 : bt s 1 = ((s.get! 1).toNat : Int) := bt_get s 1
  have e2 : bt s 2 = ((s.get! 2).toNat : Int) := bt_get s 2
  have e3 : bt s 3 = ((s.get! 3).toNat : Int) := bt_get s 3
  have r0 : (s.get! 0).toNat < 256 := UInt8.toNat_lt _
  have r1 : (s.get! 1).toNat < 256 := UInt8.toNat_lt _
  have r2 : (s.get! 2).toNat < 256 := UInt8.toNat_lt _
  have r3 : (s.get! 3).toNat < 256 := UInt8.toNat_lt _
  have t1 := tail1 s
  have t2 := tail2 s
  have t3 := tail3 s
  rw [Nat.sub_zero, Nat.zero_add, Nat.zero_add, Nat.zero_add]
  generalize (s.get! 0).toNat = b0 at *
  generalize (s.get! 1).toNat = b1 at *
  generalize (s.get! 2).toNat = b2 at *
  generalize (s.get! 3).toNat = b3 at *
  have u0 : wrap64 (b0 : Int) = b0 := wrapb _ r0
  have u1 : wrap64 (b1 : Int) = b1 := wrapb _ r1
  have u2 : wrap64 (b2 : Int) = b2 := wrapb _ r2
  have u3 : wrap64 (b3 : Int) = b3 := wrapb _ r3
  have hs0 : (0 < (s.size : Int)) = True := eq_true (by omega)
  have lt128 : ((b0 : Int) < 128) = False := eq_false (by omega)
  have ge194 : ((b0 : Int) ≥ 194) = True := eq_true (by omega)
  have le223 : ((b0 : Int) ≤ 223) = False := eq_false (by omega)
  have eq224 : ((b0 : Int) = 224) = False := eq_false (by omega)
  have eq237 : ((b0 : Int) = 237) = False := eq_false (by omega)
  have ge224 : ((b0 : Int) ≥ 224) = True := eq_true (by omega)
  have le239 : ((b0 : Int) ≤ 239) = True := eq_true (by omega)
  have eq240 : ((b0 : Int) = 240) = False := eq_false (by omega)
  have eq244 : ((b0 : Int) = 244) = False := eq_false (by omega)
  have ge240 : ((b0 : Int) ≥ 240) = False := eq_false (by omega)
  have le244 : ((b0 : Int) ≤ 244) = True := eq_true (by omega)
  simp only [althingref04_first.f, althingref04_first.j0, althingref04_first.j1, althingref04_first.j2, althingref04_first.j3, althingref04_first.j4, althingref04_first.j5, t1, t2, t3, Option.bind_some, e0, e1, e2, e3, u0, u1, u2, u3, hs0, decide_eq_true_eq, ↓reduceIte, Bool.false_eq_true, lt128, ge194, le223, eq224, eq237, ge224, le239, eq240, eq244, ge240, le244]
  clear t1 t2 t3 e0 e1 e2 e3 u0 u1 u2 u3 hs0 lt128 ge194 le223 eq224 eq237 ge224 le239 eq240 eq244 ge240 le244
  generalize s.size = n at *
  unfold Lib.decodeN
  (repeat' split) <;> first | rfl | (exfalso; omega) | (simp only [Option.some.injEq, Prod.mk.injEq]; refine ⟨?_, ?_⟩ <;> (try unfold wrap64) <;> omega)
set_option maxHeartbeats 8000000 in
set_option maxRecDepth 100000 in
theorem first_5 (k : Nat) (s : ByteArray) (hs : 0 < s.size) (hlo : 237 ≤ (s.get! 0).toNat) (hhi : (s.get! 0).toNat ≤ 237) : althingref04_first.f (k + 6) s = some (((Utf8.decode s 0).1 : Int), ((Utf8.decode s 0).2 : Int)) := by
  rw [Lib.decode_at]
  have e0 : bt s 0 = ((s.get! 0).toNat : Int) := bt_get s 0
  have e1 : bt s 1 = ((s.get! 1).toNat : Int) := bt_get s 1
  have e2 : bt s 2 = ((s.get! 2).toNat : Int) := bt_get s 2
  have e3 : bt s 3 = ((s.get! 3).toNat : Int) := bt_get s 3
  have r0 : (s.get! 0).toNat < 256 := UInt8.toNat_lt _
  have r1 : (s.get! 1).toNat < 256 := UInt8.toNat_lt _
  have r2 : (s.get! 2).toNat < 256 := UInt8.toNat_lt _
  have r3 : (s.get! 3).toNat < 256 := UInt8.toNat_lt _
  have t1 := tail1 s
  have t2 := tail2 s
  have t3 := tail3 s
  rw [Nat.sub_zero, Nat.zero_add, Nat.zero_add, Nat.zero_add]
  generalize (s.get! 0).toNat = b0 at *
  generalize (s.get! 1).toNat = b1 at *
  generalize (s.get! 2).toNat = b2 at *
  generalize (s.get! 3).toNat = b3 at *
  have u0 : wrap64 (b0 : Int) = b0 := wrapb _ r0
  have u1 : wrap64 (b1 : Int) = b1 := wrapb _ r1
  have u2 : wrap64 (b2 : Int) = b2 := wrapb _ r2
  have u3 : wrap64 (b3 : Int) = b3 := wrapb _ r3
  have hs0 : (0 < (s.size : Int)) = True := eq_true (by omega)
  have lt128 : ((b0 : Int) < 128) = False := eq_false (by omega)
  have ge194 : ((b0 : Int) ≥ 194) = True := eq_true (by omega)
  have le223 : ((b0 : Int) ≤ 223) = False := eq_false (by omega)
  have eq224 : ((b0 : Int) = 224) = False := eq_false (by omega)
  have eq237 : ((b0 : Int) = 237) = True := eq_true (by omega)
  have ge224 : ((b0 : Int) ≥ 224) = True := eq_true (by omega)
  have le239 : ((b0 : Int) ≤ 239) = True := eq_true (by omega)
  have eq240 : ((b0 : Int) = 240) = False := eq_false (by omega)
  have eq244 : ((b0 : Int) = 244) = False := eq_false (by omega)
  have ge240 : ((b0 : Int) ≥ 240) = False := eq_false (by omega)
  have le244 : ((b0 : Int) ≤ 244) = True := eq_true (by omega)
  simp only [althingref04_first.f, althingref04_first.j0, althingref04_first.j1, althingref04_first.j2, althingref04_first.j3, althingref04_first.j4, althingref04_first.j5, t1, t2, t3, Option.bind_some, e0, e1, e2, e3, u0, u1, u2, u3, hs0, decide_eq_true_eq, ↓reduceIte, Bool.false_eq_true, lt128, ge194, le223, eq224, eq237, ge224, le239, eq240, eq244, ge240, le244]
  clear t1 t2 t3 e0 e1 e2 e3 u0 u1 u2 u3 hs0 lt128 ge194 le223 eq224 eq237 ge224 le239 eq240 eq244 ge240 le244
  generalize s.size = n at *
  unfold Lib.decodeN
  (repeat' split) <;> first | rfl | (exfalso; omega) | (simp only [Option.some.injEq, Prod.mk.injEq]; refine ⟨?_, ?_⟩ <;> (try unfold wrap64) <;> omega)
set_option maxHeartbeats 8000000 in
set_option maxRecDepth 100000 in
theorem first_6 (k : Nat) (s : ByteArray) (hs : 0 < s.size) (hlo : 238 ≤ (s.get! 0).toNat) (hhi : (s.get! 0).toNat ≤ 239) : althingref04_first.f (k + 6) s = some (((Utf8.decode s 0).1 : Int), ((Utf8.decode s 0).2 : Int)) := by
  rw [Lib.decode_at]
  have e0 : bt s 0 = ((s.get! 0).toNat : Int) := bt_get s 0
  have e1 : bt s 1 = ((s.get! 1).toNat : Int) := bt_get s 1
  have e2 : bt s 2 = ((s.get! 2).toNat : Int) := bt_get s 2
  have e3 : bt s 3 = ((s.get! 3).toNat : Int) := bt_get s 3
  have r0 : (s.get! 0).toNat < 256 := UInt8.toNat_lt _
  have r1 : (s.get! 1).toNat < 256 := UInt8.toNat_lt _
  have r2 : (s.get! 2).toNat < 256 := UInt8.toNat_lt _
  have r3 : (s.get! 3).toNat < 256 := UInt8.toNat_lt _
  have t1 := tail1 s
  have t2 := tail2 s
  have t3 := tail3 s
  rw [Nat.sub_zero, Nat.zero_add, Nat.zero_add, Nat.zero_add]
  generalize (s.get! 0).toNat = b0 at *
  generalize (s.get! 1).toNat = b1 at *
  generalize (s.get! 2).toNat = b2 at *
  generalize (s.get! 3).toNat = b3 at *
  have u0 : wrap64 (b0 : Int) = b0 := wrapb _ r0
  have u1 : wrap64 (b1 : Int) = b1 := wrapb _ r1
  have u2 : wrap64 (b2 : Int) = b2 := wrapb _ r2
  have u3 : wrap64 (b3 : Int) = b3 := wrapb _ r3
  have hs0 : (0 < (s.size : Int)) = True := eq_true (by omega)
  have lt128 : ((b0 : Int) < 128) = False := eq_false (by omega)
  have ge194 : ((b0 : Int) ≥ 194) = True := eq_true (by omega)
  have le223 : ((b0 : Int) ≤ 223) = False := eq_false (by omega)
  have eq224 : ((b0 : Int) = 224) = False := eq_false (by omega)
  have eq237 : ((b0 : Int) = 237) = False := eq_false (by omega)
  have ge224 : ((b0 : Int) ≥ 224) = True := eq_true (by omega)
  have le239 : ((b0 : Int) ≤ 239) = True := eq_true (by omega)
  have eq240 : ((b0 : Int) = 240) = False := eq_false (by omega)
  have eq244 : ((b0 : Int) = 244) = False := eq_false (by omega)
  have ge240 : ((b0 : Int) ≥ 240) = False := eq_false (by omega)
  have le244 : ((b0 : Int) ≤ 244) = True := eq_true (by omega)
  simp only [althingref04_first.f, althingref04_first.j0, althingref04_first.j1, althingref04_first.j2, althingref04_first.j3, althingref04_first.j4, althingref04_first.j5, t1, t2, t3, Option.bind_some, e0, e1, e2, e3, u0, u1, u2, u3, hs0, decide_eq_true_eq, ↓reduceIte, Bool.false_eq_true, lt128, ge194, le223, eq224, eq237, ge224, le239, eq240, eq244, ge240, le244]
  clear t1 t2 t3 e0 e1 e2 e3 u0 u1 u2 u3 hs0 lt128 ge194 le223 eq224 eq237 ge224 le239 eq240 eq244 ge240 le244
  generalize s.size = n at *
  unfold Lib.decodeN
  (repeat' split) <;> first | rfl | (exfalso; omega) | (simp only [Option.some.injEq, Prod.mk.injEq]; refine ⟨?_, ?_⟩ <;> (try unfold wrap64) <;> omega)
set_option maxHeartbeats 8000000 in
set_option maxRecDepth 100000 in
theorem first_7 (k : Nat) (s : ByteArray) (hs : 0 < s.size) (hlo : 240 ≤ (s.get! 0).toNat) (hhi : (s.get! 0).toNat ≤ 240) : althingref04_first.f (k + 6) s = some (((Utf8.decode s 0).1 : Int), ((Utf8.decode s 0).2 : Int)) := by
  rw [Lib.decode_at]
  have e0 : bt s 0 = ((s.get! 0).toNat : Int) := bt_get s 0
  have e1 : bt s 1 = ((s.get! 1).toNat : Int) := bt_get s 1
  have e2 : bt s 2 = ((s.get! 2).toNat : Int) := bt_get s 2
  have e3 : bt s 3 = ((s.get! 3).toNat : Int) := bt_get s 3
  have r0 : (s.get! 0).toNat < 256 := UInt8.toNat_lt _
  have r1 : (s.get! 1).toNat < 256 := UInt8.toNat_lt _
  have r2 : (s.get! 2).toNat < 256 := UInt8.toNat_lt _
  have r3 : (s.get! 3).toNat < 256 := UInt8.toNat_lt _
  have t1 := tail1 s
  have t2 := tail2 s
  have t3 := tail3 s
  rw [Nat.sub_zero, Nat.zero_add, Nat.zero_add, Nat.zero_add]
  generalize (s.get! 0).toNat = b0 at *
  generalize (s.get! 1).toNat = b1 at *
  generalize (s.get! 2).toNat = b2 at *
  generalize (s.get! 3).toNat = b3 at *
  have u0 : wrap64 (b0 : Int) = b0 := wrapb _ r0
  have u1 : wrap64 (b1 : Int) = b1 := wrapb _ r1
  have u2 : wrap64 (b2 : Int) = b2 := wrapb _ r2
  have u3 : wrap64 (b3 : Int) = b3 := wrapb _ r3
  have hs0 : (0 < (s.size : Int)) = True := eq_true (by omega)
  have lt128 : ((b0 : Int) < 128) = False := eq_false (by omega)
  have ge194 : ((b0 : Int) ≥ 194) = True := eq_true (by omega)
  have le223 : ((b0 : Int) ≤ 223) = False := eq_false (by omega)
  have eq224 : ((b0 : Int) = 224) = False := eq_false (by omega)
  have eq237 : ((b0 : Int) = 237) = False := eq_false (by omega)
  have ge224 : ((b0 : Int) ≥ 224) = True := eq_true (by omega)
  have le239 : ((b0 : Int) ≤ 239) = False := eq_false (by omega)
  have eq240 : ((b0 : Int) = 240) = True := eq_true (by omega)
  have eq244 : ((b0 : Int) = 244) = False := eq_false (by omega)
  have ge240 : ((b0 : Int) ≥ 240) = True := eq_true (by omega)
  have le244 : ((b0 : Int) ≤ 244) = True := eq_true (by omega)
  simp only [althingref04_first.f, althingref04_first.j0, althingref04_first.j1, althingref04_first.j2, althingref04_first.j3, althingref04_first.j4, althingref04_first.j5, t1, t2, t3, Option.bind_some, e0, e1, e2, e3, u0, u1, u2, u3, hs0, decide_eq_true_eq, ↓reduceIte, Bool.false_eq_true, lt128, ge194, le223, eq224, eq237, ge224, le239, eq240, eq244, ge240, le244]
  clear t1 t2 t3 e0 e1 e2 e3 u0 u1 u2 u3 hs0 lt128 ge194 le223 eq224 eq237 ge224 le239 eq240 eq244 ge240 le244
  generalize s.size = n at *
  unfold Lib.decodeN
  (repeat' split) <;> first | rfl | (exfalso; omega) | (simp only [Option.some.injEq, Prod.mk.injEq]; refine ⟨?_, ?_⟩ <;> (try unfold wrap64) <;> omega)
set_option maxHeartbeats 8000000 in
set_option maxRecDepth 100000 in
theorem first_8 (k : Nat) (s : ByteArray) (hs : 0 < s.size) (hlo : 241 ≤ (s.get! 0).toNat) (hhi : (s.get! 0).toNat ≤ 243) : althingref04_first.f (k + 6) s = some (((Utf8.decode s 0).1 : Int), ((Utf8.decode s 0).2 : Int)) := by
  rw [Lib.decode_at]
  have e0 : bt s 0 = ((s.get! 0).toNat : Int) := bt_get s 0
  have e1 : bt s 1 = ((s.get! 1).toNat : Int) := bt_get s 1
  have e2 : bt s 2 = ((s.get! 2).toNat : Int) := bt_get s 2
  have e3 : bt s 3 = ((s.get! 3).toNat : Int) := bt_get s 3
  have r0 : (s.get! 0).toNat < 256 := UInt8.toNat_lt _
  have r1 : (s.get! 1).toNat < 256 := UInt8.toNat_lt _
  have r2 : (s.get! 2).toNat < 256 := UInt8.toNat_lt _
  have r3 : (s.get! 3).toNat < 256 := UInt8.toNat_lt _
  have t1 := tail1 s
  have t2 := tail2 s
  have t3 := tail3 s
  rw [Nat.sub_zero, Nat.zero_add, Nat.zero_add, Nat.zero_add]
  generalize (s.get! 0).toNat = b0 at *
  generalize (s.get! 1).toNat = b1 at *
  generalize (s.get! 2).toNat = b2 at *
  generalize (s.get! 3).toNat = b3 at *
  have u0 : wrap64 (b0 : Int) = b0 := wrapb _ r0
  have u1 : wrap64 (b1 : Int) = b1 := wrapb _ r1
  have u2 : wrap64 (b2 : Int) = b2 := wrapb _ r2
  have u3 : wrap64 (b3 : Int) = b3 := wrapb _ r3
  have hs0 : (0 < (s.size : Int)) = True := eq_true (by omega)
  have lt128 : ((b0 : Int) < 128) = False := eq_false (by omega)
  have ge194 : ((b0 : Int) ≥ 194) = True := eq_true (by omega)
  have le223 : ((b0 : Int) ≤ 223) = False := eq_false (by omega)
  have eq224 : ((b0 : Int) = 224) = False := eq_false (by omega)
  have eq237 : ((b0 : Int) = 237) = False := eq_false (by omega)
  have ge224 : ((b0 : Int) ≥ 224) = True := eq_true (by omega)
  have le239 : ((b0 : Int) ≤ 239) = False := eq_false (by omega)
  have eq240 : ((b0 : Int) = 240) = False := eq_false (by omega)
  have eq244 : ((b0 : Int) = 244) = False := eq_false (by omega)
  have ge240 : ((b0 : Int) ≥ 240) = True := eq_true (by omega)
  have le244 : ((b0 : Int) ≤ 244) = True := eq_true (by omega)
  simp only [althingref04_first.f, althingref04_first.j0, althingref04_first.j1, althingref04_first.j2, althingref04_first.j3, althingref04_first.j4, althingref04_first.j5, t1, t2, t3, Option.bind_some, e0, e1, e2, e3, u0, u1, u2, u3, hs0, decide_eq_true_eq, ↓reduceIte, Bool.false_eq_true, lt128, ge194, le223, eq224, eq237, ge224, le239, eq240, eq244, ge240, le244]
  clear t1 t2 t3 e0 e1 e2 e3 u0 u1 u2 u3 hs0 lt128 ge194 le223 eq224 eq237 ge224 le239 eq240 eq244 ge240 le244
  generalize s.size = n at *
  unfold Lib.decodeN
  (repeat' split) <;> first | rfl | (exfalso; omega) | (simp only [Option.some.injEq, Prod.mk.injEq]; refine ⟨?_, ?_⟩ <;> (try unfold wrap64) <;> omega)
set_option maxHeartbeats 8000000 in
set_option maxRecDepth 100000 in
theorem first_9 (k : Nat) (s : ByteArray) (hs : 0 < s.size) (hlo : 244 ≤ (s.get! 0).toNat) (hhi : (s.get! 0).toNat ≤ 244) : althingref04_first.f (k + 6) s = some (((Utf8.decode s 0).1 : Int), ((Utf8.decode s 0).2 : Int)) := by
  rw [Lib.decode_at]
  have e0 : bt s 0 = ((s.get! 0).toNat : Int) := bt_get s 0
  have e1 : bt s 1 = ((s.get! 1).toNat : Int) := bt_get s 1
  have e2 : bt s 2 = ((s.get! 2).toNat : Int) := bt_get s 2
  have e3 : bt s 3 = ((s.get! 3).toNat : Int) := bt_get s 3
  have r0 : (s.get! 0).toNat < 256 := UInt8.toNat_lt _
  have r1 : (s.get! 1).toNat < 256 := UInt8.toNat_lt _
  have r2 : (s.get! 2).toNat < 256 := UInt8.toNat_lt _
  have r3 : (s.get! 3).toNat < 256 := UInt8.toNat_lt _
  have t1 := tail1 s
  have t2 := tail2 s
  have t3 := tail3 s
  rw [Nat.sub_zero, Nat.zero_add, Nat.zero_add, Nat.zero_add]
  generalize (s.get! 0).toNat = b0 at *
  generalize (s.get! 1).toNat = b1 at *
  generalize (s.get! 2).toNat = b2 at *
  generalize (s.get! 3).toNat = b3 at *
  have u0 : wrap64 (b0 : Int) = b0 := wrapb _ r0
  have u1 : wrap64 (b1 : Int) = b1 := wrapb _ r1
  have u2 : wrap64 (b2 : Int) = b2 := wrapb _ r2
  have u3 : wrap64 (b3 : Int) = b3 := wrapb _ r3
  have hs0 : (0 < (s.size : Int)) = True := eq_true (by omega)
  have lt128 : ((b0 : Int) < 128) = False := eq_false (by omega)
  have ge194 : ((b0 : Int) ≥ 194) = True := eq_true (by omega)
  have le223 : ((b0 : Int) ≤ 223) = False := eq_false (by omega)
  have eq224 : ((b0 : Int) = 224) = False := eq_false (by omega)
  have eq237 : ((b0 : Int) = 237) = False := eq_false (by omega)
  have ge224 : ((b0 : Int) ≥ 224) = True := eq_true (by omega)
  have le239 : ((b0 : Int) ≤ 239) = False := eq_false (by omega)
  have eq240 : ((b0 : Int) = 240) = False := eq_false (by omega)
  have eq244 : ((b0 : Int) = 244) = True := eq_true (by omega)
  have ge240 : ((b0 : Int) ≥ 240) = True := eq_true (by omega)
  have le244 : ((b0 : Int) ≤ 244) = True := eq_true (by omega)
  simp only [althingref04_first.f, althingref04_first.j0, althingref04_first.j1, althingref04_first.j2, althingref04_first.j3, althingref04_first.j4, althingref04_first.j5, t1, t2, t3, Option.bind_some, e0, e1, e2, e3, u0, u1, u2, u3, hs0, decide_eq_true_eq, ↓reduceIte, Bool.false_eq_true, lt128, ge194, le223, eq224, eq237, ge224, le239, eq240, eq244, ge240, le244]
  clear t1 t2 t3 e0 e1 e2 e3 u0 u1 u2 u3 hs0 lt128 ge194 le223 eq224 eq237 ge224 le239 eq240 eq244 ge240 le244
  generalize s.size = n at *
  unfold Lib.decodeN
  (repeat' split) <;> first | rfl | (exfalso; omega) | (simp only [Option.some.injEq, Prod.mk.injEq]; refine ⟨?_, ?_⟩ <;> (try unfold wrap64) <;> omega)
set_option maxHeartbeats 8000000 in
set_option maxRecDepth 100000 in
theorem first_10 (k : Nat) (s : ByteArray) (hs : 0 < s.size) (hlo : 245 ≤ (s.get! 0).toNat) (hhi : (s.get! 0).toNat ≤ 255) : althingref04_first.f (k + 6) s = some (((Utf8.decode s 0).1 : Int), ((Utf8.decode s 0).2 : Int)) := by
  rw [Lib.decode_at]
  have e0 : bt s 0 = ((s.get! 0).toNat : Int) := bt_get s 0
  have e1 : bt s 1 = ((s.get! 1).toNat : Int) := bt_get s 1
  have e2 : bt s 2 = ((s.get! 2).toNat : Int) := bt_get s 2
  have e3 : bt s 3 = ((s.get! 3).toNat : Int) := bt_get s 3
  have r0 : (s.get! 0).toNat < 256 := UInt8.toNat_lt _
  have r1 : (s.get! 1).toNat < 256 := UInt8.toNat_lt _
  have r2 : (s.get! 2).toNat < 256 := UInt8.toNat_lt _
  have r3 : (s.get! 3).toNat < 256 := UInt8.toNat_lt _
  have t1 := tail1 s
  have t2 := tail2 s
  have t3 := tail3 s
  rw [Nat.sub_zero, Nat.zero_add, Nat.zero_add, Nat.zero_add]
  generalize (s.get! 0).toNat = b0 at *
  generalize (s.get! 1).toNat = b1 at *
  generalize (s.get! 2).toNat = b2 at *
  generalize (s.get! 3).toNat = b3 at *
  have u0 : wrap64 (b0 : Int) = b0 := wrapb _ r0
  have u1 : wrap64 (b1 : Int) = b1 := wrapb _ r1
  have u2 : wrap64 (b2 : Int) = b2 := wrapb _ r2
  have u3 : wrap64 (b3 : Int) = b3 := wrapb _ r3
  have hs0 : (0 < (s.size : Int)) = True := eq_true (by omega)
  have lt128 : ((b0 : Int) < 128) = False := eq_false (by omega)
  have ge194 : ((b0 : Int) ≥ 194) = True := eq_true (by omega)
  have le223 : ((b0 : Int) ≤ 223) = False := eq_false (by omega)
  have eq224 : ((b0 : Int) = 224) = False := eq_false (by omega)
  have eq237 : ((b0 : Int) = 237) = False := eq_false (by omega)
  have ge224 : ((b0 : Int) ≥ 224) = True := eq_true (by omega)
  have le239 : ((b0 : Int) ≤ 239) = False := eq_false (by omega)
  have eq240 : ((b0 : Int) = 240) = False := eq_false (by omega)
  have eq244 : ((b0 : Int) = 244) = False := eq_false (by omega)
  have ge240 : ((b0 : Int) ≥ 240) = True := eq_true (by omega)
  have le244 : ((b0 : Int) ≤ 244) = False := eq_false (by omega)
  simp only [althingref04_first.f, althingref04_first.j0, althingref04_first.j1, althingref04_first.j2, althingref04_first.j3, althingref04_first.j4, althingref04_first.j5, t1, t2, t3, Option.bind_some, e0, e1, e2, e3, u0, u1, u2, u3, hs0, decide_eq_true_eq, ↓reduceIte, Bool.false_eq_true, lt128, ge194, le223, eq224, eq237, ge224, le239, eq240, eq244, ge240, le244]
  clear t1 t2 t3 e0 e1 e2 e3 u0 u1 u2 u3 hs0 lt128 ge194 le223 eq224 eq237 ge224 le239 eq240 eq244 ge240 le244
  generalize s.size = n at *
  unfold Lib.decodeN
  (repeat' split) <;> first | rfl | (exfalso; omega) | (simp only [Option.some.injEq, Prod.mk.injEq]; refine ⟨?_, ?_⟩ <;> (try unfold wrap64) <;> omega)
theorem first_is (k : Nat) (s : ByteArray) (hs : 0 < s.size) : althingref04_first.f (k + 6) s = some (((Utf8.decode s 0).1 : Int), ((Utf8.decode s 0).2 : Int)) := by
  have r0 : (s.get! 0).toNat < 256 := UInt8.toNat_lt _
  by_cases h0 : (s.get! 0).toNat ≤ 127
  · exact first_0 k s hs (by omega) h0
  by_cases h1 : (s.get! 0).toNat ≤ 193
  · exact first_1 k s hs (by omega) h1
  by_cases h2 : (s.get! 0).toNat ≤ 223
  · exact first_2 k s hs (by omega) h2
  by_cases h3 : (s.get! 0).toNat ≤ 224
  · exact first_3 k s hs (by omega) h3
  by_cases h4 : (s.get! 0).toNat ≤ 236
  · exact first_4 k s hs (by omega) h4
  by_cases h5 : (s.get! 0).toNat ≤ 237
  · exact first_5 k s hs (by omega) h5
  by_cases h6 : (s.get! 0).toNat ≤ 239
  · exact first_6 k s hs (by omega) h6
  by_cases h7 : (s.get! 0).toNat ≤ 240
  · exact first_7 k s hs (by omega) h7
  by_cases h8 : (s.get! 0).toNat ≤ 243
  · exact first_8 k s hs (by omega) h8
  by_cases h9 : (s.get! 0).toNat ≤ 244
  · exact first_9 k s hs (by omega) h9
  exact first_10 k s hs (by omega) (by omega)
theorem ext_ext (s : ByteArray) (pos k : Nat) (h : pos + k ≤ s.size) : (s.extract pos s.size).extract k (s.extract pos s.size).size = s.extract (pos + k) s.size := by
  rw [Lib.tail_size]
  apply ByteArray.ext
  rw [ByteArray.data_extract, ByteArray.data_extract, ByteArray.data_extract, Array.extract_extract]
  congr 1
  omega
theorem refRunes_l0 (s : ByteArray) (hs : s.size ≤ 2000) : ∀ b pos acc k, s.size ≤ pos + b → pos ≤ s.size → acc.length ≤ pos → althingref04_Runes.l0 (k + b + 7) (s.extract pos s.size) acc = some (acc ++ rns s b pos)
  | 0, pos, acc, k, h1, h2, h3 => by
    unfold althingref04_Runes.l0
    rw [if_neg (by rw [Lib.tail_size]; omega), rns, List.append_nil]
  | b + 1, pos, acc, k, h1, h2, h3 => by
    by_cases h : pos < s.size
    · have hz : (s.extract pos s.size).size = s.size - pos := Lib.tail_size s pos
      have hd : Utf8.decode (s.extract pos s.size) 0 = Utf8.decode s pos := by rw [Lib.tail_decode, Nat.add_zero]
      have hw := width_le s pos h
      have hw1 := Lib.width_pos s pos
      have ih := refRunes_l0 s hs b (pos + (Utf8.decode s pos).2) (acc ++ [((Utf8.decode s pos).1 : Int)]) k (by omega) (by omega) (by simp only [List.length_append, List.length_singleton]; omega)
      have ef := first_is (k + b + 1) (s.extract pos s.size) (by omega)
      rw [hd] at ef
      have ee := ext_ext s pos (Utf8.decode s pos).2 hw
      rw [show k + (b + 1) + 7 = (k + b + 7) + 1 by omega]
      unfold althingref04_Runes.l0
      rw [show k + b + 7 = (k + b + 1) + 6 by omega, ef, Option.bind_some, if_pos (by omega), if_pos (by omega), if_pos (by omega), if_pos (by omega)]
      simp only []
      rw [Int.toNat_natCast, ee, show (k + b + 1) + 6 = k + b + 7 by omega, ih]
      conv => rhs; unfold rns
      rw [if_pos h]
      simp
    · rw [rns_end s _ _ h]
      unfold althingref04_Runes.l0
      rw [if_neg (by rw [Lib.tail_size]; omega), List.append_nil]
theorem refRunes_is (s : ByteArray) (hs : s.size ≤ 2000) (k : Nat) (hk : 2007 ≤ k) : althingref04_Runes.f k s = some (runes s) := by
  have h := refRunes_l0 s hs s.size 0 [] (k - s.size - 7) (by omega) (by omega) (by simp)
  rw [show k - s.size - 7 + s.size + 7 = k by omega, List.nil_append] at h
  have e : s.extract 0 s.size = s := by apply ByteArray.ext; simp
  rw [e] at h
  exact h
theorem refWeight_l1 (l : List Int) (R : Int) (i K : Nat) (hl : ∀ j, 0 ≤ l.getD j 0 ∧ l.getD j 0 ≤ 1114111) (hi : i < l.length) (hll : l.length ≤ 2000)
    (h : ∀ k, K ≤ k → althingref04_Weight.l0 k l (wsum l (i + 1)) ((i : Int) + 1) = some R) :
    ∀ d q, q + d = i + 1 → ∀ k, K + 1 + d ≤ k → althingref04_Weight.l1 k l (wsum l i + (q : Int) * l.getD i 0) (i : Int) (q : Int) = some R
  | 0, q, hq, k, hk => by
    obtain ⟨k, rfl⟩ : ∃ k', k = k' + 1 := ⟨k - 1, by omega⟩
    unfold althingref04_Weight.l1
    rw [if_neg (by omega)]
    have := h k (by omega)
    rw [show wrap64 ((i : Int) + 1) = (i : Int) + 1 by unfold wrap64; omega]
    have e : wsum l i + (q : Int) * l.getD i 0 = wsum l (i + 1) := by rw [wsum, show (q : Int) = (i : Int) + 1 by omega]
    rw [e]; exact this
  | d + 1, q, hq, k, hk => by
    obtain ⟨k, rfl⟩ : ∃ k', k = k' + 1 := ⟨k - 1, by omega⟩
    have ih := refWeight_l1 l R i K hl hi hll h d (q + 1) (by omega) k (by omega)
    unfold althingref04_Weight.l1
    rw [if_pos (by omega), if_pos (by omega), if_pos (by omega)]
    have hr := wsum_range l hl i (by omega)
    have hc := hl i
    have hq0 : 0 ≤ (q : Int) * l.getD i 0 ∧ (q : Int) * l.getD i 0 ≤ 2228222000 := by
      cases q with
      | zero => simp
      | succ q => have := wterm q (l.getD i 0) (by omega) hc; rw [show ((q + 1 : Nat) : Int) = (q : Int) + 1 by omega]; exact this
    have er : rd l (i : Int) = l.getD i 0 := by unfold rd; rw [Int.toNat_natCast]
    rw [er, show wrap64 ((q : Int) + 1) = ((q + 1 : Nat) : Int) by unfold wrap64; omega]
    have e : wrap64 (wsum l i + (q : Int) * l.getD i 0 + l.getD i 0) = wsum l i + ((q + 1 : Nat) : Int) * l.getD i 0 := by
      have e2 : ((q + 1 : Nat) : Int) * l.getD i 0 = (q : Int) * l.getD i 0 + l.getD i 0 := by rw [show ((q + 1 : Nat) : Int) = (q : Int) + 1 by omega, Int.add_mul, Int.one_mul]
      rw [e2]
      unfold wrap64; omega
    rw [e]; exact ih
theorem refWeight_l0 (l : List Int) (hl : ∀ j, 0 ≤ l.getD j 0 ∧ l.getD j 0 ≤ 1114111) (hll : l.length ≤ 2000) : ∀ d i, i + d = l.length → ∃ K, ∀ k, K ≤ k → althingref04_Weight.l0 k l (wsum l i) (i : Int) = some (wsum l l.length)
  | 0, i, h => ⟨1, fun k hk => by
      obtain ⟨k, rfl⟩ : ∃ k', k = k' + 1 := ⟨k - 1, by omega⟩
      unfold althingref04_Weight.l0
      rw [if_neg (by omega), show i = l.length by omega]⟩
  | d + 1, i, h => by
    obtain ⟨K, hK⟩ := refWeight_l0 l hl hll d (i + 1) (by omega)
    refine ⟨K + 1 + (i + 1) + 1, fun k hk => ?_⟩
    obtain ⟨k, rfl⟩ : ∃ k', k = k' + 1 := ⟨k - 1, by omega⟩
    have h1 := refWeight_l1 l (wsum l l.length) i K hl (by omega) hll (fun k hk => by have := hK k hk; rwa [show ((i + 1 : Nat) : Int) = (i : Int) + 1 by omega] at this) (i + 1) 0 (by omega) k (by omega)
    unfold althingref04_Weight.l0
    rw [if_pos (by omega)]
    simpa using h1
theorem refWeight_is (s : ByteArray) (hs : s.size ≤ 2000) : ∃ K, ∀ k, K ≤ k → althingref04_Weight.f k s = some (weight s) := by
  have hl := runes_len s
  obtain ⟨K, hK⟩ := refWeight_l0 (runes s) (runes_at s) (by omega) (runes s).length 0 (by omega)
  refine ⟨K + 2007, fun k hk => ?_⟩
  unfold althingref04_Weight.f
  rw [refRunes_is s hs k (by omega), Option.bind_some]
  exact hK k (by omega)
end Go.Proofs.Ytnjeeedndnfglaa.Keys
end
section
namespace Go.Proofs.Ytnjeeedndnfglaa.Keys
open Go.RowKit Go.Proofs.YtnjeeedndnfglaaW.PrintWords Go.Proofs.YtnjeeedndnfglaaW.PrintLast Go.Proofs.YtnjeeedndnfglaaW.PrintMore Go.Proofs.Ytnjeeedndnfglaa.X
set_option linter.unusedSimpArgs false
set_option linter.unusedVariables false
end Go.Proofs.Ytnjeeedndnfglaa.Keys
end
