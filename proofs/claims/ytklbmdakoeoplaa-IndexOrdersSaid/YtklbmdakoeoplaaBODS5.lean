/- What the claim ODS leans on: texts joined by bundle.py, a program of ours; the words cut down to what is used. -/
import Derived.Test.YtklbmdakoeoplaaBODS4
section
namespace Go.Proofs.Ytklbmdakoeoplaa.X
open Go.RowKit Go.Proofs.YtklbmdakoeoplaaW.PrintWords Go.Proofs.YtklbmdakoeoplaaW.PrintLast Go.Proofs.YtklbmdakoeoplaaW.PrintMore
attribute [local go_sem] max2_int min2_int max_two min_two max_three min_three max_four min_four   -- for this text's walks alone
set_option linter.unusedVariables false
set_option linter.unusedSimpArgs false
/-! ### althingref04_Join: function 48 -/
mutual
def althingref04_Join.l0 : Nat → List ByteArray → List ByteArray → Int → Option (List ByteArray)
 | 0, _, _, _ => none
 | k + 1, x5, x6, x7 => if x7 < (x6.length : Int) then (if 0 ≤ x7 then ((althingref04_In.f k x5 (rdOf ByteArray.empty x6 x7)).bind fun t271 => (if t271 = true then (althingref04_Join.l0 k x5 x6 (wrap64 (x7 + 1))) else (althingref04_Join.l1 k x5 x6 x7 0))) else (none)) else (some x5)
def althingref04_Join.l1 : Nat → List ByteArray → List ByteArray → Int → Int → Option (List ByteArray)
 | 0, _, _, _, _ => none
 | k + 1, x5, x6, x7, x8 => if x8 < (x5.length : Int) then (if 0 ≤ x8 then (if 0 ≤ x7 then (if x7 < (x6.length : Int) then ((althingref04_Before.f k (rdOf ByteArray.empty x5 x8) (rdOf ByteArray.empty x6 x7)).bind fun t274 => (if t274 = true then (althingref04_Join.l1 k x5 x6 x7 (wrap64 (x8 + 1))) else ((some (([] : List ByteArray) : List ByteArray)).bind fun y275 => (if x8 ≤ (x5.length : Int) then ((some (x5.drop (x8 : Int).toNat : List ByteArray)).bind fun y278 => (if y275.length + y278.length < 8796093022208 then ((some (y275 ++ y278 : List ByteArray)).bind fun y282 => ((some (x5.take (x8 : Int).toNat : List ByteArray)).bind fun y285 => (if y285.length < 8796093022208 then ((some (y285 ++ [rdOf ByteArray.empty x6 x7] : List ByteArray)).bind fun y289 => (if y289.length + y282.length < 8796093022208 then (althingref04_Join.l0 k (y289 ++ y282) x6 (wrap64 (x7 + 1))) else (none))) else (none)))) else (none))) else (none))))) else (none)) else (none)) else (none)) else ((some (([] : List ByteArray) : List ByteArray)).bind fun y295 => (if 0 ≤ x8 then (if x8 ≤ (x5.length : Int) then ((some (x5.drop (x8 : Int).toNat : List ByteArray)).bind fun y298 => (if y295.length + y298.length < 8796093022208 then ((some (y295 ++ y298 : List ByteArray)).bind fun y302 => ((some (x5.take (x8 : Int).toNat : List ByteArray)).bind fun y305 => (if 0 ≤ x7 then (if x7 < (x6.length : Int) then (if y305.length < 8796093022208 then ((some (y305 ++ [rdOf ByteArray.empty x6 x7] : List ByteArray)).bind fun y309 => (if y309.length + y302.length < 8796093022208 then (althingref04_Join.l0 k (y309 ++ y302) x6 (wrap64 (x7 + 1))) else (none))) else (none)) else (none)) else (none)))) else (none))) else (none)) else (none)))
end
def althingref04_Join.f (k : Nat) (l0 : List ByteArray) (l1 : List ByteArray) : Option (List ByteArray) := (some (([] : List ByteArray) : List ByteArray)).bind fun y261 => (if y261.length + l0.length < 8796093022208 then ((some (y261 ++ l0 : List ByteArray)).bind fun y264 => (if y264.length + l1.length < 8796093022208 then (althingref04_Join.l0 k ([] : List ByteArray) (y264 ++ l1) 0) else (none))) else (none))
def althingref04_Join.T8 : Bool × List (List Nat × List Nat) := (true, [([], []), ([], []), ([1], [1]), ([0, 2], [0, 2]), ([3], [3]), ([4], [4]), ([4], [4]), ([5, 6, 4], [4, 5, 6]), ([7, 4], [4, 7]), ([4], [4]), ([4], [4]), ([9, 10, 4], [4, 9, 10]), ([11, 4], [4, 11]), ([8, 12, 4, 4], [4, 8, 12]), ([4, 13], [4, 13])])
def althingref04_Join.B8 : List Nat := [0, 0, 2, 7, 15, 31, 31, 127, 255, 31, 31, 1567, 3615, 8191, 16383]
theorem althingref04_Join.tab8 : rtab .any (opsOf Try.f48 8) = althingref04_Join.T8 := by kernel_rfl
theorem althingref04_Join.bits8 : waitsOk althingref04_Join.T8.2 althingref04_Join.B8 = true := by kernel_rfl
def althingref04_Join.T11 : Bool × List (List Nat × List Nat) := (true, [([], []), ([], []), ([0, 1], [0, 1]), ([], []), ([], []), ([3, 4], [3, 4]), ([5], [5]), ([6], [6]), ([2, 7], [2, 7]), ([], []), ([8, 9, 8], [8, 9]), ([10, 10, 0, 1, 2, 3, 4, 5, 6, 7, 8, 9, 10], [0, 10])])
def althingref04_Join.B11 : List Nat := [0, 0, 3, 0, 0, 24, 56, 120, 255, 0, 1023, 2047]
theorem althingref04_Join.tab11 : rtab .any (opsOf Try.f48 11) = althingref04_Join.T11 := by kernel_rfl
theorem althingref04_Join.bits11 : waitsOk althingref04_Join.T11.2 althingref04_Join.B11 = true := by kernel_rfl
set_option maxHeartbeats 8000000 in
set_option maxRecDepth 100000 in
theorem althingref04_Join.calls (k : Nat) (A0 : Option Addr) (c0 : Nat) (l0 : List ByteArray) (A1 : Option Addr) (c1 : Nat) (l1 : List ByteArray) (r : List ByteArray) (w : World) (hr0 : Kd.C Kd.string w A0 l0.length l0) (hc0 : l0.length ≤ c0) (hr1 : Kd.C Kd.string w A1 l1.length l1) (hc1 : l1.length ≤ c1) (h : althingref04_Join.f k l0 l1 = some r) :
 Calls Try.prog 48 #[.slice A0 l0.length c0, .slice A1 l1.length c1] w fun e w' => ∃ v0_ : Value, e = .returned (v0_) ∧ Kd.R Kd.string 9 w' w.heap.size (fun _ => True) v0_ r ∧ Below w.heap.size w w' := by
 have HR0 := Aside0.mk hr0
 have HC0 := Aside0.mk hc0
 clear hr0 hc0
 have HR1 := Aside0.mk hr1
 have HC1 := Aside0.mk hc1
 clear hr1 hc1
 have HB := Aside0.mk (Below.refl w.heap.size w)
 have H : ((some (([] : List ByteArray) : List ByteArray)).bind fun y261 => (if y261.length + l0.length < 8796093022208 then ((some (y261 ++ l0 : List ByteArray)).bind fun y264 => (if y264.length + l1.length < 8796093022208 then (althingref04_Join.l0 k ([] : List ByteArray) (y264 ++ l1) 0) else (none))) else (none))) = some r := h
 clear h
 obtain ⟨y261, hy261⟩ : ∃ y_ : List ByteArray, y_ = (([] : List ByteArray)) := ⟨_, rfl⟩
 replace H : (if y261.length + l0.length < 8796093022208 then ((some (y261 ++ l0 : List ByteArray)).bind fun y264 => (if y264.length + l1.length < 8796093022208 then (althingref04_Join.l0 k ([] : List ByteArray) (y264 ++ l1) 0) else (none))) else (none)) = some r := by first | (rw [hy261]; with_reducible exact H) | (have H2_ := (Option.bind_some _ _).symm.trans H; rw [hy261]; with_reducible exact H2_) | (have H2_ := (Option.bind_some _ _).symm.trans H; with_reducible exact H2_) | with_reducible exact H | (rw [hy261]; exact H) | exact H
 have Ny261 := Aside0.mk hy261
 clear hy261
 by_cases c3 : y261.length + l0.length < 8796093022208
 · rw [if_pos c3] at H
   have LMc3 := Aside0.mk c3
   clear c3
   obtain ⟨y264, hy264⟩ : ∃ y_ : List ByteArray, y_ = (y261 ++ l0) := ⟨_, rfl⟩
   replace H : (if y264.length + l1.length < 8796093022208 then (althingref04_Join.l0 k ([] : List ByteArray) (y264 ++ l1) 0) else (none)) = some r := by first | (rw [hy264]; with_reducible exact H) | (have H2_ := (Option.bind_some _ _).symm.trans H; rw [hy264]; with_reducible exact H2_) | (have H2_ := (Option.bind_some _ _).symm.trans H; with_reducible exact H2_) | with_reducible exact H | (rw [hy264]; exact H) | exact H
   have Ny264 := Aside0.mk hy264
   clear hy264
   by_cases c4 : y264.length + l1.length < 8796093022208
   · rw [if_pos c4] at H
     have LMc4 := Aside0.mk c4
     clear c4
     obtain ⟨y267, hy267⟩ : ∃ y_ : List ByteArray, y_ = (y264 ++ l1) := ⟨_, rfl⟩
     replace H : (althingref04_Join.l0 k ([] : List ByteArray) y267 0) = some r := by first | (rw [hy267]; with_reducible exact H) | (have H2_ := (Option.bind_some _ _).symm.trans H; rw [hy267]; with_reducible exact H2_) | (have H2_ := (Option.bind_some _ _).symm.trans H; with_reducible exact H2_) | with_reducible exact H | (rw [hy267]; exact H) | exact H
     have Ny267 := Aside0.mk hy267
     clear hy267
     have H' := Aside0.mk H
     clear H
     go_enter Try.func48, Try.ntmps48
     go_wp2_with (first | ((with_reducible refine gate_dst (N := 10) rfl ?_); refine Kd.R_lit Kd.string _ 9 ?hg (N := 10) ?hd (xs := ([] : List ByteArray)) (inner := []) (ok := fun _ => True) (okp := fun _ => True) ?hr ?hp (fun _ hk => hk) trivial (Below.refl _ _) (Nat.le_refl _) (by simp) ?_; (case hd => rfl); (case hg => rfl); (case hr => first | (go_simp; done) | (go_simp; rfl)); (case hp => exact (Reps.none _ _)); intro v262 w5 ho6 hb hg_ hnew_; clear hg_ hnew_; (first | rw [← Ny261.out] at ho6 | (simp only [Int.reduceToNat] at ho6; rw [← Ny261.out] at ho6)); have n0_ := Aside0.mk (Kd.R_lower ho6 (below_size lb_)); have n1_ := Aside0.mk (below_step lb_ hb); clear HB; have HO263 := n0_; have HB := n1_; clear n0_ n1_; clear hb ho6) | ((with_reducible refine gate_builtin (b := .append) (xs := #[.tmp 10, .tmp 11]) rfl ?_); at_builtin; refine Kd.R_append_rows Kd.string (w0 := w) w.heap.size rfl (.tmp 10) (.tmp 11) 68 9 (.string ⟨#[]⟩) 16 rfl Try.underlying68 info9 rfl (by decide) (by omega) v262 y261 l0 _ _ _ (fun _ => True) (fun _ => False) rfl rfl ?aO ?aR (fun _ _ h => h) (fun _ h => h.elim) ?aF ?aB ?aS ?aL ?_; (case aR => repeat (first | exact (Kd.C_below HR0.out HB.out) | (with_reducible refine Kd.C_alloc ?_ _) | (with_reducible refine Kd.C_drewN ?_ _) | (with_reducible refine Kd.C_drew ?_))); (case aB => exact lb_); (case aF => exact (fun _ _ => trivial)); (case aO => exact (kr_ HO263.out)); (case aS => exact (below_size lb_)); (case aL => have := LMc3.out; omega); intro v265 w7 ho hb hg hat; rw [← Ny264.out] at ho; have n0_ := Aside0.mk (hb); have n1_ := Aside0.mk (ho); clear HB; clear HO263; have HB := n0_; have HO266 := n1_; clear n0_ n1_; clear ho hb hg hat) | ((with_reducible refine gate_builtin (b := .append) (xs := #[.tmp 12, .tmp 13]) rfl ?_); at_builtin; refine Kd.R_append_rows Kd.string (w0 := w) w.heap.size rfl (.tmp 12) (.tmp 13) 68 9 (.string ⟨#[]⟩) 16 rfl Try.underlying68 info9 rfl (by decide) (by omega) v265 y264 l1 _ _ _ (fun _ => True) (fun _ => False) rfl rfl ?aO ?aR (fun _ _ h => h) (fun _ h => h.elim) ?aF ?aB ?aS ?aL ?_; (case aR => repeat (first | exact (Kd.C_below HR1.out HB.out) | (with_reducible refine Kd.C_alloc ?_ _) | (with_reducible refine Kd.C_drewN ?_ _) | (with_reducible refine Kd.C_drew ?_))); (case aB => exact lb_); (case aF => exact (fun _ _ => trivial)); (case aO => exact (kr_ HO266.out)); (case aS => exact (below_size lb_)); (case aL => have := LMc4.out; omega); intro v268 w8 ho hb hg hat; rw [← Ny267.out] at ho; have n0_ := Aside0.mk (hb); have n1_ := Aside0.mk (ho); clear HB; clear HO266; have HB := n0_; have HO269 := n1_; clear n0_ n1_; clear ho hb hg hat))
     go_loopg [5, 7] k (fun kq v5 v7 w' => ∃ (x5_1 : List ByteArray) (x7_1 : Int), v7 = .int .i64 x7_1 ∧ Aside0 (althingref04_Join.l0 kq x5_1 y267 x7_1 = some r) ∧ Aside0 (kq ≤ k) ∧ Aside0 (Kd.R Kd.string 9 w' w.heap.size (fun k_ => some k_ ≠ (v268 : Value).ownBlock) v5 x5_1) ∧ Aside0 (Kd.R Kd.string 9 w' w.heap.size (fun k_ => some k_ ≠ (v5 : Value).ownBlock) v268 y267) ∧ Aside0 (Below w.heap.size w w'))
     case atStart => exact ⟨(([] : List ByteArray)), (0), (by first | rfl | (simp; done) | (simp [*]; done)), H', ⟨Nat.le_refl _⟩, ⟨by first | exact Kd.R_nil _ _ _ _ _ | exact Kd.N_nil _ _ _ _ _ | exact Kd.V_nil _ _ _ _ _ | exact Kd.Q_nil _ _ _ _ _ | exact Kd.S_nil _ _ _ _ _⟩, ⟨by (with_reducible repeat (first | apply Kd.R_alloc | apply Kd.R_drewN | apply Kd.R_drew)); exact Kd.R_mono HO269.out (fun _ hk => (by simp [Value.ownBlock]))⟩, ⟨by repeat (first | (with_reducible first | exact HB.out | apply below_alloc | apply pw_below_drewN | apply below_drew1) | exact HB.out)⟩⟩
     case round =>
      clear H'
      try clear c1
      try clear p2
      try clear c3
      try clear c4
      obtain ⟨x5_1, x7_1, rfl, HA, HK1, HO_5, HO_6, HB⟩ := hrel
      cases gk with
      | zero => exact absurd HA.out (by simp [althingref04_Join.l0])
      | succ k1 =>
       have H := HA.out
       clear HA
       simp only [althingref04_Join.l0] at H
       by_cases c9 : x7_1 < (y267.length : Int)
       · rw [if_pos c9] at H
         have c9b0 : decide (x7_1 < (y267.length : Int)) = true := decide_eq_true c9
         clear c9
         by_cases c10 : 0 ≤ x7_1
         · rw [if_pos c10] at H
           have c10b0 : decide (0 ≤ x7_1) = true := decide_eq_true c10
           clear c10
           obtain ⟨t271, A11, H⟩ := bs_ H
           by_cases c12 : t271 = true
           · subst c12
             rw [if_pos rfl] at H
             have H' := Aside0.mk H
             clear H
             obtain ⟨Ao13, co13, eo13⟩ := Kd.R_slice HO_6.out
             subst eo13
             have p270 : 0 ≤ (x7_1 : Int) := of_decide_eq_true (by first | (with_reducible assumption) | assumption)
             have q270 : x7_1 < (y267.length : Int) := of_decide_eq_true (by first | (with_reducible assumption) | assumption)
             obtain ⟨ad270, e270, hx270_0⟩ := Kd.at_string (Kd.R_reads' HO_6.out).2.2 x7_1 p270 q270
             cases e270
             replace p270 := eq_true p270
             replace q270 := eq_true q270
             obtain ⟨Ao14, co14, eo14⟩ := Kd.R_slice HO_5.out
             subst eo14
             go_wp2_with (first | ((with_reducible refine gate_callee (f := 41) rfl ?_); refine goesL_ (some 26) rfl rfl Try.func41 (by kernel_rfl) rfl #[.slice Ao14 x5_1.length co14, .string (rdOf ByteArray.empty y267 x7_1)] rfl (by (try simp only [List.map_toArray, List.map_cons, List.map_nil]); first | done | rfl | (simp only [List.length_drop, List.length_take]; rfl)) ?_; (with_reducible refine (althingref04_In.calls k1 _ _ x5_1 (rdOf ByteArray.empty y267 x7_1) true _ ?side1 ?side2 A11.out).mono ?_); (case side1 => repeat (first | exact (Kd.R_reads' HO_5.out).2.2 | (with_reducible refine Kd.C_alloc ?_ _) | (with_reducible refine Kd.C_drewN ?_ _) | (with_reducible refine Kd.C_drew ?_))); (case side2 => exact (Kd.R_reads' HO_5.out).2.1); rintro e w' ⟨rfl, ⟨nd, rfl⟩⟩; refine ⟨_, rfl, ?_⟩))
             go_roundg k1
             case measure => have := HK1.out; omega
             case rel => exact ⟨(x5_1), (wrap64 (x7_1 + 1)), (by first | rfl | (simp; done) | (simp [*]; done)), H', ⟨by have := HK1.out; omega⟩, ⟨by (with_reducible repeat (first | apply Kd.R_alloc | apply Kd.R_drewN | apply Kd.R_drew)); exact HO_5.out⟩, ⟨by (with_reducible repeat (first | apply Kd.R_alloc | apply Kd.R_drewN | apply Kd.R_drew)); exact HO_6.out⟩, ⟨by repeat (first | (with_reducible first | exact HB.out | apply below_alloc | apply pw_below_drewN | apply below_drew1) | exact HB.out)⟩⟩
           · replace c12 := Bool.eq_false_iff.mpr c12
             subst c12
             rw [if_neg (show ¬ (false = true) by decide)] at H
             have H' := Aside0.mk H
             clear H
             obtain ⟨Ao15, co15, eo15⟩ := Kd.R_slice HO_6.out
             subst eo15
             have p270 : 0 ≤ (x7_1 : Int) := of_decide_eq_true (by first | (with_reducible assumption) | assumption)
             have q270 : x7_1 < (y267.length : Int) := of_decide_eq_true (by first | (with_reducible assumption) | assumption)
             obtain ⟨ad270, e270, hx270_0⟩ := Kd.at_string (Kd.R_reads' HO_6.out).2.2 x7_1 p270 q270
             cases e270
             replace p270 := eq_true p270
             replace q270 := eq_true q270
             obtain ⟨Ao16, co16, eo16⟩ := Kd.R_slice HO_5.out
             subst eo16
             go_wp2_with (first | ((with_reducible refine gate_callee (f := 41) rfl ?_); refine goesL_ (some 26) rfl rfl Try.func41 (by kernel_rfl) rfl #[.slice Ao16 x5_1.length co16, .string (rdOf ByteArray.empty y267 x7_1)] rfl (by (try simp only [List.map_toArray, List.map_cons, List.map_nil]); first | done | rfl | (simp only [List.length_drop, List.length_take]; rfl)) ?_; (with_reducible refine (althingref04_In.calls k1 _ _ x5_1 (rdOf ByteArray.empty y267 x7_1) false _ ?side1 ?side2 A11.out).mono ?_); (case side1 => repeat (first | exact (Kd.R_reads' HO_5.out).2.2 | (with_reducible refine Kd.C_alloc ?_ _) | (with_reducible refine Kd.C_drewN ?_ _) | (with_reducible refine Kd.C_drew ?_))); (case side2 => exact (Kd.R_reads' HO_5.out).2.1); rintro e w' ⟨rfl, ⟨nd, rfl⟩⟩; refine ⟨_, rfl, ?_⟩))
             go_loopg [8] k1 (fun kq v8 w' => ∃ (x8_2 : Int), v8 = .int .i64 x8_2 ∧ Aside0 (althingref04_Join.l1 kq x5_1 y267 x7_1 x8_2 = some r) ∧ Aside0 (kq ≤ k1) ∧ Aside0 (Kd.R Kd.string 9 w' w.heap.size (fun k_ => some k_ ≠ ((.slice (some ad270) y267.length co15) : Value).ownBlock) (.slice Ao16 x5_1.length co16) x5_1) ∧ Aside0 (Kd.R Kd.string 9 w' w.heap.size (fun k_ => some k_ ≠ ((.slice Ao16 x5_1.length co16) : Value).ownBlock) (.slice (some ad270) y267.length co15) y267) ∧ Aside0 (Below w.heap.size w w'))
             case atStart => exact ⟨(0), (by first | rfl | (simp; done) | (simp [*]; done)), H', ⟨Nat.le_refl _⟩, ⟨by (with_reducible repeat (first | apply Kd.R_alloc | apply Kd.R_drewN | apply Kd.R_drew)); exact HO_5.out⟩, ⟨by (with_reducible repeat (first | apply Kd.R_alloc | apply Kd.R_drewN | apply Kd.R_drew)); exact HO_6.out⟩, ⟨by repeat (first | (with_reducible first | exact HB.out | apply below_alloc | apply pw_below_drewN | apply below_drew1) | exact HB.out)⟩⟩
             case round =>
              clear H'
              try clear c1
              try clear p2
              try clear q2
              try clear hx2
              try clear c3
              try clear c4
              try clear p6
              try clear c9
              try clear c9b0
              try clear c10
              try clear c10b0
              try clear c12
              try clear hx270_0
              try clear p2
              try clear p270
              try clear q270
              obtain ⟨x8_2, rfl, HA, HK2, HO_5, HO_6, HB⟩ := hrel
              cases gk with
              | zero => exact absurd HA.out (by simp [althingref04_Join.l1])
              | succ k2 =>
               have H := HA.out
               clear HA
               simp only [althingref04_Join.l1] at H
               by_cases c17 : x8_2 < (x5_1.length : Int)
               · rw [if_pos c17] at H
                 have c17b0 : decide (x8_2 < (x5_1.length : Int)) = true := decide_eq_true c17
                 clear c17
                 by_cases c18 : 0 ≤ x8_2
                 · rw [if_pos c18] at H
                   have c18b0 : decide (0 ≤ x8_2) = true := decide_eq_true c18
                   clear c18
                   by_cases c19 : 0 ≤ x7_1
                   · rw [if_pos c19] at H
                     have c19b0 : decide (0 ≤ x7_1) = true := decide_eq_true c19
                     clear c19
                     by_cases c20 : x7_1 < (y267.length : Int)
                     · rw [if_pos c20] at H
                       have c20b0 : decide (x7_1 < (y267.length : Int)) = true := decide_eq_true c20
                       clear c20
                       obtain ⟨t274, A21, H⟩ := bs_ H
                       by_cases c22 : t274 = true
                       · subst c22
                         rw [if_pos rfl] at H
                         have H' := Aside0.mk H
                         clear H
                         try go_wp2
                         have n0_ := Aside0.mk (Kd.R_drew HO_5.out)
                         have n1_ := Aside0.mk (Kd.R_drew HO_6.out)
                         have n2_ := Aside0.mk (below_drew1 HB.out)
                         clear HO_5
                         clear HO_6
                         clear HB
                         have HO_5 := n0_
                         have HO_6 := n1_
                         have HB := n2_
                         clear n0_ n1_ n2_
                         have p272 : 0 ≤ (x8_2 : Int) := of_decide_eq_true (by first | (with_reducible assumption) | assumption)
                         have q272 : x8_2 < (x5_1.length : Int) := of_decide_eq_true (by first | (with_reducible assumption) | assumption)
                         obtain ⟨ad272, e272, hx272_0⟩ := Kd.at_string (Kd.R_reads' HO_5.out).2.2 x8_2 p272 q272
                         cases e272
                         replace p272 := eq_true p272
                         replace q272 := eq_true q272
                         have p273 : 0 ≤ (x7_1 : Int) := of_decide_eq_true (by first | (with_reducible assumption) | assumption)
                         have q273 : x7_1 < (y267.length : Int) := of_decide_eq_true (by first | (with_reducible assumption) | assumption)
                         obtain ⟨ad273, e273, hx273_0⟩ := Kd.at_string (Kd.R_reads' HO_6.out).2.2 x7_1 p273 q273
                         obtain rfl : ad270 = ad273 := (by injection e273)
                         replace p273 := eq_true p273
                         replace q273 := eq_true q273
                         refine start_ (n := 15) (S := fun w' => w'.cell? (ad272.add (x8_2).toNat) = some (.string (rdOf ByteArray.empty x5_1 x8_2)) ∧ w'.cell? (ad270.add (x7_1).toNat) = some (.string (rdOf ByteArray.empty y267 x7_1))) (ds := []) #[false, false, false, false, false, false, false, false, false, false, false, false, false, false, false] (by kernel_rfl) rfl rfl ⟨hx272_0, hx273_0⟩ (fun hHeld => ?_); refine with_tabW althingref04_Join.tab8 althingref04_Join.bits8 (fun HT_ HW_ => ?_)
                         generalize wr.drew = w23 at HO_5 HO_6 HB hx272_0 hx273_0 hHeld ⊢
                         refine pure_ (i := 0) (N := some 27) (v := ?_) (a' := ?_) #[true, false, false, false, false, false, false, false, false, false, false, false, false, false, false] rfl rfl (any_of HT_.out (by kernel_rfl)) (fun _ _ _ h => h) (Or.inl ⟨by rfl, ?_⟩) ?_ ?_
                         rotate_left
                         · intro w'
                           go_simp
                           with_reducible rfl
                         rotate_left
                         · simp only [Act.put, List.setIfInBounds_toArray, List.set_cons_zero, List.set_cons_succ, i64_w, i32_w]
                           rfl
                         refine pure_ (i := 1) (N := some 28) (v := ?_) (a' := ?_) #[true, true, false, false, false, false, false, false, false, false, false, false, false, false, false] rfl rfl (any_of HT_.out (by kernel_rfl)) (fun _ _ _ h => h) (Or.inl ⟨by rfl, ?_⟩) ?_ ?_
                         rotate_left
                         · intro w'
                           go_simp
                           with_reducible rfl
                         rotate_left
                         · simp only [Act.put, List.setIfInBounds_toArray, List.set_cons_zero, List.set_cons_succ, i64_w, i32_w]
                           rfl
                         refine pure_ (i := 2) (N := some 29) (v := ?_) (a' := ?_) #[true, true, true, false, false, false, false, false, false, false, false, false, false, false, false] rfl rfl (any_of HT_.out (by kernel_rfl)) (fun _ _ _ h => h) (Or.inl ⟨by rfl, ?_⟩) ?_ ?_
                         rotate_left
                         · intro w'
                           go_simp
                           with_reducible rfl
                         rotate_left
                         · simp only [Act.put, List.setIfInBounds_toArray, List.set_cons_zero, List.set_cons_succ, i64_w, i32_w]
                           rfl
                         refine pure_ (i := 3) (N := some 30) (v := ?_) (a' := ?_) #[true, true, true, true, false, false, false, false, false, false, false, false, false, false, false] rfl rfl (any_of HT_.out (by kernel_rfl)) (fun _ _ _ h => h) (Or.inl ⟨by rfl, ?_⟩) ?_ ?_
                         rotate_left
                         · intro w'
                           go_simp
                           with_reducible rfl
                         rotate_left
                         · simp only [Act.put, List.setIfInBounds_toArray, List.set_cons_zero, List.set_cons_succ, i64_w, i32_w]
                           rfl
                         refine pure_ (i := 4) (N := some 31) (v := ?_) (a' := ?_) #[true, true, true, true, true, false, false, false, false, false, false, false, false, false, false] rfl rfl (any_of HT_.out (by kernel_rfl)) (fun _ _ _ h => h) (Or.inl ⟨by rfl, ?_⟩) ?_ ?_
                         rotate_left
                         · intro w'
                           go_simp
                           with_reducible rfl
                         rotate_left
                         · simp only [Act.put, List.setIfInBounds_toArray, List.set_cons_zero, List.set_cons_succ, i64_w, i32_w]
                           rfl
                         refine pure_ (i := 5) (N := some 32) (v := ?_) (a' := ?_) #[true, true, true, true, true, true, false, false, false, false, false, false, false, false, false] rfl rfl (any_of HT_.out (by kernel_rfl)) (fun _ _ _ h => h) (Or.inl ⟨by rfl, ?_⟩) ?_ ?_
                         rotate_left
                         · intro w'
                           go_simp
                           with_reducible rfl
                         rotate_left
                         · simp only [Act.put, List.setIfInBounds_toArray, List.set_cons_zero, List.set_cons_succ, i64_w, i32_w]
                           rfl
                         refine pure_ (i := 6) (N := some 33) (v := ?_) (a' := ?_) #[true, true, true, true, true, true, true, false, false, false, false, false, false, false, false] rfl rfl (any_of HT_.out (by kernel_rfl)) (fun _ _ _ h => h) (Or.inl ⟨by rfl, ?_⟩) ?_ ?_
                         rotate_left
                         · intro w'
                           go_simp
                           with_reducible rfl
                         rotate_left
                         · simp only [Act.put, List.setIfInBounds_toArray, List.set_cons_zero, List.set_cons_succ, i64_w, i32_w]
                           rfl
                         refine pure_ (i := 7) (N := some 34) (v := ?_) (a' := ?_) #[true, true, true, true, true, true, true, true, false, false, false, false, false, false, false] rfl rfl (any_of HT_.out (by kernel_rfl)) (fun _ _ _ h => h) (Or.inl ⟨by rfl, ?_⟩) ?_ ?_
                         rotate_left
                         · intro w'
                           go_simp
                           with_reducible rfl
                         rotate_left
                         · simp only [Act.put, List.setIfInBounds_toArray, List.set_cons_zero, List.set_cons_succ, i64_w, i32_w]
                           rfl
                         refine pure_ (i := 9) (N := some 36) (v := ?_) (a' := ?_) #[true, true, true, true, true, true, true, true, false, true, false, false, false, false, false] rfl rfl (any_of HT_.out (by kernel_rfl)) (fun _ _ _ h => h) (Or.inl ⟨by rfl, ?_⟩) ?_ ?_
                         rotate_left
                         · intro w'
                           go_simp
                           with_reducible rfl
                         rotate_left
                         · simp only [Act.put, List.setIfInBounds_toArray, List.set_cons_zero, List.set_cons_succ, i64_w, i32_w]
                           rfl
                         refine pure_ (i := 10) (N := some 37) (v := ?_) (a' := ?_) #[true, true, true, true, true, true, true, true, false, true, true, false, false, false, false] rfl rfl (any_of HT_.out (by kernel_rfl)) (fun _ _ _ h => h) (Or.inl ⟨by rfl, ?_⟩) ?_ ?_
                         rotate_left
                         · intro w'
                           go_simp
                           with_reducible rfl
                         rotate_left
                         · simp only [Act.put, List.setIfInBounds_toArray, List.set_cons_zero, List.set_cons_succ, i64_w, i32_w]
                           rfl
                         refine pure_ (i := 11) (N := some 38) (v := ?_) (a' := ?_) #[true, true, true, true, true, true, true, true, false, true, true, true, false, false, false] rfl rfl (any_of HT_.out (by kernel_rfl)) (fun _ _ _ h => h) (Or.inl ⟨by rfl, ?_⟩) ?_ ?_
                         rotate_left
                         · intro w'
                           go_simp
                           with_reducible rfl
                         rotate_left
                         · simp only [Act.put, List.setIfInBounds_toArray, List.set_cons_zero, List.set_cons_succ, i64_w, i32_w]
                           rfl
                         refine take_ (i := 8) (N := some 35) (v := ?_) (a' := ?_) #[true, true, true, true, true, true, true, true, true, true, true, true, false, false, false] rfl rfl (take_ofW HT_.out HW_.out (by kernel_rfl)) (fun _ _ _ h => h) (Or.inl ⟨by rfl, ?_⟩) hHeld ?_ ?_
                         rotate_left
                         · rintro w' ⟨s0, s1⟩
                           go_simp
                           with_reducible rfl
                         rotate_left
                         · simp only [Act.put, List.setIfInBounds_toArray, List.set_cons_zero, List.set_cons_succ, i64_w, i32_w]
                           rfl
                         refine take_ (i := 12) (N := some 39) (v := ?_) (a' := ?_) #[true, true, true, true, true, true, true, true, true, true, true, true, true, false, false] rfl rfl (take_ofW HT_.out HW_.out (by kernel_rfl)) (fun _ _ _ h => h) (Or.inl ⟨by rfl, ?_⟩) hHeld ?_ ?_
                         rotate_left
                         · rintro w' ⟨s0, s1⟩
                           go_simp
                           with_reducible rfl
                         rotate_left
                         · simp only [Act.put, List.setIfInBounds_toArray, List.set_cons_zero, List.set_cons_succ, i64_w, i32_w]
                           rfl
                         refine one_ (i := 13) (N := some 40) #[true, true, true, true, true, true, true, true, true, true, true, true, true, true, false] rfl rfl (one_of HT_.out (by kernel_rfl)) (by decide) (fun K hK => ?_)
                         refine goes_ Try.func55 (by kernel_rfl) rfl #[.string (rdOf ByteArray.empty x5_1 x8_2), .string (rdOf ByteArray.empty y267 x7_1)] (by rfl) rfl rfl (by (try simp only [List.map_toArray, List.map_cons, List.map_nil]); first | done | rfl | (simp only [List.length_drop, List.length_take]; rfl)) ?_
                         with_reducible refine (althingref04_Before.calls k2 (rdOf ByteArray.empty x5_1 x8_2) (rdOf ByteArray.empty y267 x7_1) true _ A21.out).mono ?_
                         rintro e w' ⟨rfl, ⟨nd, rfl⟩⟩
                         refine ⟨_, rfl, ?_⟩
                         refine hK.out _ _ ⟨hHeld.1, hHeld.2⟩ (fun hHeld => ?_)
                         clear hK K
                         refine norm_ (a' := ?_) ?_ ?_
                         rotate_left
                         · show Act.put _ (some 40) _ = _
                           simp only [Act.put, List.setIfInBounds_toArray, List.set_cons_zero, List.set_cons_succ, i64_w, i32_w]
                           rfl
                         refine pure_ (i := 14) (N := some 41) (v := ?_) (a' := ?_) #[true, true, true, true, true, true, true, true, true, true, true, true, true, true, true] rfl rfl (any_of HT_.out (by kernel_rfl)) (fun _ _ _ h => h) (Or.inl ⟨by rfl, ?_⟩) ?_ ?_
                         rotate_left
                         · intro w'
                           go_simp
                           with_reducible rfl
                         rotate_left
                         · simp only [Act.put, List.setIfInBounds_toArray, List.set_cons_zero, List.set_cons_succ, i64_w, i32_w]
                           rfl
                         refine done_ (done_of HT_.out (by kernel_rfl)) ?_
                         try go_wp2
                         go_roundg k2
                         case measure => have := HK1.out; have := HK2.out; omega
                         case rel => exact ⟨(wrap64 (x8_2 + 1)), (by first | rfl | (simp; done) | (simp [*]; done)), H', ⟨by have := HK1.out; have := HK2.out; omega⟩, ⟨by (with_reducible repeat (first | apply Kd.R_alloc | apply Kd.R_drewN | apply Kd.R_drew)); exact HO_5.out⟩, ⟨by (with_reducible repeat (first | apply Kd.R_alloc | apply Kd.R_drewN | apply Kd.R_drew)); exact HO_6.out⟩, ⟨by repeat (first | (with_reducible first | exact HB.out | apply below_alloc | apply pw_below_drewN | apply below_drew1) | exact HB.out)⟩⟩
                       · replace c22 := Bool.eq_false_iff.mpr c22
                         subst c22
                         rw [if_neg (show ¬ (false = true) by decide)] at H
                         obtain ⟨y275, hy275⟩ : ∃ y_ : List ByteArray, y_ = (([] : List ByteArray)) := ⟨_, rfl⟩
                         replace H : (if x8_2 ≤ (x5_1.length : Int) then ((some (x5_1.drop (x8_2 : Int).toNat : List ByteArray)).bind fun y278 => (if y275.length + y278.length < 8796093022208 then ((some (y275 ++ y278 : List ByteArray)).bind fun y282 => ((some (x5_1.take (x8_2 : Int).toNat : List ByteArray)).bind fun y285 => (if y285.length < 8796093022208 then ((some (y285 ++ [rdOf ByteArray.empty y267 x7_1] : List ByteArray)).bind fun y289 => (if y289.length + y282.length < 8796093022208 then (althingref04_Join.l0 k2 (y289 ++ y282) y267 (wrap64 (x7_1 + 1))) else (none))) else (none)))) else (none))) else (none)) = some r := by first | (rw [hy275]; with_reducible exact H) | (have H2_ := (Option.bind_some _ _).symm.trans H; rw [hy275]; with_reducible exact H2_) | (have H2_ := (Option.bind_some _ _).symm.trans H; with_reducible exact H2_) | with_reducible exact H | (rw [hy275]; exact H) | exact H
                         have Ny275 := Aside0.mk hy275
                         clear hy275
                         have c24b0 := eq_true (of_decide_eq_true (by first | (with_reducible assumption) | assumption) : 0 ≤ x8_2)
                         by_cases c25 : x8_2 ≤ (x5_1.length : Int)
                         · rw [if_pos c25] at H
                           have c25b0 := eq_true c25
                           have c25b1 : decide (x8_2 ≤ (x5_1.length : Int)) = true := decide_eq_true c25
                           clear c25
                           obtain ⟨y278, hy278⟩ : ∃ y_ : List ByteArray, y_ = (x5_1.drop (x8_2 : Int).toNat) := ⟨_, rfl⟩
                           replace H : (if y275.length + y278.length < 8796093022208 then ((some (y275 ++ y278 : List ByteArray)).bind fun y282 => ((some (x5_1.take (x8_2 : Int).toNat : List ByteArray)).bind fun y285 => (if y285.length < 8796093022208 then ((some (y285 ++ [rdOf ByteArray.empty y267 x7_1] : List ByteArray)).bind fun y289 => (if y289.length + y282.length < 8796093022208 then (althingref04_Join.l0 k2 (y289 ++ y282) y267 (wrap64 (x7_1 + 1))) else (none))) else (none)))) else (none)) = some r := by first | (rw [hy278]; with_reducible exact H) | (have H2_ := (Option.bind_some _ _).symm.trans H; rw [hy278]; with_reducible exact H2_) | (have H2_ := (Option.bind_some _ _).symm.trans H; with_reducible exact H2_) | with_reducible exact H | (rw [hy278]; exact H) | exact H
                           have Ny278 := Aside0.mk hy278
                           clear hy278
                           by_cases c26 : y275.length + y278.length < 8796093022208
                           · rw [if_pos c26] at H
                             have LMc26 := Aside0.mk c26
                             clear c26
                             obtain ⟨y282, hy282⟩ : ∃ y_ : List ByteArray, y_ = (y275 ++ y278) := ⟨_, rfl⟩
                             replace H : ((some (x5_1.take (x8_2 : Int).toNat : List ByteArray)).bind fun y285 => (if y285.length < 8796093022208 then ((some (y285 ++ [rdOf ByteArray.empty y267 x7_1] : List ByteArray)).bind fun y289 => (if y289.length + y282.length < 8796093022208 then (althingref04_Join.l0 k2 (y289 ++ y282) y267 (wrap64 (x7_1 + 1))) else (none))) else (none))) = some r := by first | (rw [hy282]; with_reducible exact H) | (have H2_ := (Option.bind_some _ _).symm.trans H; rw [hy282]; with_reducible exact H2_) | (have H2_ := (Option.bind_some _ _).symm.trans H; with_reducible exact H2_) | with_reducible exact H | (rw [hy282]; exact H) | exact H
                             have Ny282 := Aside0.mk hy282
                             clear hy282
                             have c27b0 := eq_true (of_decide_eq_true (by first | (with_reducible assumption) | assumption) : x8_2 ≤ (x5_1.length : Int))
                             obtain ⟨y285, hy285⟩ : ∃ y_ : List ByteArray, y_ = (x5_1.take (x8_2 : Int).toNat) := ⟨_, rfl⟩
                             replace H : (if y285.length < 8796093022208 then ((some (y285 ++ [rdOf ByteArray.empty y267 x7_1] : List ByteArray)).bind fun y289 => (if y289.length + y282.length < 8796093022208 then (althingref04_Join.l0 k2 (y289 ++ y282) y267 (wrap64 (x7_1 + 1))) else (none))) else (none)) = some r := by first | (rw [hy285]; with_reducible exact H) | (have H2_ := (Option.bind_some _ _).symm.trans H; rw [hy285]; with_reducible exact H2_) | (have H2_ := (Option.bind_some _ _).symm.trans H; with_reducible exact H2_) | with_reducible exact H | (rw [hy285]; exact H) | exact H
                             have Ny285 := Aside0.mk hy285
                             clear hy285
                             by_cases c28 : y285.length < 8796093022208
                             · rw [if_pos c28] at H
                               have LMc28 := Aside0.mk c28
                               clear c28
                               obtain ⟨y289, hy289⟩ : ∃ y_ : List ByteArray, y_ = (y285 ++ [rdOf ByteArray.empty y267 x7_1]) := ⟨_, rfl⟩
                               replace H : (if y289.length + y282.length < 8796093022208 then (althingref04_Join.l0 k2 (y289 ++ y282) y267 (wrap64 (x7_1 + 1))) else (none)) = some r := by first | (rw [hy289]; with_reducible exact H) | (have H2_ := (Option.bind_some _ _).symm.trans H; rw [hy289]; with_reducible exact H2_) | (have H2_ := (Option.bind_some _ _).symm.trans H; with_reducible exact H2_) | with_reducible exact H | (rw [hy289]; exact H) | exact H
                               have Ny289 := Aside0.mk hy289
                               clear hy289
                               by_cases c29 : y289.length + y282.length < 8796093022208
                               · rw [if_pos c29] at H
                                 have LMc29 := Aside0.mk c29
                                 clear c29
                                 obtain ⟨y292, hy292⟩ : ∃ y_ : List ByteArray, y_ = (y289 ++ y282) := ⟨_, rfl⟩
                                 replace H : (althingref04_Join.l0 k2 y292 y267 (wrap64 (x7_1 + 1))) = some r := by first | (rw [hy292]; with_reducible exact H) | (have H2_ := (Option.bind_some _ _).symm.trans H; rw [hy292]; with_reducible exact H2_) | (have H2_ := (Option.bind_some _ _).symm.trans H; with_reducible exact H2_) | with_reducible exact H | (rw [hy292]; exact H) | exact H
                                 have Ny292 := Aside0.mk hy292
                                 clear hy292
                                 have H' := Aside0.mk H
                                 clear H
                                 try go_wp2
                                 have n0_ := Aside0.mk (Kd.R_drew HO_5.out)
                                 have n1_ := Aside0.mk (Kd.R_drew HO_6.out)
                                 have n2_ := Aside0.mk (below_drew1 HB.out)
                                 clear HO_5
                                 clear HO_6
                                 clear HB
                                 have HO_5 := n0_
                                 have HO_6 := n1_
                                 have HB := n2_
                                 clear n0_ n1_ n2_
                                 have p272 : 0 ≤ (x8_2 : Int) := of_decide_eq_true (by first | (with_reducible assumption) | assumption)
                                 have q272 : x8_2 < (x5_1.length : Int) := of_decide_eq_true (by first | (with_reducible assumption) | assumption)
                                 obtain ⟨ad272, e272, hx272_0⟩ := Kd.at_string (Kd.R_reads' HO_5.out).2.2 x8_2 p272 q272
                                 cases e272
                                 replace p272 := eq_true p272
                                 replace q272 := eq_true q272
                                 have p273 : 0 ≤ (x7_1 : Int) := of_decide_eq_true (by first | (with_reducible assumption) | assumption)
                                 have q273 : x7_1 < (y267.length : Int) := of_decide_eq_true (by first | (with_reducible assumption) | assumption)
                                 obtain ⟨ad273, e273, hx273_0⟩ := Kd.at_string (Kd.R_reads' HO_6.out).2.2 x7_1 p273 q273
                                 obtain rfl : ad270 = ad273 := (by injection e273)
                                 replace p273 := eq_true p273
                                 replace q273 := eq_true q273
                                 refine start_ (n := 15) (S := fun w' => w'.cell? (ad272.add (x8_2).toNat) = some (.string (rdOf ByteArray.empty x5_1 x8_2)) ∧ w'.cell? (ad270.add (x7_1).toNat) = some (.string (rdOf ByteArray.empty y267 x7_1))) (ds := []) #[false, false, false, false, false, false, false, false, false, false, false, false, false, false, false] (by kernel_rfl) rfl rfl ⟨hx272_0, hx273_0⟩ (fun hHeld => ?_); refine with_tabW althingref04_Join.tab8 althingref04_Join.bits8 (fun HT_ HW_ => ?_)
                                 generalize wr.drew = w30 at HO_5 HO_6 HB hx272_0 hx273_0 hHeld ⊢
                                 refine pure_ (i := 0) (N := some 27) (v := ?_) (a' := ?_) #[true, false, false, false, false, false, false, false, false, false, false, false, false, false, false] rfl rfl (any_of HT_.out (by kernel_rfl)) (fun _ _ _ h => h) (Or.inl ⟨by rfl, ?_⟩) ?_ ?_
                                 rotate_left
                                 · intro w'
                                   go_simp
                                   with_reducible rfl
                                 rotate_left
                                 · simp only [Act.put, List.setIfInBounds_toArray, List.set_cons_zero, List.set_cons_succ, i64_w, i32_w]
                                   rfl
                                 refine pure_ (i := 1) (N := some 28) (v := ?_) (a' := ?_) #[true, true, false, false, false, false, false, false, false, false, false, false, false, false, false] rfl rfl (any_of HT_.out (by kernel_rfl)) (fun _ _ _ h => h) (Or.inl ⟨by rfl, ?_⟩) ?_ ?_
                                 rotate_left
                                 · intro w'
                                   go_simp
                                   with_reducible rfl
                                 rotate_left
                                 · simp only [Act.put, List.setIfInBounds_toArray, List.set_cons_zero, List.set_cons_succ, i64_w, i32_w]
                                   rfl
                                 refine pure_ (i := 2) (N := some 29) (v := ?_) (a' := ?_) #[true, true, true, false, false, false, false, false, false, false, false, false, false, false, false] rfl rfl (any_of HT_.out (by kernel_rfl)) (fun _ _ _ h => h) (Or.inl ⟨by rfl, ?_⟩) ?_ ?_
                                 rotate_left
                                 · intro w'
                                   go_simp
                                   with_reducible rfl
                                 rotate_left
                                 · simp only [Act.put, List.setIfInBounds_toArray, List.set_cons_zero, List.set_cons_succ, i64_w, i32_w]
                                   rfl
                                 refine pure_ (i := 3) (N := some 30) (v := ?_) (a' := ?_) #[true, true, true, true, false, false, false, false, false, false, false, false, false, false, false] rfl rfl (any_of HT_.out (by kernel_rfl)) (fun _ _ _ h => h) (Or.inl ⟨by rfl, ?_⟩) ?_ ?_
                                 rotate_left
                                 · intro w'
                                   go_simp
                                   with_reducible rfl
                                 rotate_left
                                 · simp only [Act.put, List.setIfInBounds_toArray, List.set_cons_zero, List.set_cons_succ, i64_w, i32_w]
                                   rfl
                                 refine pure_ (i := 4) (N := some 31) (v := ?_) (a' := ?_) #[true, true, true, true, true, false, false, false, false, false, false, false, false, false, false] rfl rfl (any_of HT_.out (by kernel_rfl)) (fun _ _ _ h => h) (Or.inl ⟨by rfl, ?_⟩) ?_ ?_
                                 rotate_left
                                 · intro w'
                                   go_simp
                                   with_reducible rfl
                                 rotate_left
                                 · simp only [Act.put, List.setIfInBounds_toArray, List.set_cons_zero, List.set_cons_succ, i64_w, i32_w]
                                   rfl
                                 refine pure_ (i := 5) (N := some 32) (v := ?_) (a' := ?_) #[true, true, true, true, true, true, false, false, false, false, false, false, false, false, false] rfl rfl (any_of HT_.out (by kernel_rfl)) (fun _ _ _ h => h) (Or.inl ⟨by rfl, ?_⟩) ?_ ?_
                                 rotate_left
                                 · intro w'
                                   go_simp
                                   with_reducible rfl
                                 rotate_left
                                 · simp only [Act.put, List.setIfInBounds_toArray, List.set_cons_zero, List.set_cons_succ, i64_w, i32_w]
                                   rfl
                                 refine pure_ (i := 6) (N := some 33) (v := ?_) (a' := ?_) #[true, true, true, true, true, true, true, false, false, false, false, false, false, false, false] rfl rfl (any_of HT_.out (by kernel_rfl)) (fun _ _ _ h => h) (Or.inl ⟨by rfl, ?_⟩) ?_ ?_
                                 rotate_left
                                 · intro w'
                                   go_simp
                                   with_reducible rfl
                                 rotate_left
                                 · simp only [Act.put, List.setIfInBounds_toArray, List.set_cons_zero, List.set_cons_succ, i64_w, i32_w]
                                   rfl
                                 refine pure_ (i := 7) (N := some 34) (v := ?_) (a' := ?_) #[true, true, true, true, true, true, true, true, false, false, false, false, false, false, false] rfl rfl (any_of HT_.out (by kernel_rfl)) (fun _ _ _ h => h) (Or.inl ⟨by rfl, ?_⟩) ?_ ?_
                                 rotate_left
                                 · intro w'
                                   go_simp
                                   with_reducible rfl
                                 rotate_left
                                 · simp only [Act.put, List.setIfInBounds_toArray, List.set_cons_zero, List.set_cons_succ, i64_w, i32_w]
                                   rfl
                                 refine pure_ (i := 9) (N := some 36) (v := ?_) (a' := ?_) #[true, true, true, true, true, true, true, true, false, true, false, false, false, false, false] rfl rfl (any_of HT_.out (by kernel_rfl)) (fun _ _ _ h => h) (Or.inl ⟨by rfl, ?_⟩) ?_ ?_
                                 rotate_left
                                 · intro w'
                                   go_simp
                                   with_reducible rfl
                                 rotate_left
                                 · simp only [Act.put, List.setIfInBounds_toArray, List.set_cons_zero, List.set_cons_succ, i64_w, i32_w]
                                   rfl
                                 refine pure_ (i := 10) (N := some 37) (v := ?_) (a' := ?_) #[true, true, true, true, true, true, true, true, false, true, true, false, false, false, false] rfl rfl (any_of HT_.out (by kernel_rfl)) (fun _ _ _ h => h) (Or.inl ⟨by rfl, ?_⟩) ?_ ?_
                                 rotate_left
                                 · intro w'
                                   go_simp
                                   with_reducible rfl
                                 rotate_left
                                 · simp only [Act.put, List.setIfInBounds_toArray, List.set_cons_zero, List.set_cons_succ, i64_w, i32_w]
                                   rfl
                                 refine pure_ (i := 11) (N := some 38) (v := ?_) (a' := ?_) #[true, true, true, true, true, true, true, true, false, true, true, true, false, false, false] rfl rfl (any_of HT_.out (by kernel_rfl)) (fun _ _ _ h => h) (Or.inl ⟨by rfl, ?_⟩) ?_ ?_
                                 rotate_left
                                 · intro w'
                                   go_simp
                                   with_reducible rfl
                                 rotate_left
                                 · simp only [Act.put, List.setIfInBounds_toArray, List.set_cons_zero, List.set_cons_succ, i64_w, i32_w]
                                   rfl
                                 refine take_ (i := 8) (N := some 35) (v := ?_) (a' := ?_) #[true, true, true, true, true, true, true, true, true, true, true, true, false, false, false] rfl rfl (take_ofW HT_.out HW_.out (by kernel_rfl)) (fun _ _ _ h => h) (Or.inl ⟨by rfl, ?_⟩) hHeld ?_ ?_
                                 rotate_left
                                 · rintro w' ⟨s0, s1⟩
                                   go_simp
                                   with_reducible rfl
                                 rotate_left
                                 · simp only [Act.put, List.setIfInBounds_toArray, List.set_cons_zero, List.set_cons_succ, i64_w, i32_w]
                                   rfl
                                 refine take_ (i := 12) (N := some 39) (v := ?_) (a' := ?_) #[true, true, true, true, true, true, true, true, true, true, true, true, true, false, false] rfl rfl (take_ofW HT_.out HW_.out (by kernel_rfl)) (fun _ _ _ h => h) (Or.inl ⟨by rfl, ?_⟩) hHeld ?_ ?_
                                 rotate_left
                                 · rintro w' ⟨s0, s1⟩
                                   go_simp
                                   with_reducible rfl
                                 rotate_left
                                 · simp only [Act.put, List.setIfInBounds_toArray, List.set_cons_zero, List.set_cons_succ, i64_w, i32_w]
                                   rfl
                                 refine one_ (i := 13) (N := some 40) #[true, true, true, true, true, true, true, true, true, true, true, true, true, true, false] rfl rfl (one_of HT_.out (by kernel_rfl)) (by decide) (fun K hK => ?_)
                                 refine goes_ Try.func55 (by kernel_rfl) rfl #[.string (rdOf ByteArray.empty x5_1 x8_2), .string (rdOf ByteArray.empty y267 x7_1)] (by rfl) rfl rfl (by (try simp only [List.map_toArray, List.map_cons, List.map_nil]); first | done | rfl | (simp only [List.length_drop, List.length_take]; rfl)) ?_
                                 with_reducible refine (althingref04_Before.calls k2 (rdOf ByteArray.empty x5_1 x8_2) (rdOf ByteArray.empty y267 x7_1) false _ A21.out).mono ?_
                                 rintro e w' ⟨rfl, ⟨nd, rfl⟩⟩
                                 refine ⟨_, rfl, ?_⟩
                                 refine hK.out _ _ ⟨hHeld.1, hHeld.2⟩ (fun hHeld => ?_)
                                 clear hK K
                                 refine norm_ (a' := ?_) ?_ ?_
                                 rotate_left
                                 · show Act.put _ (some 40) _ = _
                                   simp only [Act.put, List.setIfInBounds_toArray, List.set_cons_zero, List.set_cons_succ, i64_w, i32_w]
                                   rfl
                                 refine pure_ (i := 14) (N := some 41) (v := ?_) (a' := ?_) #[true, true, true, true, true, true, true, true, true, true, true, true, true, true, true] rfl rfl (any_of HT_.out (by kernel_rfl)) (fun _ _ _ h => h) (Or.inl ⟨by rfl, ?_⟩) ?_ ?_
                                 rotate_left
                                 · intro w'
                                   go_simp
                                   with_reducible rfl
                                 rotate_left
                                 · simp only [Act.put, List.setIfInBounds_toArray, List.set_cons_zero, List.set_cons_succ, i64_w, i32_w]
                                   rfl
                                 refine done_ (done_of HT_.out (by kernel_rfl)) ?_
                                 try go_wp2_with (first | ((with_reducible refine gate_dst (N := 44) rfl ?_); refine Kd.R_lit Kd.string _ 9 ?hg (N := 44) ?hd (xs := ([] : List ByteArray)) (inner := []) (ok := fun _ => True) (okp := fun _ => True) ?hr ?hp (fun _ hk => hk) trivial (Below.refl _ _) (Nat.le_refl _) (by simp) ?_; (case hd => rfl); (case hg => rfl); (case hr => first | (go_simp; done) | (go_simp; rfl)); (case hp => exact (Reps.none _ _)); intro v276 w31 ho32 hb hg_ hnew_; clear hg_ hnew_; (first | rw [← Ny275.out] at ho32 | (simp only [Int.reduceToNat] at ho32; rw [← Ny275.out] at ho32)); have n0_ := Aside0.mk (Kd.R_elder' (kr_ HO_5.out) (Kd.R_base ho32) hb); have n1_ := Aside0.mk (Kd.R_elder' (kr_ HO_6.out) (Kd.R_base ho32) hb); have n2_ := Aside0.mk (Kd.R_lower (Kd.R_new' (Kd.R_new' ho32 (Kd.R_lt (kr_ HO_5.out))) (Kd.R_lt (kr_ HO_6.out))) (below_size lb_)); have n3_ := Aside0.mk (below_step lb_ hb); clear HO_5; clear HO_6; clear HB; have HO_5 := n0_; have HO_6 := n1_; have HO277 := n2_; have HB := n3_; clear n0_ n1_ n2_ n3_; clear hb ho32; have q33 : (x8_2 : Int) ≤ ((x5_1.length : Int) : Int) := of_decide_eq_true (by first | (with_reducible assumption) | assumption); obtain ⟨i033, hi033, _, hsz33, _⟩ := info_parts info9; have hroom33 : x5_1.length ≤ co16 := (Kd.R_reads' HO_5.out).2.1; have hC33 : Kd.C Kd.string _ (some ad272) x5_1.length x5_1 := (Kd.R_reads' HO_5.out).2.2; have q033 : (0 : Int) ≤ (x8_2 : Int) := of_decide_eq_true (by first | (with_reducible assumption) | assumption); have hcut33 := cut_from (P := Try.prog) 68 9 .i64 Try.underlying68 hi033 1 hsz33 (some ad272) x5_1.length co16 x8_2 q033 q33; have hr33 := Kd.C_drop (m := (x8_2 : Int).toNat) (c := co16) hC33 (by omega) hroom33; obtain ⟨A33, hA33⟩ : ∃ A1, A1 = (if co16 = (x8_2 : Int).toNat then (some ad272) else ((some ad272) : Option Addr).map (·.add ((x8_2 : Int).toNat * 1))) := ⟨_, rfl⟩; obtain ⟨c33, hc33⟩ : ∃ c1, c1 = co16 - (x8_2 : Int).toNat := ⟨_, rfl⟩; have hy33 : y278.length = x5_1.length - (x8_2 : Int).toNat := (by rw [Ny278.out, List.length_drop] <;> omega); rw [show (x5_1).drop (x8_2 : Int).toNat = y278 from Ny278.out.symm] at hr33; replace hr33 : Kd.C Kd.string _ A33 y278.length y278 := (by rw [hA33]; exact hr33); rw [← hy33, ← hA33, ← hc33] at hcut33; have HR281 := Aside0.mk hr33; have HC281 := Aside0.mk (show y278.length ≤ c33 from by rw [hy33, hc33]; exact Nat.sub_le_sub_right hroom33 _); clear hr33 hC33 hroom33 hi033 hsz33 hc33; have KY33 := Aside0.mk hy33; have KA33 := Aside0.mk hA33; clear hy33 hA33; have KL33 := Aside0.mk (show (x8_2 : Int).toNat ≤ x5_1.length from by omega); replace q33 := eq_true q33) | ((with_reducible refine gate_builtin (b := .append) (xs := #[.tmp 44, .tmp 47]) rfl ?_); at_builtin; refine Kd.R_append_rows Kd.string (w0 := w) w.heap.size rfl (.tmp 44) (.tmp 47) 68 9 (.string ⟨#[]⟩) 16 rfl Try.underlying68 info9 rfl (by decide) (by omega) v276 y275 y278 _ _ _ (fun k_ => some k_ ≠ (.slice (some ad272) x5_1.length co16 : Value).ownBlock ∧ some k_ ≠ (.slice (some ad270) y267.length co15 : Value).ownBlock) (fun _ => False) rfl rfl ?aO ?aR (fun _ _ h => h) (fun _ h => h.elim) ?aF ?aB ?aS ?aL ?_; (case aR => repeat (first | exact (by repeat (first | (with_reducible exact HR281.out) | (with_reducible refine Kd.C_alloc ?_ _) | (with_reducible refine Kd.C_drewN ?_ _) | (with_reducible refine Kd.C_drew ?_) | exact HR281.out)) | (with_reducible refine Kd.C_alloc ?_ _) | (with_reducible refine Kd.C_drewN ?_ _) | (with_reducible refine Kd.C_drew ?_))); (case aB => exact lb_); (case aF => exact (fun k_ hk => ⟨Kd.fresh' (Kd.R_lt (kr_ HO_5.out)) k_ hk, Kd.fresh' (Kd.R_lt (kr_ HO_6.out)) k_ hk⟩)); (case aO => exact (by (with_reducible repeat (first | apply Kd.R_alloc | apply Kd.R_drewN | apply Kd.R_drew)); exact Kd.R_mono HO277.out (fun _ hk => ⟨hk.1.2, hk.2⟩))); (case aS => exact (below_size lb_)); (case aL => have := LMc26.out; omega); intro v283 w34 ho hb hg hat; rw [← Ny282.out] at ho; have n0_ := Aside0.mk (Kd.R_after (ok := (fun k_ => some k_ ≠ (.slice (some ad270) y267.length co15 : Value).ownBlock)) (kr_ HO_5.out) hg hat); have n1_ := Aside0.mk (Kd.R_after (ok := (fun k_ => some k_ ≠ (.slice (some ad272) x5_1.length co16 : Value).ownBlock)) (kr_ HO_6.out) hg hat); have n2_ := Aside0.mk (hb); have n3_ := Aside0.mk ((show Kd.C Kd.string w34 A33 y278.length y278 from by rw [Ny278.out, KA33.out]; exact Kd.C_drop (m := (x8_2 : Int).toNat) (c := co16) ((Kd.R_reads' (Kd.R_after (ok := (fun k_ => some k_ ≠ (.slice (some ad270) y267.length co15 : Value).ownBlock)) (kr_ HO_5.out) hg hat)).2.2) KL33.out ((Kd.R_reads' (Kd.R_after (ok := (fun k_ => some k_ ≠ (.slice (some ad270) y267.length co15 : Value).ownBlock)) (kr_ HO_5.out) hg hat)).2.1))); have n4_ := Aside0.mk (ho); clear HO_5; clear HO_6; clear HB; clear HR281; clear HO277; have HO_5 := n0_; have HO_6 := n1_; have HB := n2_; have HR281 := n3_; have HO284 := n4_; clear n0_ n1_ n2_ n3_ n4_; clear ho hb hg hat))
                                 have n0_ := Aside0.mk (Kd.R_drew HO_5.out)
                                 have n1_ := Aside0.mk (Kd.R_drew HO_6.out)
                                 have n2_ := Aside0.mk (Kd.R_drew HO284.out)
                                 have n3_ := Aside0.mk (Kd.C_drew HR281.out)
                                 have n4_ := Aside0.mk (below_drew1 HB.out)
                                 clear HO_5
                                 clear HO_6
                                 clear HO284
                                 clear HR281
                                 clear HB
                                 have HO_5 := n0_
                                 have HO_6 := n1_
                                 have HO284 := n2_
                                 have HR281 := n3_
                                 have HB := n4_
                                 clear n0_ n1_ n2_ n3_ n4_
                                 have q36 : (x8_2 : Int) ≤ ((x5_1.length : Int) : Int) := of_decide_eq_true (by first | (with_reducible assumption) | assumption)
                                 obtain ⟨i036, hi036, _, hsz36, _⟩ := info_parts info9
                                 have hcut36 := cut_to (P := Try.prog) 68 9 .i64 Try.underlying68 hi036 (some ad272) x5_1.length co16 x8_2 (of_decide_eq_true (by first | (with_reducible assumption) | assumption)) q36 (Kd.R_reads' HO_5.out).2.1
                                 have hr36 := Kd.R_take (m := (x8_2 : Int).toNat) HO_5.out (by omega)
                                 have hy36 : y285.length = (x8_2 : Int).toNat := (by rw [Ny285.out, List.length_take]; omega)
                                 rw [← Ny285.out] at hr36
                                 rw [← hy36] at hr36 hcut36
                                 clear hy36 hi036 hsz36 HO_5
                                 have HO287 := Aside0.mk hr36
                                 clear hr36
                                 replace q36 := eq_true q36
                                 have p288 : 0 ≤ (x7_1 : Int) := of_decide_eq_true (by first | (with_reducible assumption) | assumption)
                                 have q288 : x7_1 < (y267.length : Int) := of_decide_eq_true (by first | (with_reducible assumption) | assumption)
                                 obtain ⟨ad288, e288, hx288_0⟩ := Kd.at_string (Kd.R_reads' HO_6.out).2.2 x7_1 p288 q288
                                 obtain rfl : ad270 = ad288 := (by injection e288)
                                 replace p288 := eq_true p288
                                 replace q288 := eq_true q288
                                 refine start_ (n := 12) (S := fun w' => w'.cell? (ad270.add (x7_1).toNat) = some (.string (rdOf ByteArray.empty y267 x7_1))) (ds := [7, 8, 10]) #[false, false, false, false, false, false, false, false, false, false, false, false] (by kernel_rfl) rfl rfl (hx288_0) (fun hHeld => ?_); refine with_tabW althingref04_Join.tab11 althingref04_Join.bits11 (fun HT_ HW_ => ?_)
                                 generalize w34.drew = w35 at HO_5 HO_6 HO284 HR281 HB HO287 hx288_0 hHeld ⊢
                                 refine pure_ (i := 0) (N := some 49) (v := ?_) (a' := ?_) #[true, false, false, false, false, false, false, false, false, false, false, false] rfl rfl (any_of HT_.out (by kernel_rfl)) (fun _ _ _ h => h) (Or.inl ⟨by rfl, ?_⟩) ?_ ?_
                                 rotate_left
                                 · intro w'
                                   go_simp
                                   with_reducible rfl
                                 rotate_left
                                 · simp only [Act.put, List.setIfInBounds_toArray, List.set_cons_zero, List.set_cons_succ, i64_w, i32_w]
                                   rfl
                                 refine pure_ (i := 1) (N := some 50) (v := ?_) (a' := ?_) #[true, true, false, false, false, false, false, false, false, false, false, false] rfl rfl (any_of HT_.out (by kernel_rfl)) (fun _ _ _ h => h) (Or.inl ⟨by rfl, ?_⟩) ?_ ?_
                                 rotate_left
                                 · intro w'
                                   go_simp
                                   with_reducible rfl
                                 rotate_left
                                 · simp only [Act.put, List.setIfInBounds_toArray, List.set_cons_zero, List.set_cons_succ, i64_w, i32_w]
                                   rfl
                                 refine pure_ (i := 2) (N := some 51) (v := ?_) (a' := ?_) #[true, true, true, false, false, false, false, false, false, false, false, false] rfl rfl (any_of HT_.out (by kernel_rfl)) (fun _ _ _ h => h) (Or.inl ⟨by rfl, ?_⟩) ?_ ?_
                                 rotate_left
                                 · intro w'
                                   go_simp
                                   with_reducible rfl
                                 rotate_left
                                 · simp only [Act.put, List.setIfInBounds_toArray, List.set_cons_zero, List.set_cons_succ, i64_w, i32_w]
                                   rfl
                                 refine pure_ (i := 3) (N := some 52) (v := ?_) (a' := ?_) #[true, true, true, true, false, false, false, false, false, false, false, false] rfl rfl (any_of HT_.out (by kernel_rfl)) (fun _ _ _ h => h) (Or.inl ⟨by rfl, ?_⟩) ?_ ?_
                                 rotate_left
                                 · intro w'
                                   go_simp
                                   with_reducible rfl
                                 rotate_left
                                 · simp only [Act.put, List.setIfInBounds_toArray, List.set_cons_zero, List.set_cons_succ, i64_w, i32_w]
                                   rfl
                                 refine pure_ (i := 4) (N := some 53) (v := ?_) (a' := ?_) #[true, true, true, true, true, false, false, false, false, false, false, false] rfl rfl (any_of HT_.out (by kernel_rfl)) (fun _ _ _ h => h) (Or.inl ⟨by rfl, ?_⟩) ?_ ?_
                                 rotate_left
                                 · intro w'
                                   go_simp
                                   with_reducible rfl
                                 rotate_left
                                 · simp only [Act.put, List.setIfInBounds_toArray, List.set_cons_zero, List.set_cons_succ, i64_w, i32_w]
                                   rfl
                                 refine pure_ (i := 5) (N := some 54) (v := ?_) (a' := ?_) #[true, true, true, true, true, true, false, false, false, false, false, false] rfl rfl (any_of HT_.out (by kernel_rfl)) (fun _ _ _ h => h) (Or.inl ⟨by rfl, ?_⟩) ?_ ?_
                                 rotate_left
                                 · intro w'
                                   go_simp
                                   with_reducible rfl
                                 rotate_left
                                 · simp only [Act.put, List.setIfInBounds_toArray, List.set_cons_zero, List.set_cons_succ, i64_w, i32_w]
                                   rfl
                                 refine pure_ (i := 9) (N := some 58) (v := ?_) (a' := ?_) #[true, true, true, true, true, true, false, false, false, true, false, false] rfl rfl (any_of HT_.out (by kernel_rfl)) (fun _ _ _ h => h) (Or.inl ⟨by rfl, ?_⟩) ?_ ?_
                                 rotate_left
                                 · intro w'
                                   go_simp
                                   with_reducible rfl
                                 rotate_left
                                 · simp only [Act.put, List.setIfInBounds_toArray, List.set_cons_zero, List.set_cons_succ, i64_w, i32_w]
                                   rfl
                                 refine take_ (i := 6) (N := some 55) (v := ?_) (a' := ?_) #[true, true, true, true, true, true, true, false, false, true, false, false] rfl rfl (take_ofW HT_.out HW_.out (by kernel_rfl)) (fun _ _ _ h => h) (Or.inl ⟨by rfl, ?_⟩) hHeld ?_ ?_
                                 rotate_left
                                 · intro w' s0
                                   go_simp
                                   with_reducible rfl
                                 rotate_left
                                 · simp only [Act.put, List.setIfInBounds_toArray, List.set_cons_zero, List.set_cons_succ, i64_w, i32_w]
                                   rfl
                                 refine last_ (i := 7) (N := some 56) #[true, true, true, true, true, true, true, true, false, true, false, false] rfl rfl (one_of HT_.out (by kernel_rfl)) (by decide) (fun K hK => ?_)
                                 refine value_ (w1 := ?_) (v := ?_) (by rfl) rfl ?_ ?_
                                 rotate_left 2
                                 · go_simp
                                   constructor
                                   · rfl
                                   · rfl
                                 refine hK.out _ _ ?_
                                 clear hK K
                                 refine norm_ (a' := ?_) ?_ ?_
                                 rotate_left
                                 · show Act.put _ (some 56) _ = _
                                   simp only [Act.put, List.setIfInBounds_toArray, List.set_cons_zero, List.set_cons_succ, i64_w, i32_w]
                                   rfl
                                 refine last_ (i := 8) (N := some 57) #[true, true, true, true, true, true, true, true, true, true, false, false] rfl rfl (one_of HT_.out (by kernel_rfl)) (by decide) (fun K hK => ?_)
                                 refine Kd.R_append_step Kd.string (w0 := w) w.heap.size (by rfl) (.tmp 51) (.tmp 56) 68 9 (.string ⟨#[]⟩) 16 rfl Try.underlying68 info9 rfl (by decide) (by omega) (.slice (some ad272) y285.length co16) y285 (rdOf ByteArray.empty y267 x7_1) [.string (rdOf ByteArray.empty y267 x7_1)] (fun k_ => some k_ ≠ (.slice (some ad270) y267.length co15 : Value).ownBlock ∧ some k_ ≠ (v283 : Value).ownBlock) (fun _ => False) rfl rfl ?aP (fun _ hk => hk.elim) ?aF ?aO ?aB ?aS ?aL ?_
                                 (case aP => exact rfl)
                                 (case aB => exact lb_)
                                 (case aF => exact (fun k_ hk => ⟨Kd.fresh' (Kd.R_lt (kr_ HO_6.out)) k_ hk, Kd.fresh' (Kd.R_lt (kr_ HO284.out)) k_ hk⟩))
                                 (case aO => exact (kr_ HO287.out))
                                 (case aS => exact (below_size lb_))
                                 (case aL => have := LMc28.out; omega)
                                 intro v290 w37 ho hb hg hat
                                 rw [← Ny289.out] at ho
                                 have n0_ := Aside0.mk (Kd.R_after (ok := (fun k_ => some k_ ≠ (v283 : Value).ownBlock)) (by (with_reducible repeat (first | apply Kd.R_alloc | apply Kd.R_drewN | apply Kd.R_drew)); exact Kd.R_mono HO_6.out (fun _ hk => ⟨hk.2, by first | exact hk.1 | (have h1 := hk.1; simpa [Value.ownBlock] using h1) | (have h1 := hk.1; revert h1; cases Ao16 <;> exact id)⟩)) hg hat)
                                 have n1_ := Aside0.mk (Kd.R_after (ok := (fun k_ => some k_ ≠ (.slice (some ad270) y267.length co15 : Value).ownBlock)) (by (with_reducible repeat (first | apply Kd.R_alloc | apply Kd.R_drewN | apply Kd.R_drew)); exact Kd.R_mono HO284.out (fun _ hk => ⟨hk.2, by first | exact hk.1 | (have h1 := hk.1; simpa [Value.ownBlock] using h1) | (have h1 := hk.1; revert h1; cases Ao16 <;> exact id)⟩)) hg hat)
                                 have n2_ := Aside0.mk (hb)
                                 have n3_ := Aside0.mk (ho)
                                 clear HO_6
                                 clear HO284
                                 clear HB
                                 clear HO287
                                 have HO_6 := n0_
                                 have HO284 := n1_
                                 have HB := n2_
                                 have HO291 := n3_
                                 clear n0_ n1_ n2_ n3_
                                 clear ho hb hg hat
                                 obtain ⟨Ao39, co39, eo39⟩ := Kd.R_slice HO284.out
                                 (first | subst eo39 | (injection eo39 with f1_ f2_ f3_; have f4_ := f1_.symm; have f5_ := f3_.symm; clear f1_ f2_ f3_; subst f4_; subst f5_))
                                 refine hK.out _ _ ?_
                                 clear hK K
                                 refine norm_ (a' := ?_) ?_ ?_
                                 rotate_left
                                 · show Act.put _ (some 57) _ = _
                                   simp only [Act.put, List.setIfInBounds_toArray, List.set_cons_zero, List.set_cons_succ, i64_w, i32_w]
                                   rfl
                                 refine last_ (i := 10) (N := some 59) #[true, true, true, true, true, true, true, true, true, true, true, false] rfl rfl (one_of HT_.out (by kernel_rfl)) (by decide) (fun K hK => ?_)
                                 refine Kd.R_append_rows_step Kd.string (w0 := w) w.heap.size (by rfl) (.tmp 57) (.tmp 58) 68 9 (.string ⟨#[]⟩) 16 rfl Try.underlying68 info9 rfl (by decide) (by omega) v290 y289 y282 _ _ _ (fun k_ => some k_ ≠ (.slice (some ad270) y267.length co15 : Value).ownBlock ∧ some k_ ≠ (.slice Ao39 y282.length co39 : Value).ownBlock) (fun _ => False) rfl rfl ?aO ?aR (fun _ _ h => h) (fun _ h => h.elim) ?aF ?aB ?aS ?aL ?_
                                 (case aR => repeat (first | exact (Kd.R_reads' HO284.out).2.2 | (with_reducible refine Kd.C_alloc ?_ _) | (with_reducible refine Kd.C_drewN ?_ _) | (with_reducible refine Kd.C_drew ?_)))
                                 (case aB => exact lb_)
                                 (case aF => exact (fun k_ hk => ⟨Kd.fresh' (Kd.R_lt (kr_ HO_6.out)) k_ hk, Kd.fresh' (Kd.R_lt (kr_ HO284.out)) k_ hk⟩))
                                 (case aO => exact (kr_ HO291.out))
                                 (case aS => exact (below_size lb_))
                                 (case aL => have := LMc29.out; omega)
                                 intro v293 w38 ho hb hg hat
                                 rw [← Ny292.out] at ho
                                 have n0_ := Aside0.mk (Kd.R_after (ok := (fun k_ => some k_ ≠ (.slice Ao39 y282.length co39 : Value).ownBlock)) (kr_ HO_6.out) hg hat)
                                 have n1_ := Aside0.mk (Kd.R_after (ok := (fun k_ => some k_ ≠ (.slice (some ad270) y267.length co15 : Value).ownBlock)) (kr_ HO284.out) hg hat)
                                 have n2_ := Aside0.mk (hb)
                                 have n3_ := Aside0.mk (ho)
                                 clear HO_6
                                 clear HO284
                                 clear HB
                                 clear HO291
                                 have HO_6 := n0_
                                 have HO284 := n1_
                                 have HB := n2_
                                 have HO294 := n3_
                                 clear n0_ n1_ n2_ n3_
                                 clear ho hb hg hat
                                 refine hK.out _ _ ?_
                                 clear hK K
                                 refine norm_ (a' := ?_) ?_ ?_
                                 rotate_left
                                 · show Act.put _ (some 59) _ = _
                                   simp only [Act.put, List.setIfInBounds_toArray, List.set_cons_zero, List.set_cons_succ, i64_w, i32_w]
                                   rfl
                                 refine pure_ (i := 11) (N := some 5) (v := ?_) (a' := ?_) #[true, true, true, true, true, true, true, true, true, true, true, true] rfl rfl (any_of HT_.out (by kernel_rfl)) (fun _ _ _ h => h) (Or.inl ⟨by rfl, ?_⟩) ?_ ?_
                                 rotate_left
                                 · intro w'
                                   go_simp
                                   with_reducible rfl
                                 rotate_left
                                 · simp only [Act.put, List.setIfInBounds_toArray, List.set_cons_zero, List.set_cons_succ, i64_w, i32_w]
                                   rfl
                                 refine done_ (done_of HT_.out (by kernel_rfl)) ?_
                                 try go_wp2
                                 go_roundg k2
                                 case measure => have := HK1.out; have := HK2.out; omega
                                 case rel => exact ⟨(y292), (wrap64 (x7_1 + 1)), (by first | rfl | (simp; done) | (simp [*]; done)), H', ⟨by have := HK1.out; have := HK2.out; omega⟩, ⟨by (with_reducible repeat (first | apply Kd.R_alloc | apply Kd.R_drewN | apply Kd.R_drew)); exact Kd.R_mono HO294.out (fun _ hk => hk.1)⟩, ⟨by (with_reducible repeat (first | apply Kd.R_alloc | apply Kd.R_drewN | apply Kd.R_drew)); exact Kd.R_mono HO_6.out (fun _ hk => hk.2)⟩, ⟨by repeat (first | (with_reducible first | exact HB.out | apply below_alloc | apply pw_below_drewN | apply below_drew1) | exact HB.out)⟩⟩
                               · rw [if_neg c29] at H
                                 exact absurd H (by simp)
                             · rw [if_neg c28] at H
                               exact absurd H (by simp)
                           · rw [if_neg c26] at H
                             exact absurd H (by simp)
                         · rw [if_neg c25] at H
                           exact absurd H (by simp)
                     · rw [if_neg c20] at H
                       exact absurd H (by simp)
                   · rw [if_neg c19] at H
                     exact absurd H (by simp)
                 · rw [if_neg c18] at H
                   exact absurd H (by simp)
               · rw [if_neg c17] at H
                 have c17b0 : decide (x8_2 < (x5_1.length : Int)) = false := decide_eq_false c17
                 clear c17
                 obtain ⟨y295, hy295⟩ : ∃ y_ : List ByteArray, y_ = (([] : List ByteArray)) := ⟨_, rfl⟩
                 replace H : (if 0 ≤ x8_2 then (if x8_2 ≤ (x5_1.length : Int) then ((some (x5_1.drop (x8_2 : Int).toNat : List ByteArray)).bind fun y298 => (if y295.length + y298.length < 8796093022208 then ((some (y295 ++ y298 : List ByteArray)).bind fun y302 => ((some (x5_1.take (x8_2 : Int).toNat : List ByteArray)).bind fun y305 => (if 0 ≤ x7_1 then (if x7_1 < (y267.length : Int) then (if y305.length < 8796093022208 then ((some (y305 ++ [rdOf ByteArray.empty y267 x7_1] : List ByteArray)).bind fun y309 => (if y309.length + y302.length < 8796093022208 then (althingref04_Join.l0 k2 (y309 ++ y302) y267 (wrap64 (x7_1 + 1))) else (none))) else (none)) else (none)) else (none)))) else (none))) else (none)) else (none)) = some r := by first | (rw [hy295]; with_reducible exact H) | (have H2_ := (Option.bind_some _ _).symm.trans H; rw [hy295]; with_reducible exact H2_) | (have H2_ := (Option.bind_some _ _).symm.trans H; with_reducible exact H2_) | with_reducible exact H | (rw [hy295]; exact H) | exact H
                 have Ny295 := Aside0.mk hy295
                 clear hy295
                 by_cases c40 : 0 ≤ x8_2
                 · rw [if_pos c40] at H
                   have c40b0 := eq_true c40
                   have c40b1 : decide (0 ≤ x8_2) = true := decide_eq_true c40
                   clear c40
                   by_cases c41 : x8_2 ≤ (x5_1.length : Int)
                   · rw [if_pos c41] at H
                     have c41b0 := eq_true c41
                     have c41b1 : decide (x8_2 ≤ (x5_1.length : Int)) = true := decide_eq_true c41
                     clear c41
                     obtain ⟨y298, hy298⟩ : ∃ y_ : List ByteArray, y_ = (x5_1.drop (x8_2 : Int).toNat) := ⟨_, rfl⟩
                     replace H : (if y295.length + y298.length < 8796093022208 then ((some (y295 ++ y298 : List ByteArray)).bind fun y302 => ((some (x5_1.take (x8_2 : Int).toNat : List ByteArray)).bind fun y305 => (if 0 ≤ x7_1 then (if x7_1 < (y267.length : Int) then (if y305.length < 8796093022208 then ((some (y305 ++ [rdOf ByteArray.empty y267 x7_1] : List ByteArray)).bind fun y309 => (if y309.length + y302.length < 8796093022208 then (althingref04_Join.l0 k2 (y309 ++ y302) y267 (wrap64 (x7_1 + 1))) else (none))) else (none)) else (none)) else (none)))) else (none)) = some r := by first | (rw [hy298]; with_reducible exact H) | (have H2_ := (Option.bind_some _ _).symm.trans H; rw [hy298]; with_reducible exact H2_) | (have H2_ := (Option.bind_some _ _).symm.trans H; with_reducible exact H2_) | with_reducible exact H | (rw [hy298]; exact H) | exact H
                     have Ny298 := Aside0.mk hy298
                     clear hy298
                     by_cases c42 : y295.length + y298.length < 8796093022208
                     · rw [if_pos c42] at H
                       have LMc42 := Aside0.mk c42
                       clear c42
                       obtain ⟨y302, hy302⟩ : ∃ y_ : List ByteArray, y_ = (y295 ++ y298) := ⟨_, rfl⟩
                       replace H : ((some (x5_1.take (x8_2 : Int).toNat : List ByteArray)).bind fun y305 => (if 0 ≤ x7_1 then (if x7_1 < (y267.length : Int) then (if y305.length < 8796093022208 then ((some (y305 ++ [rdOf ByteArray.empty y267 x7_1] : List ByteArray)).bind fun y309 => (if y309.length + y302.length < 8796093022208 then (althingref04_Join.l0 k2 (y309 ++ y302) y267 (wrap64 (x7_1 + 1))) else (none))) else (none)) else (none)) else (none))) = some r := by first | (rw [hy302]; with_reducible exact H) | (have H2_ := (Option.bind_some _ _).symm.trans H; rw [hy302]; with_reducible exact H2_) | (have H2_ := (Option.bind_some _ _).symm.trans H; with_reducible exact H2_) | with_reducible exact H | (rw [hy302]; exact H) | exact H
                       have Ny302 := Aside0.mk hy302
                       clear hy302
                       have c43b0 := eq_true (of_decide_eq_true (by first | (with_reducible assumption) | assumption) : x8_2 ≤ (x5_1.length : Int))
                       obtain ⟨y305, hy305⟩ : ∃ y_ : List ByteArray, y_ = (x5_1.take (x8_2 : Int).toNat) := ⟨_, rfl⟩
                       replace H : (if 0 ≤ x7_1 then (if x7_1 < (y267.length : Int) then (if y305.length < 8796093022208 then ((some (y305 ++ [rdOf ByteArray.empty y267 x7_1] : List ByteArray)).bind fun y309 => (if y309.length + y302.length < 8796093022208 then (althingref04_Join.l0 k2 (y309 ++ y302) y267 (wrap64 (x7_1 + 1))) else (none))) else (none)) else (none)) else (none)) = some r := by first | (rw [hy305]; with_reducible exact H) | (have H2_ := (Option.bind_some _ _).symm.trans H; rw [hy305]; with_reducible exact H2_) | (have H2_ := (Option.bind_some _ _).symm.trans H; with_reducible exact H2_) | with_reducible exact H | (rw [hy305]; exact H) | exact H
                       have Ny305 := Aside0.mk hy305
                       clear hy305
                       by_cases c44 : 0 ≤ x7_1
                       · rw [if_pos c44] at H
                         have c44b0 : decide (0 ≤ x7_1) = true := decide_eq_true c44
                         clear c44
                         by_cases c45 : x7_1 < (y267.length : Int)
                         · rw [if_pos c45] at H
                           have c45b0 : decide (x7_1 < (y267.length : Int)) = true := decide_eq_true c45
                           clear c45
                           by_cases c46 : y305.length < 8796093022208
                           · rw [if_pos c46] at H
                             have LMc46 := Aside0.mk c46
                             clear c46
                             obtain ⟨y309, hy309⟩ : ∃ y_ : List ByteArray, y_ = (y305 ++ [rdOf ByteArray.empty y267 x7_1]) := ⟨_, rfl⟩
                             replace H : (if y309.length + y302.length < 8796093022208 then (althingref04_Join.l0 k2 (y309 ++ y302) y267 (wrap64 (x7_1 + 1))) else (none)) = some r := by first | (rw [hy309]; with_reducible exact H) | (have H2_ := (Option.bind_some _ _).symm.trans H; rw [hy309]; with_reducible exact H2_) | (have H2_ := (Option.bind_some _ _).symm.trans H; with_reducible exact H2_) | with_reducible exact H | (rw [hy309]; exact H) | exact H
                             have Ny309 := Aside0.mk hy309
                             clear hy309
                             by_cases c47 : y309.length + y302.length < 8796093022208
                             · rw [if_pos c47] at H
                               have LMc47 := Aside0.mk c47
                               clear c47
                               obtain ⟨y312, hy312⟩ : ∃ y_ : List ByteArray, y_ = (y309 ++ y302) := ⟨_, rfl⟩
                               replace H : (althingref04_Join.l0 k2 y312 y267 (wrap64 (x7_1 + 1))) = some r := by first | (rw [hy312]; with_reducible exact H) | (have H2_ := (Option.bind_some _ _).symm.trans H; rw [hy312]; with_reducible exact H2_) | (have H2_ := (Option.bind_some _ _).symm.trans H; with_reducible exact H2_) | with_reducible exact H | (rw [hy312]; exact H) | exact H
                               have Ny312 := Aside0.mk hy312
                               clear hy312
                               have H' := Aside0.mk H
                               clear H
                               try go_wp2
                               have n0_ := Aside0.mk (Kd.R_drew HO_5.out)
                               have n1_ := Aside0.mk (Kd.R_drew HO_6.out)
                               have n2_ := Aside0.mk (below_drew1 HB.out)
                               clear HO_5
                               clear HO_6
                               clear HB
                               have HO_5 := n0_
                               have HO_6 := n1_
                               have HB := n2_
                               clear n0_ n1_ n2_
                               refine start_ (n := 15) (S := fun w' => True) (ds := []) #[false, false, false, false, false, false, false, false, false, false, false, false, false, false, false] (by kernel_rfl) rfl rfl trivial (fun hHeld => ?_); refine with_tabW althingref04_Join.tab8 althingref04_Join.bits8 (fun HT_ HW_ => ?_)
                               generalize wr.drew = w48 at HO_5 HO_6 HB hHeld ⊢
                               refine pure_ (i := 0) (N := some 27) (v := ?_) (a' := ?_) #[true, false, false, false, false, false, false, false, false, false, false, false, false, false, false] rfl rfl (any_of HT_.out (by kernel_rfl)) (fun _ _ _ h => h) (Or.inl ⟨by rfl, ?_⟩) ?_ ?_
                               rotate_left
                               · intro w'
                                 go_simp
                                 with_reducible rfl
                               rotate_left
                               · simp only [Act.put, List.setIfInBounds_toArray, List.set_cons_zero, List.set_cons_succ, i64_w, i32_w]
                                 rfl
                               refine pure_ (i := 1) (N := some 28) (v := ?_) (a' := ?_) #[true, true, false, false, false, false, false, false, false, false, false, false, false, false, false] rfl rfl (any_of HT_.out (by kernel_rfl)) (fun _ _ _ h => h) (Or.inl ⟨by rfl, ?_⟩) ?_ ?_
                               rotate_left
                               · intro w'
                                 go_simp
                                 with_reducible rfl
                               rotate_left
                               · simp only [Act.put, List.setIfInBounds_toArray, List.set_cons_zero, List.set_cons_succ, i64_w, i32_w]
                                 rfl
                               refine pure_ (i := 2) (N := some 29) (v := ?_) (a' := ?_) #[true, true, true, false, false, false, false, false, false, false, false, false, false, false, false] rfl rfl (any_of HT_.out (by kernel_rfl)) (fun _ _ _ h => h) (Or.inl ⟨by rfl, ?_⟩) ?_ ?_
                               rotate_left
                               · intro w'
                                 go_simp
                                 with_reducible rfl
                               rotate_left
                               · simp only [Act.put, List.setIfInBounds_toArray, List.set_cons_zero, List.set_cons_succ, i64_w, i32_w]
                                 rfl
                               refine pure_ (i := 3) (N := some 30) (v := ?_) (a' := ?_) #[true, true, true, true, false, false, false, false, false, false, false, false, false, false, false] rfl rfl (any_of HT_.out (by kernel_rfl)) (fun _ _ _ h => h) (Or.inl ⟨by rfl, ?_⟩) ?_ ?_
                               rotate_left
                               · intro w'
                                 go_simp
                                 with_reducible rfl
                               rotate_left
                               · simp only [Act.put, List.setIfInBounds_toArray, List.set_cons_zero, List.set_cons_succ, i64_w, i32_w]
                                 rfl
                               refine pure_ (i := 4) (N := some 31) (v := ?_) (a' := ?_) #[true, true, true, true, true, false, false, false, false, false, false, false, false, false, false] rfl rfl (any_of HT_.out (by kernel_rfl)) (fun _ _ _ h => h) (Or.inl ⟨by rfl, ?_⟩) ?_ ?_
                               rotate_left
                               · intro w'
                                 go_simp
                                 with_reducible rfl
                               rotate_left
                               · simp only [Act.put, List.setIfInBounds_toArray, List.set_cons_zero, List.set_cons_succ, i64_w, i32_w]
                                 rfl
                               refine pure_ (i := 5) (N := some 32) (v := undef) (a' := ?_) #[true, true, true, true, true, true, false, false, false, false, false, false, false, false, false] rfl rfl (any_of HT_.out (by kernel_rfl)) (fun _ _ _ h => h) (Or.inr ⟨by rfl, rfl⟩) ?_ ?_
                               rotate_left
                               · simp only [Act.put, List.setIfInBounds_toArray, List.set_cons_zero, List.set_cons_succ, i64_w, i32_w]
                                 rfl
                               refine pure_ (i := 6) (N := some 33) (v := undef) (a' := ?_) #[true, true, true, true, true, true, true, false, false, false, false, false, false, false, false] rfl rfl (any_of HT_.out (by kernel_rfl)) (fun _ _ _ h => h) (Or.inr ⟨by rfl, rfl⟩) ?_ ?_
                               rotate_left
                               · simp only [Act.put, List.setIfInBounds_toArray, List.set_cons_zero, List.set_cons_succ, i64_w, i32_w]
                                 rfl
                               refine pure_ (i := 7) (N := some 34) (v := undef) (a' := ?_) #[true, true, true, true, true, true, true, true, false, false, false, false, false, false, false] rfl rfl (any_of HT_.out (by kernel_rfl)) (fun _ _ _ h => h) (Or.inr ⟨by rfl, rfl⟩) ?_ ?_
                               rotate_left
                               · simp only [Act.put, List.setIfInBounds_toArray, List.set_cons_zero, List.set_cons_succ, i64_w, i32_w]
                                 rfl
                               refine pure_ (i := 8) (N := some 35) (v := undef) (a' := ?_) #[true, true, true, true, true, true, true, true, true, false, false, false, false, false, false] rfl rfl (any_of HT_.out (by kernel_rfl)) (fun _ _ _ h => h) (Or.inr ⟨by rfl, rfl⟩) ?_ ?_
                               rotate_left
                               · simp only [Act.put, List.setIfInBounds_toArray, List.set_cons_zero, List.set_cons_succ, i64_w, i32_w]
                                 rfl
                               refine pure_ (i := 9) (N := some 36) (v := undef) (a' := ?_) #[true, true, true, true, true, true, true, true, true, true, false, false, false, false, false] rfl rfl (any_of HT_.out (by kernel_rfl)) (fun _ _ _ h => h) (Or.inr ⟨by rfl, rfl⟩) ?_ ?_
                               rotate_left
                               · simp only [Act.put, List.setIfInBounds_toArray, List.set_cons_zero, List.set_cons_succ, i64_w, i32_w]
                                 rfl
                               refine pure_ (i := 10) (N := some 37) (v := undef) (a' := ?_) #[true, true, true, true, true, true, true, true, true, true, true, false, false, false, false] rfl rfl (any_of HT_.out (by kernel_rfl)) (fun _ _ _ h => h) (Or.inr ⟨by rfl, rfl⟩) ?_ ?_
                               rotate_left
                               · simp only [Act.put, List.setIfInBounds_toArray, List.set_cons_zero, List.set_cons_succ, i64_w, i32_w]
                                 rfl
                               refine pure_ (i := 11) (N := some 38) (v := undef) (a' := ?_) #[true, true, true, true, true, true, true, true, true, true, true, true, false, false, false] rfl rfl (any_of HT_.out (by kernel_rfl)) (fun _ _ _ h => h) (Or.inr ⟨by rfl, rfl⟩) ?_ ?_
                               rotate_left
                               · simp only [Act.put, List.setIfInBounds_toArray, List.set_cons_zero, List.set_cons_succ, i64_w, i32_w]
                                 rfl
                               refine pure_ (i := 12) (N := some 39) (v := undef) (a' := ?_) #[true, true, true, true, true, true, true, true, true, true, true, true, true, false, false] rfl rfl (any_of HT_.out (by kernel_rfl)) (fun _ _ _ h => h) (Or.inr ⟨by rfl, rfl⟩) ?_ ?_
                               rotate_left
                               · simp only [Act.put, List.setIfInBounds_toArray, List.set_cons_zero, List.set_cons_succ, i64_w, i32_w]
                                 rfl
                               refine pure_ (i := 13) (N := some 40) (v := undef) (a' := ?_) #[true, true, true, true, true, true, true, true, true, true, true, true, true, true, false] rfl rfl (any_of HT_.out (by kernel_rfl)) (fun _ _ _ h => h) (Or.inr ⟨by rfl, rfl⟩) ?_ ?_
                               rotate_left
                               · simp only [Act.put, List.setIfInBounds_toArray, List.set_cons_zero, List.set_cons_succ, i64_w, i32_w]
                                 rfl
                               refine pure_ (i := 14) (N := some 41) (v := ?_) (a' := ?_) #[true, true, true, true, true, true, true, true, true, true, true, true, true, true, true] rfl rfl (any_of HT_.out (by kernel_rfl)) (fun _ _ _ h => h) (Or.inl ⟨by rfl, ?_⟩) ?_ ?_
                               rotate_left
                               · intro w'
                                 go_simp
                                 with_reducible rfl
                               rotate_left
                               · simp only [Act.put, List.setIfInBounds_toArray, List.set_cons_zero, List.set_cons_succ, i64_w, i32_w]
                                 rfl
                               refine done_ (done_of HT_.out (by kernel_rfl)) ?_
                               try go_wp2_with (first | ((with_reducible refine gate_dst (N := 44) rfl ?_); refine Kd.R_lit Kd.string _ 9 ?hg (N := 44) ?hd (xs := ([] : List ByteArray)) (inner := []) (ok := fun _ => True) (okp := fun _ => True) ?hr ?hp (fun _ hk => hk) trivial (Below.refl _ _) (Nat.le_refl _) (by simp) ?_; (case hd => rfl); (case hg => rfl); (case hr => first | (go_simp; done) | (go_simp; rfl)); (case hp => exact (Reps.none _ _)); intro v296 w49 ho50 hb hg_ hnew_; clear hg_ hnew_; (first | rw [← Ny295.out] at ho50 | (simp only [Int.reduceToNat] at ho50; rw [← Ny295.out] at ho50)); have n0_ := Aside0.mk (Kd.R_elder' (kr_ HO_5.out) (Kd.R_base ho50) hb); have n1_ := Aside0.mk (Kd.R_elder' (kr_ HO_6.out) (Kd.R_base ho50) hb); have n2_ := Aside0.mk (Kd.R_lower (Kd.R_new' (Kd.R_new' ho50 (Kd.R_lt (kr_ HO_5.out))) (Kd.R_lt (kr_ HO_6.out))) (below_size lb_)); have n3_ := Aside0.mk (below_step lb_ hb); clear HO_5; clear HO_6; clear HB; have HO_5 := n0_; have HO_6 := n1_; have HO297 := n2_; have HB := n3_; clear n0_ n1_ n2_ n3_; clear hb ho50; have q51 : (x8_2 : Int) ≤ ((x5_1.length : Int) : Int) := of_decide_eq_true (by first | (with_reducible assumption) | assumption); obtain ⟨i051, hi051, _, hsz51, _⟩ := info_parts info9; have hroom51 : x5_1.length ≤ co16 := (Kd.R_reads' HO_5.out).2.1; have hC51 : Kd.C Kd.string _ Ao16 x5_1.length x5_1 := (Kd.R_reads' HO_5.out).2.2; have q051 : (0 : Int) ≤ (x8_2 : Int) := of_decide_eq_true (by first | (with_reducible assumption) | assumption); have hcut51 := cut_from (P := Try.prog) 68 9 .i64 Try.underlying68 hi051 1 hsz51 Ao16 x5_1.length co16 x8_2 q051 q51; have hr51 := Kd.C_drop (m := (x8_2 : Int).toNat) (c := co16) hC51 (by omega) hroom51; obtain ⟨A51, hA51⟩ : ∃ A1, A1 = (if co16 = (x8_2 : Int).toNat then Ao16 else (Ao16 : Option Addr).map (·.add ((x8_2 : Int).toNat * 1))) := ⟨_, rfl⟩; obtain ⟨c51, hc51⟩ : ∃ c1, c1 = co16 - (x8_2 : Int).toNat := ⟨_, rfl⟩; have hy51 : y298.length = x5_1.length - (x8_2 : Int).toNat := (by rw [Ny298.out, List.length_drop] <;> omega); rw [show (x5_1).drop (x8_2 : Int).toNat = y298 from Ny298.out.symm] at hr51; replace hr51 : Kd.C Kd.string _ A51 y298.length y298 := (by rw [hA51]; exact hr51); rw [← hy51, ← hA51, ← hc51] at hcut51; have HR301 := Aside0.mk hr51; have HC301 := Aside0.mk (show y298.length ≤ c51 from by rw [hy51, hc51]; exact Nat.sub_le_sub_right hroom51 _); clear hr51 hC51 hroom51 hi051 hsz51 hc51; have KY51 := Aside0.mk hy51; have KA51 := Aside0.mk hA51; clear hy51 hA51; have KL51 := Aside0.mk (show (x8_2 : Int).toNat ≤ x5_1.length from by omega); replace q51 := eq_true q51) | ((with_reducible refine gate_builtin (b := .append) (xs := #[.tmp 44, .tmp 47]) rfl ?_); at_builtin; refine Kd.R_append_rows Kd.string (w0 := w) w.heap.size rfl (.tmp 44) (.tmp 47) 68 9 (.string ⟨#[]⟩) 16 rfl Try.underlying68 info9 rfl (by decide) (by omega) v296 y295 y298 _ _ _ (fun k_ => some k_ ≠ (.slice Ao16 x5_1.length co16 : Value).ownBlock ∧ some k_ ≠ (.slice (some ad270) y267.length co15 : Value).ownBlock) (fun _ => False) rfl rfl ?aO ?aR (fun _ _ h => h) (fun _ h => h.elim) ?aF ?aB ?aS ?aL ?_; (case aR => repeat (first | exact (by repeat (first | (with_reducible exact HR301.out) | (with_reducible refine Kd.C_alloc ?_ _) | (with_reducible refine Kd.C_drewN ?_ _) | (with_reducible refine Kd.C_drew ?_) | exact HR301.out)) | (with_reducible refine Kd.C_alloc ?_ _) | (with_reducible refine Kd.C_drewN ?_ _) | (with_reducible refine Kd.C_drew ?_))); (case aB => exact lb_); (case aF => exact (fun k_ hk => ⟨Kd.fresh' (Kd.R_lt (kr_ HO_5.out)) k_ hk, Kd.fresh' (Kd.R_lt (kr_ HO_6.out)) k_ hk⟩)); (case aO => exact (by (with_reducible repeat (first | apply Kd.R_alloc | apply Kd.R_drewN | apply Kd.R_drew)); exact Kd.R_mono HO297.out (fun _ hk => ⟨hk.1.2, hk.2⟩))); (case aS => exact (below_size lb_)); (case aL => have := LMc42.out; omega); intro v303 w52 ho hb hg hat; rw [← Ny302.out] at ho; have n0_ := Aside0.mk (Kd.R_after (ok := (fun k_ => some k_ ≠ (.slice (some ad270) y267.length co15 : Value).ownBlock)) (kr_ HO_5.out) hg hat); have n1_ := Aside0.mk (Kd.R_after (ok := (fun k_ => some k_ ≠ (.slice Ao16 x5_1.length co16 : Value).ownBlock)) (kr_ HO_6.out) hg hat); have n2_ := Aside0.mk (hb); have n3_ := Aside0.mk ((show Kd.C Kd.string w52 A51 y298.length y298 from by rw [Ny298.out, KA51.out]; exact Kd.C_drop (m := (x8_2 : Int).toNat) (c := co16) ((Kd.R_reads' (Kd.R_after (ok := (fun k_ => some k_ ≠ (.slice (some ad270) y267.length co15 : Value).ownBlock)) (kr_ HO_5.out) hg hat)).2.2) KL51.out ((Kd.R_reads' (Kd.R_after (ok := (fun k_ => some k_ ≠ (.slice (some ad270) y267.length co15 : Value).ownBlock)) (kr_ HO_5.out) hg hat)).2.1))); have n4_ := Aside0.mk (ho); clear HO_5; clear HO_6; clear HB; clear HR301; clear HO297; have HO_5 := n0_; have HO_6 := n1_; have HB := n2_; have HR301 := n3_; have HO304 := n4_; clear n0_ n1_ n2_ n3_ n4_; clear ho hb hg hat))
                               have n0_ := Aside0.mk (Kd.R_drew HO_5.out)
                               have n1_ := Aside0.mk (Kd.R_drew HO_6.out)
                               have n2_ := Aside0.mk (Kd.R_drew HO304.out)
                               have n3_ := Aside0.mk (Kd.C_drew HR301.out)
                               have n4_ := Aside0.mk (below_drew1 HB.out)
                               clear HO_5
                               clear HO_6
                               clear HO304
                               clear HR301
                               clear HB
                               have HO_5 := n0_
                               have HO_6 := n1_
                               have HO304 := n2_
                               have HR301 := n3_
                               have HB := n4_
                               clear n0_ n1_ n2_ n3_ n4_
                               have q54 : (x8_2 : Int) ≤ ((x5_1.length : Int) : Int) := of_decide_eq_true (by first | (with_reducible assumption) | assumption)
                               obtain ⟨i054, hi054, _, hsz54, _⟩ := info_parts info9
                               have hcut54 := cut_to (P := Try.prog) 68 9 .i64 Try.underlying68 hi054 Ao16 x5_1.length co16 x8_2 (of_decide_eq_true (by first | (with_reducible assumption) | assumption)) q54 (Kd.R_reads' HO_5.out).2.1
                               have hr54 := Kd.R_take (m := (x8_2 : Int).toNat) HO_5.out (by omega)
                               have hy54 : y305.length = (x8_2 : Int).toNat := (by rw [Ny305.out, List.length_take]; omega)
                               rw [← Ny305.out] at hr54
                               rw [← hy54] at hr54 hcut54
                               clear hy54 hi054 hsz54 HO_5
                               have HO307 := Aside0.mk hr54
                               clear hr54
                               replace q54 := eq_true q54
                               have p308 : 0 ≤ (x7_1 : Int) := of_decide_eq_true (by first | (with_reducible assumption) | assumption)
                               have q308 : x7_1 < (y267.length : Int) := of_decide_eq_true (by first | (with_reducible assumption) | assumption)
                               obtain ⟨ad308, e308, hx308_0⟩ := Kd.at_string (Kd.R_reads' HO_6.out).2.2 x7_1 p308 q308
                               obtain rfl : ad270 = ad308 := (by injection e308)
                               replace p308 := eq_true p308
                               replace q308 := eq_true q308
                               refine start_ (n := 12) (S := fun w' => w'.cell? (ad270.add (x7_1).toNat) = some (.string (rdOf ByteArray.empty y267 x7_1))) (ds := [7, 8, 10]) #[false, false, false, false, false, false, false, false, false, false, false, false] (by kernel_rfl) rfl rfl (hx308_0) (fun hHeld => ?_); refine with_tabW althingref04_Join.tab11 althingref04_Join.bits11 (fun HT_ HW_ => ?_)
                               generalize w52.drew = w53 at HO_5 HO_6 HO304 HR301 HB HO307 hx308_0 hHeld ⊢
                               refine pure_ (i := 0) (N := some 49) (v := ?_) (a' := ?_) #[true, false, false, false, false, false, false, false, false, false, false, false] rfl rfl (any_of HT_.out (by kernel_rfl)) (fun _ _ _ h => h) (Or.inl ⟨by rfl, ?_⟩) ?_ ?_
                               rotate_left
                               · intro w'
                                 go_simp
                                 with_reducible rfl
                               rotate_left
                               · simp only [Act.put, List.setIfInBounds_toArray, List.set_cons_zero, List.set_cons_succ, i64_w, i32_w]
                                 rfl
                               refine pure_ (i := 1) (N := some 50) (v := ?_) (a' := ?_) #[true, true, false, false, false, false, false, false, false, false, false, false] rfl rfl (any_of HT_.out (by kernel_rfl)) (fun _ _ _ h => h) (Or.inl ⟨by rfl, ?_⟩) ?_ ?_
                               rotate_left
                               · intro w'
                                 go_simp
                                 with_reducible rfl
                               rotate_left
                               · simp only [Act.put, List.setIfInBounds_toArray, List.set_cons_zero, List.set_cons_succ, i64_w, i32_w]
                                 rfl
                               refine pure_ (i := 2) (N := some 51) (v := ?_) (a' := ?_) #[true, true, true, false, false, false, false, false, false, false, false, false] rfl rfl (any_of HT_.out (by kernel_rfl)) (fun _ _ _ h => h) (Or.inl ⟨by rfl, ?_⟩) ?_ ?_
                               rotate_left
                               · intro w'
                                 go_simp
                                 with_reducible rfl
                               rotate_left
                               · simp only [Act.put, List.setIfInBounds_toArray, List.set_cons_zero, List.set_cons_succ, i64_w, i32_w]
                                 rfl
                               refine pure_ (i := 3) (N := some 52) (v := ?_) (a' := ?_) #[true, true, true, true, false, false, false, false, false, false, false, false] rfl rfl (any_of HT_.out (by kernel_rfl)) (fun _ _ _ h => h) (Or.inl ⟨by rfl, ?_⟩) ?_ ?_
                               rotate_left
                               · intro w'
                                 go_simp
                                 with_reducible rfl
                               rotate_left
                               · simp only [Act.put, List.setIfInBounds_toArray, List.set_cons_zero, List.set_cons_succ, i64_w, i32_w]
                                 rfl
                               refine pure_ (i := 4) (N := some 53) (v := ?_) (a' := ?_) #[true, true, true, true, true, false, false, false, false, false, false, false] rfl rfl (any_of HT_.out (by kernel_rfl)) (fun _ _ _ h => h) (Or.inl ⟨by rfl, ?_⟩) ?_ ?_
                               rotate_left
                               · intro w'
                                 go_simp
                                 with_reducible rfl
                               rotate_left
                               · simp only [Act.put, List.setIfInBounds_toArray, List.set_cons_zero, List.set_cons_succ, i64_w, i32_w]
                                 rfl
                               refine pure_ (i := 5) (N := some 54) (v := ?_) (a' := ?_) #[true, true, true, true, true, true, false, false, false, false, false, false] rfl rfl (any_of HT_.out (by kernel_rfl)) (fun _ _ _ h => h) (Or.inl ⟨by rfl, ?_⟩) ?_ ?_
                               rotate_left
                               · intro w'
                                 go_simp
                                 with_reducible rfl
                               rotate_left
                               · simp only [Act.put, List.setIfInBounds_toArray, List.set_cons_zero, List.set_cons_succ, i64_w, i32_w]
                                 rfl
                               refine pure_ (i := 9) (N := some 58) (v := ?_) (a' := ?_) #[true, true, true, true, true, true, false, false, false, true, false, false] rfl rfl (any_of HT_.out (by kernel_rfl)) (fun _ _ _ h => h) (Or.inl ⟨by rfl, ?_⟩) ?_ ?_
                               rotate_left
                               · intro w'
                                 go_simp
                                 with_reducible rfl
                               rotate_left
                               · simp only [Act.put, List.setIfInBounds_toArray, List.set_cons_zero, List.set_cons_succ, i64_w, i32_w]
                                 rfl
                               refine take_ (i := 6) (N := some 55) (v := ?_) (a' := ?_) #[true, true, true, true, true, true, true, false, false, true, false, false] rfl rfl (take_ofW HT_.out HW_.out (by kernel_rfl)) (fun _ _ _ h => h) (Or.inl ⟨by rfl, ?_⟩) hHeld ?_ ?_
                               rotate_left
                               · intro w' s0
                                 go_simp
                                 with_reducible rfl
                               rotate_left
                               · simp only [Act.put, List.setIfInBounds_toArray, List.set_cons_zero, List.set_cons_succ, i64_w, i32_w]
                                 rfl
                               refine last_ (i := 7) (N := some 56) #[true, true, true, true, true, true, true, true, false, true, false, false] rfl rfl (one_of HT_.out (by kernel_rfl)) (by decide) (fun K hK => ?_)
                               refine value_ (w1 := ?_) (v := ?_) (by rfl) rfl ?_ ?_
                               rotate_left 2
                               · go_simp
                                 constructor
                                 · rfl
                                 · rfl
                               refine hK.out _ _ ?_
                               clear hK K
                               refine norm_ (a' := ?_) ?_ ?_
                               rotate_left
                               · show Act.put _ (some 56) _ = _
                                 simp only [Act.put, List.setIfInBounds_toArray, List.set_cons_zero, List.set_cons_succ, i64_w, i32_w]
                                 rfl
                               refine last_ (i := 8) (N := some 57) #[true, true, true, true, true, true, true, true, true, true, false, false] rfl rfl (one_of HT_.out (by kernel_rfl)) (by decide) (fun K hK => ?_)
                               refine Kd.R_append_step Kd.string (w0 := w) w.heap.size (by rfl) (.tmp 51) (.tmp 56) 68 9 (.string ⟨#[]⟩) 16 rfl Try.underlying68 info9 rfl (by decide) (by omega) (.slice Ao16 y305.length co16) y305 (rdOf ByteArray.empty y267 x7_1) [.string (rdOf ByteArray.empty y267 x7_1)] (fun k_ => some k_ ≠ (.slice (some ad270) y267.length co15 : Value).ownBlock ∧ some k_ ≠ (v303 : Value).ownBlock) (fun _ => False) rfl rfl ?aP (fun _ hk => hk.elim) ?aF ?aO ?aB ?aS ?aL ?_
                               (case aP => exact rfl)
                               (case aB => exact lb_)
                               (case aF => exact (fun k_ hk => ⟨Kd.fresh' (Kd.R_lt (kr_ HO_6.out)) k_ hk, Kd.fresh' (Kd.R_lt (kr_ HO304.out)) k_ hk⟩))
                               (case aO => exact (kr_ HO307.out))
                               (case aS => exact (below_size lb_))
                               (case aL => have := LMc46.out; omega)
                               intro v310 w55 ho hb hg hat
                               rw [← Ny309.out] at ho
                               have n0_ := Aside0.mk (Kd.R_after (ok := (fun k_ => some k_ ≠ (v303 : Value).ownBlock)) (by (with_reducible repeat (first | apply Kd.R_alloc | apply Kd.R_drewN | apply Kd.R_drew)); exact Kd.R_mono HO_6.out (fun _ hk => ⟨hk.2, by first | exact hk.1 | (have h1 := hk.1; simpa [Value.ownBlock] using h1) | (have h1 := hk.1; revert h1; cases Ao16 <;> exact id)⟩)) hg hat)
                               have n1_ := Aside0.mk (Kd.R_after (ok := (fun k_ => some k_ ≠ (.slice (some ad270) y267.length co15 : Value).ownBlock)) (by (with_reducible repeat (first | apply Kd.R_alloc | apply Kd.R_drewN | apply Kd.R_drew)); exact Kd.R_mono HO304.out (fun _ hk => ⟨hk.2, by first | exact hk.1 | (have h1 := hk.1; simpa [Value.ownBlock] using h1) | (have h1 := hk.1; revert h1; cases Ao16 <;> exact id)⟩)) hg hat)
                               have n2_ := Aside0.mk (hb)
                               have n3_ := Aside0.mk (ho)
                               clear HO_6
                               clear HO304
                               clear HB
                               clear HO307
                               have HO_6 := n0_
                               have HO304 := n1_
                               have HB := n2_
                               have HO311 := n3_
                               clear n0_ n1_ n2_ n3_
                               clear ho hb hg hat
                               obtain ⟨Ao57, co57, eo57⟩ := Kd.R_slice HO304.out
                               (first | subst eo57 | (injection eo57 with f1_ f2_ f3_; have f4_ := f1_.symm; have f5_ := f3_.symm; clear f1_ f2_ f3_; subst f4_; subst f5_))
                               refine hK.out _ _ ?_
                               clear hK K
                               refine norm_ (a' := ?_) ?_ ?_
                               rotate_left
                               · show Act.put _ (some 57) _ = _
                                 simp only [Act.put, List.setIfInBounds_toArray, List.set_cons_zero, List.set_cons_succ, i64_w, i32_w]
                                 rfl
                               refine last_ (i := 10) (N := some 59) #[true, true, true, true, true, true, true, true, true, true, true, false] rfl rfl (one_of HT_.out (by kernel_rfl)) (by decide) (fun K hK => ?_)
                               refine Kd.R_append_rows_step Kd.string (w0 := w) w.heap.size (by rfl) (.tmp 57) (.tmp 58) 68 9 (.string ⟨#[]⟩) 16 rfl Try.underlying68 info9 rfl (by decide) (by omega) v310 y309 y302 _ _ _ (fun k_ => some k_ ≠ (.slice (some ad270) y267.length co15 : Value).ownBlock ∧ some k_ ≠ (.slice Ao57 y302.length co57 : Value).ownBlock) (fun _ => False) rfl rfl ?aO ?aR (fun _ _ h => h) (fun _ h => h.elim) ?aF ?aB ?aS ?aL ?_
                               (case aR => repeat (first | exact (Kd.R_reads' HO304.out).2.2 | (with_reducible refine Kd.C_alloc ?_ _) | (with_reducible refine Kd.C_drewN ?_ _) | (with_reducible refine Kd.C_drew ?_)))
                               (case aB => exact lb_)
                               (case aF => exact (fun k_ hk => ⟨Kd.fresh' (Kd.R_lt (kr_ HO_6.out)) k_ hk, Kd.fresh' (Kd.R_lt (kr_ HO304.out)) k_ hk⟩))
                               (case aO => exact (kr_ HO311.out))
                               (case aS => exact (below_size lb_))
                               (case aL => have := LMc47.out; omega)
                               intro v313 w56 ho hb hg hat
                               rw [← Ny312.out] at ho
                               have n0_ := Aside0.mk (Kd.R_after (ok := (fun k_ => some k_ ≠ (.slice Ao57 y302.length co57 : Value).ownBlock)) (kr_ HO_6.out) hg hat)
                               have n1_ := Aside0.mk (Kd.R_after (ok := (fun k_ => some k_ ≠ (.slice (some ad270) y267.length co15 : Value).ownBlock)) (kr_ HO304.out) hg hat)
                               have n2_ := Aside0.mk (hb)
                               have n3_ := Aside0.mk (ho)
                               clear HO_6
                               clear HO304
                               clear HB
                               clear HO311
                               have HO_6 := n0_
                               have HO304 := n1_
                               have HB := n2_
                               have HO314 := n3_
                               clear n0_ n1_ n2_ n3_
                               clear ho hb hg hat
                               refine hK.out _ _ ?_
                               clear hK K
                               refine norm_ (a' := ?_) ?_ ?_
                               rotate_left
                               · show Act.put _ (some 59) _ = _
                                 simp only [Act.put, List.setIfInBounds_toArray, List.set_cons_zero, List.set_cons_succ, i64_w, i32_w]
                                 rfl
                               refine pure_ (i := 11) (N := some 5) (v := ?_) (a' := ?_) #[true, true, true, true, true, true, true, true, true, true, true, true] rfl rfl (any_of HT_.out (by kernel_rfl)) (fun _ _ _ h => h) (Or.inl ⟨by rfl, ?_⟩) ?_ ?_
                               rotate_left
                               · intro w'
                                 go_simp
                                 with_reducible rfl
                               rotate_left
                               · simp only [Act.put, List.setIfInBounds_toArray, List.set_cons_zero, List.set_cons_succ, i64_w, i32_w]
                                 rfl
                               refine done_ (done_of HT_.out (by kernel_rfl)) ?_
                               try go_wp2
                               go_roundg k2
                               case measure => have := HK1.out; have := HK2.out; omega
                               case rel => exact ⟨(y312), (wrap64 (x7_1 + 1)), (by first | rfl | (simp; done) | (simp [*]; done)), H', ⟨by have := HK1.out; have := HK2.out; omega⟩, ⟨by (with_reducible repeat (first | apply Kd.R_alloc | apply Kd.R_drewN | apply Kd.R_drew)); exact Kd.R_mono HO314.out (fun _ hk => hk.1)⟩, ⟨by (with_reducible repeat (first | apply Kd.R_alloc | apply Kd.R_drewN | apply Kd.R_drew)); exact Kd.R_mono HO_6.out (fun _ hk => hk.2)⟩, ⟨by repeat (first | (with_reducible first | exact HB.out | apply below_alloc | apply pw_below_drewN | apply below_drew1) | exact HB.out)⟩⟩
                             · rw [if_neg c47] at H
                               exact absurd H (by simp)
                           · rw [if_neg c46] at H
                             exact absurd H (by simp)
                         · rw [if_neg c45] at H
                           exact absurd H (by simp)
                       · rw [if_neg c44] at H
                         exact absurd H (by simp)
                     · rw [if_neg c42] at H
                       exact absurd H (by simp)
                   · rw [if_neg c41] at H
                     exact absurd H (by simp)
                 · rw [if_neg c40] at H
                   exact absurd H (by simp)
         · rw [if_neg c10] at H
           exact absurd H (by simp)
       · rw [if_neg c9] at H
         have c9b0 : decide (x7_1 < (y267.length : Int)) = false := decide_eq_false c9
         clear c9
         obtain rfl := Option.some.inj H
         obtain ⟨Ao58, co58, eo58⟩ := Kd.R_slice HO_6.out
         subst eo58
         go_wp2
         go_ret
         exact ⟨_, by first | rfl | (simp [errW_none, errW_some] <;> rfl) | (simp [*, errW_none, errW_some] <;> rfl), by (with_reducible repeat (first | apply Kd.R_alloc | apply Kd.R_drewN | apply Kd.R_drew)); exact Kd.R_mono HO_5.out (fun _ hk => trivial), by repeat (first | (with_reducible first | exact HB.out | apply below_alloc | apply pw_below_drewN | apply below_drew1) | exact HB.out)⟩
   · rw [if_neg c4] at H
     exact absurd H (by simp)
 · rw [if_neg c3] at H
   exact absurd H (by simp)
end Go.Proofs.Ytklbmdakoeoplaa.X
end
section
namespace Go.Proofs.Ytklbmdakoeoplaa.X
open Go.RowKit Go.Proofs.YtklbmdakoeoplaaW.PrintWords Go.Proofs.YtklbmdakoeoplaaW.PrintLast Go.Proofs.YtklbmdakoeoplaaW.PrintMore
attribute [local go_sem] max2_int min2_int max_two min_two max_three min_three max_four min_four   -- for this text's walks alone
set_option linter.unusedVariables false
set_option linter.unusedSimpArgs false
/-! ### althingref05_Keys: function 40 -/
mutual
def althingref05_Keys.l0 : Nat → List ByteArray → Int → Int → Int → Int → Int → Int → Int → List (S61) → List (S46) → Bool → Option (List ByteArray)
 | 0, _, _, _, _, _, _, _, _, _, _, _ => none
 | k + 1, x3, x4, x316000, x316001, x316002, x316003, x316004, x316005, x316006, x316007, x316008 => if x4 < (x316006.length : Int) then (if 0 ≤ x4 then (if x3.length < 8796093022208 then (althingref05_Keys.l0 k (x3 ++ [(rd_T61 x316006 x4).f0]) (wrap64 (x4 + 1)) x316000 x316001 x316002 x316003 x316004 x316005 x316006 x316007 x316008) else (none)) else (none)) else (althingref05_Keys.l1 k x3 0 x316000 x316001 x316002 x316003 x316004 x316005 x316006 x316007 x316008)
def althingref05_Keys.l1 : Nat → List ByteArray → Int → Int → Int → Int → Int → Int → Int → List (S61) → List (S46) → Bool → Option (List ByteArray)
 | 0, _, _, _, _, _, _, _, _, _, _, _ => none
 | k + 1, x3, x5, x316000, x316001, x316002, x316003, x316004, x316005, x316006, x316007, x316008 => if x5 < (x316007.length : Int) then (if 0 ≤ x5 then (if x3.length < 8796093022208 then (althingref05_Keys.l1 k (x3 ++ [(rd_T46 x316007 x5).f0]) (wrap64 (x5 + 1)) x316000 x316001 x316002 x316003 x316004 x316005 x316006 x316007 x316008) else (none)) else (none)) else ((althingref04_Join.f k x3 ([] : List ByteArray)).bind fun t324 => (some t324))
end
def althingref05_Keys.f (k : Nat) (a0_0 : Int) (a0_1 : Int) (a0_2 : Int) (a0_3 : Int) (a0_4 : Int) (a0_5 : Int) (l0_6 : List (S61)) (l0_7 : List (S46)) (a0_8 : Bool) : Option (List ByteArray) := althingref05_Keys.l0 k ([] : List ByteArray) 0 a0_0 a0_1 a0_2 a0_3 a0_4 a0_5 l0_6 l0_7 a0_8
set_option maxHeartbeats 8000000 in
set_option maxRecDepth 100000 in
theorem althingref05_Keys.calls (k : Nat) (a0_0 : Int) (a0_1 : Int) (a0_2 : Int) (a0_3 : Int) (a0_4 : Int) (a0_5 : Int) (A0_6 : Option Addr) (c0_6 : Nat) (l0_6 : List (S61)) (A0_7 : Option Addr) (c0_7 : Nat) (l0_7 : List (S46)) (a0_8 : Bool) (r : List ByteArray) (w : World) (hr0_6 : Kd.C k61 w A0_6 l0_6.length l0_6) (hc0_6 : l0_6.length ≤ c0_6) (hr0_7 : Kd.C k46 w A0_7 l0_7.length l0_7) (hc0_7 : l0_7.length ≤ c0_7) (h : althingref05_Keys.f k a0_0 a0_1 a0_2 a0_3 a0_4 a0_5 l0_6 l0_7 a0_8 = some r) :
 Calls Try.prog 40 #[.agg #[.int .i64 a0_0, .int .i64 a0_1, .int .i64 a0_2, .int .i64 a0_3, .int .i64 a0_4, .int .i64 a0_5, .slice A0_6 l0_6.length c0_6, .slice A0_7 l0_7.length c0_7, .bool a0_8]] w fun e w' => ∃ v0_ : Value, e = .returned (v0_) ∧ Kd.R Kd.string 9 w' w.heap.size (fun _ => True) v0_ r ∧ Below w.heap.size w w' := by
 have hu32 := Try.underlying32
 have HR0_6 := Aside0.mk hr0_6
 have HC0_6 := Aside0.mk hc0_6
 clear hr0_6 hc0_6
 have HR0_7 := Aside0.mk hr0_7
 have HC0_7 := Aside0.mk hc0_7
 clear hr0_7 hc0_7
 have HB := Aside0.mk (Below.refl w.heap.size w)
 have H : (althingref05_Keys.l0 k ([] : List ByteArray) 0 a0_0 a0_1 a0_2 a0_3 a0_4 a0_5 l0_6 l0_7 a0_8) = some r := h
 clear h
 have H' := Aside0.mk H
 clear H
 go_enter Try.func40, Try.ntmps40
 go_wp2_with (first | ((with_reducible refine gate_dst (N := 1) rfl ?_); refine box_event ?hg (N := 1) ?hd (cs := #[.int .i64 a0_0, .int .i64 a0_1, .int .i64 a0_2, .int .i64 a0_3, .int .i64 a0_4, .int .i64 a0_5, .slice A0_6 l0_6.length c0_6, .slice A0_7 l0_7.length c0_7, .bool a0_8]) (t := 32) ?hr ?_; (case hd => rfl); (case hg => rfl); (case hr => first | (go_simp; done) | (go_simp; rfl)); intro gb315 hg w2 hbox hb; have n0_ := Aside0.mk (below_step lb_ hb); have n1_ := Aside0.mk (hbox); have n2_ := Aside0.mk ((by rw [hg]; exact (below_size lb_) : w.heap.size ≤ gb315)); have n3_ := Aside0.mk ((by rw [hg]; exact (below_size lb_) : w.heap.size ≤ gb315)); clear HB; have HB := n0_; have BK315 := n1_; have GW315 := n2_; have GE315 := n3_; clear n0_ n1_ n2_ n3_; clear hb hbox hg))
 go_loopg [3, 4] k (fun kq v3 v4 w' => ∃ (x3_1 : List ByteArray) (x4_1 : Int), v4 = .int .i64 x4_1 ∧ Aside0 (althingref05_Keys.l0 kq x3_1 x4_1 a0_0 a0_1 a0_2 a0_3 a0_4 a0_5 l0_6 l0_7 a0_8 = some r) ∧ Aside0 (kq ≤ k) ∧ Aside0 (Kd.R Kd.string 9 w' w.heap.size (fun _ => True) v3 x3_1) ∧ Aside0 (w'.heap[gb315]? = some (.cells #[.int .i64 a0_0, .int .i64 a0_1, .int .i64 a0_2, .int .i64 a0_3, .int .i64 a0_4, .int .i64 a0_5, (.slice A0_6 l0_6.length c0_6), (.slice A0_7 l0_7.length c0_7), .bool a0_8] 32 (0, 0))) ∧ Aside0 (Below w.heap.size w w'))
 case atStart => exact ⟨(([] : List ByteArray)), (0), (by first | rfl | (simp; done) | (simp [*]; done)), H', ⟨Nat.le_refl _⟩, ⟨by first | exact Kd.R_nil _ _ _ _ _ | exact Kd.N_nil _ _ _ _ _ | exact Kd.V_nil _ _ _ _ _ | exact Kd.Q_nil _ _ _ _ _ | exact Kd.S_nil _ _ _ _ _⟩, ⟨by (with_reducible repeat (first | refine blk_drewN ?_ _ | refine blk_drew ?_ | refine blk_alloc ?_ _)); exact BK315.out⟩, ⟨by repeat (first | (with_reducible first | exact HB.out | apply below_alloc | apply pw_below_drewN | apply below_drew1 | refine below_set ?_ GE315.out) | exact HB.out)⟩⟩
 case round =>
  clear H'
  try clear p2
  (try clear BK315)
  obtain ⟨x3_1, x4_1, rfl, HA, HK1, HO_3, BK315, HB⟩ := hrel
  cases gk with
  | zero => exact absurd HA.out (by simp [althingref05_Keys.l0])
  | succ k1 =>
   have H := HA.out
   clear HA
   simp only [althingref05_Keys.l0] at H
   by_cases c3 : x4_1 < (l0_6.length : Int)
   · rw [if_pos c3] at H
     have c3b0 : decide (x4_1 < (l0_6.length : Int)) = true := decide_eq_true c3
     clear c3
     by_cases c4 : 0 ≤ x4_1
     · rw [if_pos c4] at H
       have c4b0 : decide (0 ≤ x4_1) = true := decide_eq_true c4
       clear c4
       by_cases c5 : x3_1.length < 8796093022208
       · rw [if_pos c5] at H
         have LMc5 := Aside0.mk c5
         clear c5
         obtain ⟨y317, hy317⟩ : ∃ y_ : List ByteArray, y_ = (x3_1 ++ [(rd_T61 l0_6 x4_1).f0]) := ⟨_, rfl⟩
         replace H : (althingref05_Keys.l0 k1 y317 (wrap64 (x4_1 + 1)) a0_0 a0_1 a0_2 a0_3 a0_4 a0_5 l0_6 l0_7 a0_8) = some r := by first | (rw [hy317]; with_reducible exact H) | (have H2_ := (Option.bind_some _ _).symm.trans H; rw [hy317]; with_reducible exact H2_) | (have H2_ := (Option.bind_some _ _).symm.trans H; with_reducible exact H2_) | with_reducible exact H | (rw [hy317]; exact H) | exact H
         have Ny317 := Aside0.mk hy317
         clear hy317
         have H' := Aside0.mk H
         clear H
         refine blk9_ BK315.out fun hcz6_0 hcz6_1 hcz6_2 hcz6_3 hcz6_4 hcz6_5 hcz6_6 hcz6_7 hcz6_8 hfz6_0 hfz6_1 hfz6_2 hfz6_3 hfz6_4 hfz6_5 hfz6_6 hfz6_7 hfz6_8 => ?_
         have p316 : 0 ≤ (x4_1 : Int) := of_decide_eq_true (by first | (with_reducible assumption) | assumption)
         have q316 : x4_1 < (l0_6.length : Int) := of_decide_eq_true (by first | (with_reducible assumption) | assumption)
         obtain ⟨ad316, e316, hx316_0, hx316_1, hx316_2⟩ := at_T61 HR0_6.out x4_1 p316 q316
         cases e316
         replace hx316_0 := (HB.out.cell (World.block_lt_of_cell? w _ hx316_0)).trans hx316_0
         replace hx316_1 := (HB.out.cell (World.block_lt_of_cell? w _ hx316_1)).trans hx316_1
         replace hx316_2 := (HB.out.cell (World.block_lt_of_cell? w _ hx316_2)).trans hx316_2
         replace p316 := eq_true p316
         replace q316 := eq_true q316
         go_wp2_with (first | ((with_reducible refine gate_builtin (b := .append) (xs := #[.tmp 13, .tmp 20]) rfl ?_); at_builtin; refine Kd.R_append Kd.string (w0 := w) w.heap.size rfl (.tmp 13) (.tmp 20) 68 9 (.string ⟨#[]⟩) 16 rfl Try.underlying68 info9 rfl (by decide) (by omega) u3 x3_1 ((rd_T61 l0_6 x4_1).f0) [.string ((rd_T61 l0_6 x4_1).f0)] (fun _ => True) (fun _ => False) rfl rfl ?aP (fun _ hk => hk.elim) ?aF ?aO ?aB ?aS ?aL ?_; (case aP => exact rfl); (case aB => exact (by repeat (first | (with_reducible first | exact HB.out | apply below_alloc | apply pw_below_drewN | apply below_drew1 | refine below_set ?_ GE315.out) | exact HB.out))); (case aF => exact (fun _ _ => trivial)); (case aO => exact (kr_ HO_3.out)); (case aS => exact (below_size (by repeat (first | (with_reducible first | exact HB.out | apply below_alloc | apply pw_below_drewN | apply below_drew1 | refine below_set ?_ GE315.out) | exact HB.out)))); (case aL => have := LMc5.out; omega); intro v318 w7 ho hb hg hat; rw [← Ny317.out] at ho; have n0_ := Aside0.mk (blk_grown (kb_ BK315.out) hg (Kd.R_ne HO_3.out BK315.out (by decide))); have n1_ := Aside0.mk (hb); have n2_ := Aside0.mk (ho); clear BK315; clear HB; clear HO_3; have BK315 := n0_; have HB := n1_; have HO319 := n2_; clear n0_ n1_ n2_; clear ho hb hg hat))
         go_roundg k1
         case measure => have := HK1.out; omega
         case rel => exact ⟨(y317), (wrap64 (x4_1 + 1)), (by first | rfl | (simp; done) | (simp [*]; done)), H', ⟨by have := HK1.out; omega⟩, ⟨by (with_reducible repeat (first | apply Kd.R_alloc | apply Kd.R_drewN | apply Kd.R_drew)); exact HO319.out⟩, ⟨by (with_reducible repeat (first | refine blk_drewN ?_ _ | refine blk_drew ?_ | refine blk_alloc ?_ _)); exact BK315.out⟩, ⟨by repeat (first | (with_reducible first | exact HB.out | apply below_alloc | apply pw_below_drewN | apply below_drew1 | refine below_set ?_ GE315.out) | exact HB.out)⟩⟩
       · rw [if_neg c5] at H
         exact absurd H (by simp)
     · rw [if_neg c4] at H
       exact absurd H (by simp)
   · rw [if_neg c3] at H
     have c3b0 : decide (x4_1 < (l0_6.length : Int)) = false := decide_eq_false c3
     clear c3
     have H' := Aside0.mk H
     clear H
     refine blk9_ BK315.out fun hcz8_0 hcz8_1 hcz8_2 hcz8_3 hcz8_4 hcz8_5 hcz8_6 hcz8_7 hcz8_8 hfz8_0 hfz8_1 hfz8_2 hfz8_3 hfz8_4 hfz8_5 hfz8_6 hfz8_7 hfz8_8 => ?_
     go_wp2
     go_loopg [3, 5] k1 (fun kq v3 v5 w' => ∃ (x3_2 : List ByteArray) (x5_2 : Int), v5 = .int .i64 x5_2 ∧ Aside0 (althingref05_Keys.l1 kq x3_2 x5_2 a0_0 a0_1 a0_2 a0_3 a0_4 a0_5 l0_6 l0_7 a0_8 = some r) ∧ Aside0 (kq ≤ k1) ∧ Aside0 (Kd.R Kd.string 9 w' w.heap.size (fun _ => True) v3 x3_2) ∧ Aside0 (w'.heap[gb315]? = some (.cells #[.int .i64 a0_0, .int .i64 a0_1, .int .i64 a0_2, .int .i64 a0_3, .int .i64 a0_4, .int .i64 a0_5, (.slice A0_6 l0_6.length c0_6), (.slice A0_7 l0_7.length c0_7), .bool a0_8] 32 (0, 0))) ∧ Aside0 (Below w.heap.size w w'))
     case atStart => exact ⟨(x3_1), (0), (by first | rfl | (simp; done) | (simp [*]; done)), H', ⟨Nat.le_refl _⟩, ⟨by (with_reducible repeat (first | apply Kd.R_alloc | apply Kd.R_drewN | apply Kd.R_drew)); exact HO_3.out⟩, ⟨by (with_reducible repeat (first | refine blk_drewN ?_ _ | refine blk_drew ?_ | refine blk_alloc ?_ _)); exact BK315.out⟩, ⟨by repeat (first | (with_reducible first | exact HB.out | apply below_alloc | apply pw_below_drewN | apply below_drew1 | refine below_set ?_ GE315.out) | exact HB.out)⟩⟩
     case round =>
      clear H'
      try clear p2
      try clear c3
      try clear c3b0
      try clear p3
      try clear q3
      try clear hx3
      try clear c4
      try clear c4b0
      try clear c5
      try clear p6
      try clear hcz6_0 hcz6_1 hcz6_2 hcz6_3 hcz6_4 hcz6_5 hcz6_6 hcz6_7 hcz6_8
      try clear hcz8_0 hcz8_1 hcz8_2 hcz8_3 hcz8_4 hcz8_5 hcz8_6 hcz8_7 hcz8_8
      try clear hfz6_0 hfz6_1 hfz6_2 hfz6_3 hfz6_4 hfz6_5 hfz6_6 hfz6_7 hfz6_8
      try clear hfz8_0 hfz8_1 hfz8_2 hfz8_3 hfz8_4 hfz8_5 hfz8_6 hfz8_7 hfz8_8
      try clear hx316_0
      try clear hx316_1
      try clear hx316_2
      try clear p2
      try clear p316
      try clear q316
      (try clear BK315)
      obtain ⟨x3_2, x5_2, rfl, HA, HK2, HO_3, BK315, HB⟩ := hrel
      cases gk with
      | zero => exact absurd HA.out (by simp [althingref05_Keys.l1])
      | succ k2 =>
       have H := HA.out
       clear HA
       simp only [althingref05_Keys.l1] at H
       by_cases c9 : x5_2 < (l0_7.length : Int)
       · rw [if_pos c9] at H
         have c9b0 : decide (x5_2 < (l0_7.length : Int)) = true := decide_eq_true c9
         clear c9
         by_cases c10 : 0 ≤ x5_2
         · rw [if_pos c10] at H
           have c10b0 : decide (0 ≤ x5_2) = true := decide_eq_true c10
           clear c10
           by_cases c11 : x3_2.length < 8796093022208
           · rw [if_pos c11] at H
             have LMc11 := Aside0.mk c11
             clear c11
             obtain ⟨y321, hy321⟩ : ∃ y_ : List ByteArray, y_ = (x3_2 ++ [(rd_T46 l0_7 x5_2).f0]) := ⟨_, rfl⟩
             replace H : (althingref05_Keys.l1 k2 y321 (wrap64 (x5_2 + 1)) a0_0 a0_1 a0_2 a0_3 a0_4 a0_5 l0_6 l0_7 a0_8) = some r := by first | (rw [hy321]; with_reducible exact H) | (have H2_ := (Option.bind_some _ _).symm.trans H; rw [hy321]; with_reducible exact H2_) | (have H2_ := (Option.bind_some _ _).symm.trans H; with_reducible exact H2_) | with_reducible exact H | (rw [hy321]; exact H) | exact H
             have Ny321 := Aside0.mk hy321
             clear hy321
             have H' := Aside0.mk H
             clear H
             refine blk9_ BK315.out fun hcz12_0 hcz12_1 hcz12_2 hcz12_3 hcz12_4 hcz12_5 hcz12_6 hcz12_7 hcz12_8 hfz12_0 hfz12_1 hfz12_2 hfz12_3 hfz12_4 hfz12_5 hfz12_6 hfz12_7 hfz12_8 => ?_
             have p320 : 0 ≤ (x5_2 : Int) := of_decide_eq_true (by first | (with_reducible assumption) | assumption)
             have q320 : x5_2 < (l0_7.length : Int) := of_decide_eq_true (by first | (with_reducible assumption) | assumption)
             obtain ⟨ad320, e320, hx320_0, hx320_1⟩ := at_T46 HR0_7.out x5_2 p320 q320
             cases e320
             replace hx320_0 := (HB.out.cell (World.block_lt_of_cell? w _ hx320_0)).trans hx320_0
             replace hx320_1 := (HB.out.cell (World.block_lt_of_cell? w _ hx320_1)).trans hx320_1
             replace p320 := eq_true p320
             replace q320 := eq_true q320
             go_wp2_with (first | ((with_reducible refine gate_builtin (b := .append) (xs := #[.tmp 29, .tmp 36]) rfl ?_); at_builtin; refine Kd.R_append Kd.string (w0 := w) w.heap.size rfl (.tmp 29) (.tmp 36) 68 9 (.string ⟨#[]⟩) 16 rfl Try.underlying68 info9 rfl (by decide) (by omega) u3 x3_2 ((rd_T46 l0_7 x5_2).f0) [.string ((rd_T46 l0_7 x5_2).f0)] (fun _ => True) (fun _ => False) rfl rfl ?aP (fun _ hk => hk.elim) ?aF ?aO ?aB ?aS ?aL ?_; (case aP => exact rfl); (case aB => exact (by repeat (first | (with_reducible first | exact HB.out | apply below_alloc | apply pw_below_drewN | apply below_drew1 | refine below_set ?_ GE315.out) | exact HB.out))); (case aF => exact (fun _ _ => trivial)); (case aO => exact (kr_ HO_3.out)); (case aS => exact (below_size (by repeat (first | (with_reducible first | exact HB.out | apply below_alloc | apply pw_below_drewN | apply below_drew1 | refine below_set ?_ GE315.out) | exact HB.out)))); (case aL => have := LMc11.out; omega); intro v322 w13 ho hb hg hat; rw [← Ny321.out] at ho; have n0_ := Aside0.mk (blk_grown (kb_ BK315.out) hg (Kd.R_ne HO_3.out BK315.out (by decide))); have n1_ := Aside0.mk (hb); have n2_ := Aside0.mk (ho); clear BK315; clear HB; clear HO_3; have BK315 := n0_; have HB := n1_; have HO323 := n2_; clear n0_ n1_ n2_; clear ho hb hg hat))
             go_roundg k2
             case measure => have := HK1.out; have := HK2.out; omega
             case rel => exact ⟨(y321), (wrap64 (x5_2 + 1)), (by first | rfl | (simp; done) | (simp [*]; done)), H', ⟨by have := HK1.out; have := HK2.out; omega⟩, ⟨by (with_reducible repeat (first | apply Kd.R_alloc | apply Kd.R_drewN | apply Kd.R_drew)); exact HO323.out⟩, ⟨by (with_reducible repeat (first | refine blk_drewN ?_ _ | refine blk_drew ?_ | refine blk_alloc ?_ _)); exact BK315.out⟩, ⟨by repeat (first | (with_reducible first | exact HB.out | apply below_alloc | apply pw_below_drewN | apply below_drew1 | refine below_set ?_ GE315.out) | exact HB.out)⟩⟩
           · rw [if_neg c11] at H
             exact absurd H (by simp)
         · rw [if_neg c10] at H
           exact absurd H (by simp)
       · rw [if_neg c9] at H
         have c9b0 : decide (x5_2 < (l0_7.length : Int)) = false := decide_eq_false c9
         clear c9
         obtain ⟨t324, A14, H⟩ := bs_ H
         obtain rfl := Option.some.inj H
         refine blk9_ BK315.out fun hcz15_0 hcz15_1 hcz15_2 hcz15_3 hcz15_4 hcz15_5 hcz15_6 hcz15_7 hcz15_8 hfz15_0 hfz15_1 hfz15_2 hfz15_3 hfz15_4 hfz15_5 hfz15_6 hfz15_7 hfz15_8 => ?_
         obtain ⟨Ao16, co16, eo16⟩ := Kd.R_slice HO_3.out
         subst eo16
         go_wp2_with (first | ((with_reducible refine gate_callee (f := 48) rfl ?_); refine goesL_ (some 39) rfl rfl Try.func48 (by kernel_rfl) rfl #[.slice Ao16 x3_2.length co16, .slice none 0 0] rfl (by (try simp only [List.map_toArray, List.map_cons, List.map_nil]); first | done | rfl | (simp only [List.length_drop, List.length_take]; rfl)) ?_; (refine (althingref04_Join.calls k2 _ _ x3_2 _ _ ([] : List ByteArray) t324 _ ?side1 ?side2 ?side3 ?side4 A14.out).mono ?_); (case side1 => repeat (first | exact (Kd.R_reads' HO_3.out).2.2 | (with_reducible refine Kd.C_alloc ?_ _) | (with_reducible refine Kd.C_drewN ?_ _) | (with_reducible refine Kd.C_drew ?_))); (case side2 => exact (Kd.R_reads' HO_3.out).2.1); (case side3 => exact Kd.C_nil _ _); (case side4 => exact Nat.le_refl _); rintro e w17 ⟨v325, rfl, ho0, hb⟩; refine ⟨_, rfl, ?_⟩; have n0_ := Aside0.mk (Kd.R_elder' (kr_ HO_3.out) (Kd.R_base ho0) hb); have n1_ := Aside0.mk (Kd.R_lower (Kd.R_new' ho0 (Kd.R_lt (kr_ HO_3.out))) (below_size (by repeat (first | (with_reducible first | exact HB.out | apply below_alloc | apply pw_below_drewN | apply below_drew1 | refine below_set ?_ GE315.out) | exact HB.out)))); have n2_ := Aside0.mk (blk_below (kb_ BK315.out) hb); have n3_ := Aside0.mk (below_step (by repeat (first | (with_reducible first | exact HB.out | apply below_alloc | apply pw_below_drewN | apply below_drew1 | refine below_set ?_ GE315.out) | exact HB.out)) hb); clear HO_3; clear BK315; clear HB; have HO_3 := n0_; have HO326 := n1_; have BK315 := n2_; have HB := n3_; clear n0_ n1_ n2_ n3_; (try clear hb); (try clear hb2); (try clear hk); (try clear hi); (try clear ho0)))
         go_ret
         exact ⟨_, by first | rfl | (simp [errW_none, errW_some] <;> rfl) | (simp [*, errW_none, errW_some] <;> rfl), by (with_reducible repeat (first | apply Kd.R_alloc | apply Kd.R_drewN | apply Kd.R_drew)); exact Kd.R_mono HO326.out (fun _ hk => trivial), by repeat (first | (with_reducible first | exact HB.out | apply below_alloc | apply pw_below_drewN | apply below_drew1 | refine below_set ?_ GE315.out) | exact HB.out)⟩
end Go.Proofs.Ytklbmdakoeoplaa.X
end
section
namespace Go.Proofs.Ytklbmdakoeoplaa.X
open Go.RowKit Go.Proofs.YtklbmdakoeoplaaW.PrintWords Go.Proofs.YtklbmdakoeoplaaW.PrintLast Go.Proofs.YtklbmdakoeoplaaW.PrintMore
attribute [local go_sem] max2_int min2_int max_two min_two max_three min_three max_four min_four   -- for this text's walks alone
set_option linter.unusedVariables false
set_option linter.unusedSimpArgs false
attribute [local go_sem high] eqA26
/-! ### althingref05_Interfere: function 25 -/
mutual
def althingref05_Interfere.j0 : Nat → Bool → Int → Int → Int → Int → Int → Int → List (S61) → List (S46) → Bool → Int → Int → Int → Int → Int → Int → List (S61) → List (S46) → Bool → Option (Bool)
 | 0, _, _, _, _, _, _, _, _, _, _, _, _, _, _, _, _, _, _, _ => none
 | k + 1, x15, x328000, x328001, x328002, x328003, x328004, x328005, x328006, x328007, x328008, x329000, x329001, x329002, x329003, x329004, x329005, x329006, x329007, x329008 => if x15 = true then (some false) else (if (x328001 == x329001 && (x328002 == x329002)) = true then (some true) else ((althingref05_Keys.f k x328000 x328001 x328002 x328003 x328004 x328005 x328006 x328007 x328008).bind fun t329 => ((althingref05_Keys.f k x329000 x329001 x329002 x329003 x329004 x329005 x329006 x329007 x329008).bind fun t332 => (althingref05_Interfere.l0 k t329 t332 0))))
def althingref05_Interfere.l0 : Nat → List ByteArray → List ByteArray → Int → Option (Bool)
 | 0, _, _, _ => none
 | k + 1, x5, x6, x7 => if x7 < (x5.length : Int) then (if 0 ≤ x7 then ((althingref04_In.f k x6 (rdOf ByteArray.empty x5 x7)).bind fun t336 => (if t336 = true then (some true) else (althingref05_Interfere.l0 k x5 x6 (wrap64 (x7 + 1))))) else (none)) else (some false)
end
def althingref05_Interfere.f (k : Nat) (a0_0 : Int) (a0_1 : Int) (a0_2 : Int) (a0_3 : Int) (a0_4 : Int) (a0_5 : Int) (l0_6 : List (S61)) (l0_7 : List (S46)) (a0_8 : Bool) (a1_0 : Int) (a1_1 : Int) (a1_2 : Int) (a1_3 : Int) (a1_4 : Int) (a1_5 : Int) (l1_6 : List (S61)) (l1_7 : List (S46)) (a1_8 : Bool) : Option (Bool) := if a0_0 = 0 then (althingref05_Interfere.j0 k true a0_0 a0_1 a0_2 a0_3 a0_4 a0_5 l0_6 l0_7 a0_8 a1_0 a1_1 a1_2 a1_3 a1_4 a1_5 l1_6 l1_7 a1_8) else (althingref05_Interfere.j0 k (a1_0 == 0) a0_0 a0_1 a0_2 a0_3 a0_4 a0_5 l0_6 l0_7 a0_8 a1_0 a1_1 a1_2 a1_3 a1_4 a1_5 l1_6 l1_7 a1_8)
set_option maxHeartbeats 8000000 in
set_option maxRecDepth 100000 in
theorem althingref05_Interfere.calls (k : Nat) (a0_0 : Int) (a0_1 : Int) (a0_2 : Int) (a0_3 : Int) (a0_4 : Int) (a0_5 : Int) (A0_6 : Option Addr) (c0_6 : Nat) (l0_6 : List (S61)) (A0_7 : Option Addr) (c0_7 : Nat) (l0_7 : List (S46)) (a0_8 : Bool) (a1_0 : Int) (a1_1 : Int) (a1_2 : Int) (a1_3 : Int) (a1_4 : Int) (a1_5 : Int) (A1_6 : Option Addr) (c1_6 : Nat) (l1_6 : List (S61)) (A1_7 : Option Addr) (c1_7 : Nat) (l1_7 : List (S46)) (a1_8 : Bool) (r : Bool) (w : World) (hr0_6 : Kd.C k61 w A0_6 l0_6.length l0_6) (hc0_6 : l0_6.length ≤ c0_6) (hr0_7 : Kd.C k46 w A0_7 l0_7.length l0_7) (hc0_7 : l0_7.length ≤ c0_7) (hr1_6 : Kd.C k61 w A1_6 l1_6.length l1_6) (hc1_6 : l1_6.length ≤ c1_6) (hr1_7 : Kd.C k46 w A1_7 l1_7.length l1_7) (hc1_7 : l1_7.length ≤ c1_7) (h : althingref05_Interfere.f k a0_0 a0_1 a0_2 a0_3 a0_4 a0_5 l0_6 l0_7 a0_8 a1_0 a1_1 a1_2 a1_3 a1_4 a1_5 l1_6 l1_7 a1_8 = some r) :
 Calls Try.prog 25 #[.agg #[.int .i64 a0_0, .int .i64 a0_1, .int .i64 a0_2, .int .i64 a0_3, .int .i64 a0_4, .int .i64 a0_5, .slice A0_6 l0_6.length c0_6, .slice A0_7 l0_7.length c0_7, .bool a0_8], .agg #[.int .i64 a1_0, .int .i64 a1_1, .int .i64 a1_2, .int .i64 a1_3, .int .i64 a1_4, .int .i64 a1_5, .slice A1_6 l1_6.length c1_6, .slice A1_7 l1_7.length c1_7, .bool a1_8]] w fun e w' => e = .returned (.bool r) ∧ Below w.heap.size w w' := by
 have hu32 := Try.underlying32
 have hu26 := Try.underlying26
 have HR0_6 := Aside0.mk hr0_6
 have HC0_6 := Aside0.mk hc0_6
 clear hr0_6 hc0_6
 have HR0_7 := Aside0.mk hr0_7
 have HC0_7 := Aside0.mk hc0_7
 clear hr0_7 hc0_7
 have HR1_6 := Aside0.mk hr1_6
 have HC1_6 := Aside0.mk hc1_6
 clear hr1_6 hc1_6
 have HR1_7 := Aside0.mk hr1_7
 have HC1_7 := Aside0.mk hc1_7
 clear hr1_7 hc1_7
 have HB := Aside0.mk (Below.refl w.heap.size w)
 have H : (if a0_0 = 0 then (althingref05_Interfere.j0 k true a0_0 a0_1 a0_2 a0_3 a0_4 a0_5 l0_6 l0_7 a0_8 a1_0 a1_1 a1_2 a1_3 a1_4 a1_5 l1_6 l1_7 a1_8) else (althingref05_Interfere.j0 k (a1_0 == 0) a0_0 a0_1 a0_2 a0_3 a0_4 a0_5 l0_6 l0_7 a0_8 a1_0 a1_1 a1_2 a1_3 a1_4 a1_5 l1_6 l1_7 a1_8)) = some r := h
 clear h
 have HC3 := Aside0.mk H
 clear H
 go_enter Try.func25, Try.ntmps25
 go_upto_region 1 with (first | ((with_reducible refine gate_dst (N := 2) rfl ?_); refine box_event ?hg (N := 2) ?hd (cs := #[.int .i64 a0_0, .int .i64 a0_1, .int .i64 a0_2, .int .i64 a0_3, .int .i64 a0_4, .int .i64 a0_5, .slice A0_6 l0_6.length c0_6, .slice A0_7 l0_7.length c0_7, .bool a0_8]) (t := 32) ?hr ?_; (case hd => rfl); (case hg => rfl); (case hr => first | (go_simp; done) | (go_simp; rfl)); intro gb327 hg w4 hbox hb; have n0_ := Aside0.mk (below_step lb_ hb); have n1_ := Aside0.mk (hbox); have n2_ := Aside0.mk ((by rw [hg]; exact (below_size lb_) : w.heap.size ≤ gb327)); have n3_ := Aside0.mk ((by rw [hg]; exact (below_size lb_) : w.heap.size ≤ gb327)); clear HB; have HB := n0_; have BK327 := n1_; have GW327 := n2_; have GE327 := n3_; clear n0_ n1_ n2_ n3_; clear hb hbox hg) | ((with_reducible refine gate_dst (N := 3) rfl ?_); refine box_event ?hg (N := 3) ?hd (cs := #[.int .i64 a1_0, .int .i64 a1_1, .int .i64 a1_2, .int .i64 a1_3, .int .i64 a1_4, .int .i64 a1_5, .slice A1_6 l1_6.length c1_6, .slice A1_7 l1_7.length c1_7, .bool a1_8]) (t := 32) ?hr ?_; (case hd => rfl); (case hg => rfl); (case hr => first | (go_simp; done) | (go_simp; rfl)); intro gb328 hg w5 hbox hb; have n0_ := Aside0.mk (blk_below (kb_ BK327.out) hb); have n1_ := Aside0.mk (below_step (by repeat (first | (with_reducible first | exact HB.out | apply below_alloc | apply pw_below_drewN | apply below_drew1 | refine below_set ?_ GE327.out) | exact HB.out)) hb); have n2_ := Aside0.mk (hbox); have n3_ := Aside0.mk ((by rw [hg]; exact (below_size (by repeat (first | (with_reducible first | exact HB.out | apply below_alloc | apply pw_below_drewN | apply below_drew1 | refine below_set ?_ GE327.out) | exact HB.out))) : w.heap.size ≤ gb328)); have n4_ := Aside0.mk ((by rw [hg]; exact (below_size (by repeat (first | (with_reducible first | exact HB.out | apply below_alloc | apply pw_below_drewN | apply below_drew1 | refine below_set ?_ GE327.out) | exact HB.out))) : w.heap.size ≤ gb328)); have n5_ := Aside0.mk ((by rw [hg]; exact Nat.ne_of_lt (blk_lt (kb_ BK327.out)) : gb327 ≠ gb328)); have n6_ := Aside0.mk ((by rw [hg]; exact Nat.ne_of_gt (blk_lt (kb_ BK327.out)) : gb328 ≠ gb327)); clear BK327; clear HB; have BK327 := n0_; have HB := n1_; have BK328 := n2_; have GW328 := n3_; have GE328 := n4_; have NB327_328 := n5_; have NB328_327 := n6_; clear n0_ n1_ n2_ n3_ n4_ n5_ n6_; clear hb hbox hg))
 (try simp only [Act.put, List.setIfInBounds_toArray, List.set_cons_zero, List.set_cons_succ])
 go_cut [15] (fun v15 wc => ∃ (kq : Nat) (x15_2 : Bool), v15 = .bool x15_2 ∧ Aside0 (althingref05_Interfere.j0 kq x15_2 a0_0 a0_1 a0_2 a0_3 a0_4 a0_5 l0_6 l0_7 a0_8 a1_0 a1_1 a1_2 a1_3 a1_4 a1_5 l1_6 l1_7 a1_8 = some r) ∧ Aside0 (kq ≤ k) ∧ Aside0 (wc.heap[gb327]? = some (.cells #[.int .i64 a0_0, .int .i64 a0_1, .int .i64 a0_2, .int .i64 a0_3, .int .i64 a0_4, .int .i64 a0_5, (.slice A0_6 l0_6.length c0_6), (.slice A0_7 l0_7.length c0_7), .bool a0_8] 32 (0, 0))) ∧ Aside0 (wc.heap[gb328]? = some (.cells #[.int .i64 a1_0, .int .i64 a1_1, .int .i64 a1_2, .int .i64 a1_3, .int .i64 a1_4, .int .i64 a1_5, (.slice A1_6 l1_6.length c1_6), (.slice A1_7 l1_7.length c1_7), .bool a1_8] 32 (0, 0))) ∧ Aside0 (Below w.heap.size w wc))
 case first =>
  have H := HC3.out
  clear HC3
  by_cases c6 : a0_0 = 0
  · rw [if_pos c6] at H
    have c6b0 : (a0_0 == 0) = true := beq_iff_eq.mpr c6
    have c6b1 : (a0_0 != 0) = false := bne_eq_false_iff_eq.mpr c6
    clear c6
    (first | rw [c6b0] | (simp only [i64_w, i32_w]; rw [c6b0]) | skip)
    have H' := Aside0.mk H
    clear H
    have hnb7 := NB327_328.out
    have hnc7 := NB328_327.out
    refine blk9_ BK327.out fun hcz8_0 hcz8_1 hcz8_2 hcz8_3 hcz8_4 hcz8_5 hcz8_6 hcz8_7 hcz8_8 hfz8_0 hfz8_1 hfz8_2 hfz8_3 hfz8_4 hfz8_5 hfz8_6 hfz8_7 hfz8_8 => ?_
    go_wp2
    go_meet
    case rel => exact ⟨_, (true), (by first | rfl | (simp; done) | (simp [*]; done)), H', ⟨by first | omega | exact Nat.le_refl _⟩, ⟨by (with_reducible repeat (first | refine blk_drewN ?_ _ | refine blk_drew ?_ | refine blk_alloc ?_ _)); exact BK327.out⟩, ⟨by (with_reducible repeat (first | refine blk_drewN ?_ _ | refine blk_drew ?_ | refine blk_alloc ?_ _)); exact BK328.out⟩, ⟨by repeat (first | (with_reducible first | exact HB.out | apply below_alloc | apply pw_below_drewN | apply below_drew1 | refine below_set ?_ GE327.out | refine below_set ?_ GE328.out) | exact HB.out)⟩⟩
  · rw [if_neg c6] at H
    have c6b0 : (a0_0 == 0) = false := beq_eq_false_iff_ne.mpr c6
    have c6b1 : (a0_0 != 0) = true := bne_iff_ne.mpr c6
    (first | rw [c6b0] | (simp only [i64_w, i32_w]; rw [c6b0]) | skip)
    have H' := Aside0.mk H
    clear H
    have hnb9 := NB327_328.out
    have hnc9 := NB328_327.out
    refine blk9_ BK327.out fun hcz10_0 hcz10_1 hcz10_2 hcz10_3 hcz10_4 hcz10_5 hcz10_6 hcz10_7 hcz10_8 hfz10_0 hfz10_1 hfz10_2 hfz10_3 hfz10_4 hfz10_5 hfz10_6 hfz10_7 hfz10_8 => ?_
    refine blk9_ BK328.out fun hcz11_0 hcz11_1 hcz11_2 hcz11_3 hcz11_4 hcz11_5 hcz11_6 hcz11_7 hcz11_8 hfz11_0 hfz11_1 hfz11_2 hfz11_3 hfz11_4 hfz11_5 hfz11_6 hfz11_7 hfz11_8 => ?_
    go_wp2
    go_meet
    case rel => exact ⟨_, ((a1_0 == 0)), (by first | rfl | (simp; done) | (simp [*]; done)), H', ⟨by first | omega | exact Nat.le_refl _⟩, ⟨by (with_reducible repeat (first | refine blk_drewN ?_ _ | refine blk_drew ?_ | refine blk_alloc ?_ _)); exact BK327.out⟩, ⟨by (with_reducible repeat (first | refine blk_drewN ?_ _ | refine blk_drew ?_ | refine blk_alloc ?_ _)); exact BK328.out⟩, ⟨by repeat (first | (with_reducible first | exact HB.out | apply below_alloc | apply pw_below_drewN | apply below_drew1 | refine below_set ?_ GE327.out | refine below_set ?_ GE328.out) | exact HB.out)⟩⟩
 case rest =>
  clear HC3
  try clear c1
  try clear c2
  try clear p2
  try clear c6
  try clear c6b0
  try clear c6b1
  try clear c7
  try clear c9
  try clear hcz10_0 hcz10_1 hcz10_2 hcz10_3 hcz10_4 hcz10_5 hcz10_6 hcz10_7 hcz10_8
  try clear hcz11_0 hcz11_1 hcz11_2 hcz11_3 hcz11_4 hcz11_5 hcz11_6 hcz11_7 hcz11_8
  try clear hcz8_0 hcz8_1 hcz8_2 hcz8_3 hcz8_4 hcz8_5 hcz8_6 hcz8_7 hcz8_8
  try clear hfz10_0 hfz10_1 hfz10_2 hfz10_3 hfz10_4 hfz10_5 hfz10_6 hfz10_7 hfz10_8
  try clear hfz11_0 hfz11_1 hfz11_2 hfz11_3 hfz11_4 hfz11_5 hfz11_6 hfz11_7 hfz11_8
  try clear hfz8_0 hfz8_1 hfz8_2 hfz8_3 hfz8_4 hfz8_5 hfz8_6 hfz8_7 hfz8_8
  obtain ⟨kq, x15_2, rfl, HA, HJ2, BK327, BK328, HB⟩ := hcut
  cases kq with
  | zero => exact absurd HA.out (by simp [althingref05_Interfere.j0])
  | succ kj2 =>
   have H := HA.out
   clear HA
   simp only [althingref05_Interfere.j0] at H
   by_cases c12 : x15_2 = true
   · subst c12
     rw [if_pos rfl] at H
     obtain rfl := Option.some.inj H
     go_wp2
     go_ret
     exact ⟨by first | rfl | (simp [errW_none, errW_some] <;> rfl) | (simp [*, errW_none, errW_some] <;> rfl), by repeat (first | (with_reducible first | exact HB.out | apply below_alloc | apply pw_below_drewN | apply below_drew1 | refine below_set ?_ GE327.out | refine below_set ?_ GE328.out) | exact HB.out)⟩
   · replace c12 := Bool.eq_false_iff.mpr c12
     subst c12
     rw [if_neg (show ¬ (false = true) by decide)] at H
     by_cases c13 : (a0_1 == a1_1 && (a0_2 == a1_2)) = true
     · rw [if_pos c13] at H
       have c13b0 : (a0_1 == a1_1 && (a0_2 == a1_2)) = true := c13
       (try (have c13b1 : decide (a0_1 = a1_1 && (a0_2 == a1_2)) = true := by simpa using c13))
       (try (have c13b2 : (a0_1 == a1_1 && (a0_2 == a1_2)) = true := by simpa using c13))
       clear c13
       obtain rfl := Option.some.inj H
       have hnb14 := NB327_328.out
       have hnc14 := NB328_327.out
       refine blk9_ BK327.out fun hcz15_0 hcz15_1 hcz15_2 hcz15_3 hcz15_4 hcz15_5 hcz15_6 hcz15_7 hcz15_8 hfz15_0 hfz15_1 hfz15_2 hfz15_3 hfz15_4 hfz15_5 hfz15_6 hfz15_7 hfz15_8 => ?_
       refine blk9_ BK328.out fun hcz16_0 hcz16_1 hcz16_2 hcz16_3 hcz16_4 hcz16_5 hcz16_6 hcz16_7 hcz16_8 hfz16_0 hfz16_1 hfz16_2 hfz16_3 hfz16_4 hfz16_5 hfz16_6 hfz16_7 hfz16_8 => ?_
       go_wp2
       go_ret
       exact ⟨by first | rfl | (simp [errW_none, errW_some] <;> rfl) | (simp [*, errW_none, errW_some] <;> rfl), by repeat (first | (with_reducible first | exact HB.out | apply below_alloc | apply pw_below_drewN | apply below_drew1 | refine below_set ?_ GE327.out | refine below_set ?_ GE328.out) | exact HB.out)⟩
     · rw [if_neg c13] at H
       have c13b0 : (a0_1 == a1_1 && (a0_2 == a1_2)) = false := by simpa using c13
       (try (have c13b1 : decide (a0_1 = a1_1 && (a0_2 == a1_2)) = false := by simpa using c13))
       (try (have c13b2 : (a0_1 == a1_1 && (a0_2 == a1_2)) = false := by simpa using c13))
       (try (have c13b3 : ¬ (a0_1 = a1_1 && (a0_2 == a1_2)) := by simpa using c13))
       clear c13
       obtain ⟨t329, A17, H⟩ := bs_ H
       obtain ⟨t332, A18, H⟩ := bs_ H
       have H' := Aside0.mk H
       clear H
       have hnb19 := NB327_328.out
       have hnc19 := NB328_327.out
       refine blk9_ BK327.out fun hcz20_0 hcz20_1 hcz20_2 hcz20_3 hcz20_4 hcz20_5 hcz20_6 hcz20_7 hcz20_8 hfz20_0 hfz20_1 hfz20_2 hfz20_3 hfz20_4 hfz20_5 hfz20_6 hfz20_7 hfz20_8 => ?_
       refine blk9_ BK328.out fun hcz21_0 hcz21_1 hcz21_2 hcz21_3 hcz21_4 hcz21_5 hcz21_6 hcz21_7 hcz21_8 hfz21_0 hfz21_1 hfz21_2 hfz21_3 hfz21_4 hfz21_5 hfz21_6 hfz21_7 hfz21_8 => ?_
       go_wp2_with (first | ((with_reducible refine gate_dst (N := 21) rfl ?_); (try (refine gate_guard (by rfl) ?_; dsimp only)); refine blk_load_event ?lg (N := 21) ?ld (t := 32) (x := ?lxxz22) ?lo (g := gb327) ?lx (cs := _) BK327.out ?lD ?lt ?_; (case lg => rfl); (case ld => rfl); (case lo => rfl); (case lx => first | rfl | (go_simp; done) | (go_simp; rfl)); (case lD => exact ⟨_, Try.underlying32, rfl⟩); (case lt => kernel_rfl)) | ((with_reducible refine gate_callee (f := 40) rfl ?_); refine goesL_ (some 22) rfl rfl Try.func40 (by kernel_rfl) rfl #[.agg #[.int .i64 a0_0, .int .i64 a0_1, .int .i64 a0_2, .int .i64 a0_3, .int .i64 a0_4, .int .i64 a0_5, .slice A0_6 l0_6.length c0_6, .slice A0_7 l0_7.length c0_7, .bool a0_8]] rfl (by (try simp only [List.map_toArray, List.map_cons, List.map_nil]); first | done | rfl | (simp only [List.length_drop, List.length_take]; rfl)) ?_; (with_reducible refine (althingref05_Keys.calls kj2 a0_0 a0_1 a0_2 a0_3 a0_4 a0_5 _ _ l0_6 _ _ l0_7 a0_8 t329 _ ?side1 ?side2 ?side3 ?side4 A17.out).mono ?_); (case side1 => exact kc_ (Kd.C_below HR0_6.out HB.out)); (case side2 => exact HC0_6.out); (case side3 => exact kc_ (Kd.C_below HR0_7.out HB.out)); (case side4 => exact HC0_7.out); rintro e w23 ⟨v330, rfl, ho0, hb⟩; refine ⟨_, rfl, ?_⟩; have n0_ := Aside0.mk (Kd.R_lower ho0 (below_size (by repeat (first | (with_reducible first | exact HB.out | apply below_alloc | apply pw_below_drewN | apply below_drew1 | refine below_set ?_ GE327.out | refine below_set ?_ GE328.out) | exact HB.out)))); have n1_ := Aside0.mk (blk_below (kb_ BK327.out) hb); have n2_ := Aside0.mk (blk_below (kb_ BK328.out) hb); have n3_ := Aside0.mk (below_step (by repeat (first | (with_reducible first | exact HB.out | apply below_alloc | apply pw_below_drewN | apply below_drew1 | refine below_set ?_ GE327.out | refine below_set ?_ GE328.out) | exact HB.out)) hb); clear BK327; clear BK328; clear HB; have HO331 := n0_; have BK327 := n1_; have BK328 := n2_; have HB := n3_; clear n0_ n1_ n2_ n3_; (try clear hb); (try clear hb2); (try clear hk); (try clear hi); (try clear ho0)) | ((with_reducible refine gate_dst (N := 23) rfl ?_); (try (refine gate_guard (by rfl) ?_; dsimp only)); refine blk_load_event ?lg (N := 23) ?ld (t := 32) (x := ?lxxz24) ?lo (g := gb328) ?lx (cs := _) BK328.out ?lD ?lt ?_; (case lg => rfl); (case ld => rfl); (case lo => rfl); (case lx => first | rfl | (go_simp; done) | (go_simp; rfl)); (case lD => exact ⟨_, Try.underlying32, rfl⟩); (case lt => kernel_rfl)) | ((with_reducible refine gate_callee (f := 40) rfl ?_); refine goesL_ (some 24) rfl rfl Try.func40 (by kernel_rfl) rfl #[.agg #[.int .i64 a1_0, .int .i64 a1_1, .int .i64 a1_2, .int .i64 a1_3, .int .i64 a1_4, .int .i64 a1_5, .slice A1_6 l1_6.length c1_6, .slice A1_7 l1_7.length c1_7, .bool a1_8]] rfl (by (try simp only [List.map_toArray, List.map_cons, List.map_nil]); first | done | rfl | (simp only [List.length_drop, List.length_take]; rfl)) ?_; (with_reducible refine (althingref05_Keys.calls kj2 a1_0 a1_1 a1_2 a1_3 a1_4 a1_5 _ _ l1_6 _ _ l1_7 a1_8 t332 _ ?side1 ?side2 ?side3 ?side4 A18.out).mono ?_); (case side1 => exact kc_ (Kd.C_below HR1_6.out HB.out)); (case side2 => exact HC1_6.out); (case side3 => exact kc_ (Kd.C_below HR1_7.out HB.out)); (case side4 => exact HC1_7.out); rintro e w25 ⟨v333, rfl, ho0, hb⟩; refine ⟨_, rfl, ?_⟩; have n0_ := Aside0.mk (Kd.R_elder' (kr_ HO331.out) (Kd.R_base ho0) hb); have n1_ := Aside0.mk (Kd.R_lower (Kd.R_new' ho0 (Kd.R_lt (kr_ HO331.out))) (below_size (by repeat (first | (with_reducible first | exact HB.out | apply below_alloc | apply pw_below_drewN | apply below_drew1 | refine below_set ?_ GE327.out | refine below_set ?_ GE328.out) | exact HB.out)))); have n2_ := Aside0.mk (blk_below (kb_ BK327.out) hb); have n3_ := Aside0.mk (blk_below (kb_ BK328.out) hb); have n4_ := Aside0.mk (below_step (by repeat (first | (with_reducible first | exact HB.out | apply below_alloc | apply pw_below_drewN | apply below_drew1 | refine below_set ?_ GE327.out | refine below_set ?_ GE328.out) | exact HB.out)) hb); clear HO331; clear BK327; clear BK328; clear HB; have HO331 := n0_; have HO334 := n1_; have BK327 := n2_; have BK328 := n3_; have HB := n4_; clear n0_ n1_ n2_ n3_ n4_; (try clear hb); (try clear hb2); (try clear hk); (try clear hi); (try clear ho0)))
       go_loopg [7] kj2 (fun kq v7 w' => ∃ (x7_2 : Int), v7 = .int .i64 x7_2 ∧ Aside0 (althingref05_Interfere.l0 kq t329 t332 x7_2 = some r) ∧ Aside0 (kq ≤ kj2) ∧ Aside0 (Kd.R Kd.string 9 w' w.heap.size (fun k_ => some k_ ≠ (v333 : Value).ownBlock) v330 t329) ∧ Aside0 (Kd.R Kd.string 9 w' w.heap.size (fun k_ => some k_ ≠ (v330 : Value).ownBlock) v333 t332) ∧ Aside0 (w'.heap[gb327]? = some (.cells #[.int .i64 a0_0, .int .i64 a0_1, .int .i64 a0_2, .int .i64 a0_3, .int .i64 a0_4, .int .i64 a0_5, (.slice A0_6 l0_6.length c0_6), (.slice A0_7 l0_7.length c0_7), .bool a0_8] 32 (0, 0))) ∧ Aside0 (w'.heap[gb328]? = some (.cells #[.int .i64 a1_0, .int .i64 a1_1, .int .i64 a1_2, .int .i64 a1_3, .int .i64 a1_4, .int .i64 a1_5, (.slice A1_6 l1_6.length c1_6), (.slice A1_7 l1_7.length c1_7), .bool a1_8] 32 (0, 0))) ∧ Aside0 (Below w.heap.size w w'))
       case atStart => exact ⟨(0), (by first | rfl | (simp; done) | (simp [*]; done)), H', ⟨Nat.le_refl _⟩, ⟨by (with_reducible repeat (first | apply Kd.R_alloc | apply Kd.R_drewN | apply Kd.R_drew)); exact Kd.R_mono HO331.out (fun _ hk => hk.2)⟩, ⟨by (with_reducible repeat (first | apply Kd.R_alloc | apply Kd.R_drewN | apply Kd.R_drew)); exact Kd.R_mono HO334.out (fun _ hk => hk.2)⟩, ⟨by (with_reducible repeat (first | refine blk_drewN ?_ _ | refine blk_drew ?_ | refine blk_alloc ?_ _)); exact BK327.out⟩, ⟨by (with_reducible repeat (first | refine blk_drewN ?_ _ | refine blk_drew ?_ | refine blk_alloc ?_ _)); exact BK328.out⟩, ⟨by repeat (first | (with_reducible first | exact HB.out | apply below_alloc | apply pw_below_drewN | apply below_drew1 | refine below_set ?_ GE327.out | refine below_set ?_ GE328.out) | exact HB.out)⟩⟩
       case round =>
        clear H'
        try clear c1
        try clear c2
        try clear p2
        try clear c4
        try clear c6
        try clear c6b0
        try clear c6b1
        try clear c7
        try clear c9
        try clear c12
        try clear c13
        try clear c13b0
        try clear c13b1
        try clear c13b2
        try clear c14
        try clear c19
        try clear c25
        try clear hcz10_0 hcz10_1 hcz10_2 hcz10_3 hcz10_4 hcz10_5 hcz10_6 hcz10_7 hcz10_8
        try clear hcz11_0 hcz11_1 hcz11_2 hcz11_3 hcz11_4 hcz11_5 hcz11_6 hcz11_7 hcz11_8
        try clear hcz15_0 hcz15_1 hcz15_2 hcz15_3 hcz15_4 hcz15_5 hcz15_6 hcz15_7 hcz15_8
        try clear hcz16_0 hcz16_1 hcz16_2 hcz16_3 hcz16_4 hcz16_5 hcz16_6 hcz16_7 hcz16_8
        try clear hcz20_0 hcz20_1 hcz20_2 hcz20_3 hcz20_4 hcz20_5 hcz20_6 hcz20_7 hcz20_8
        try clear hcz21_0 hcz21_1 hcz21_2 hcz21_3 hcz21_4 hcz21_5 hcz21_6 hcz21_7 hcz21_8
        try clear hcz8_0 hcz8_1 hcz8_2 hcz8_3 hcz8_4 hcz8_5 hcz8_6 hcz8_7 hcz8_8
        try clear hfz10_0 hfz10_1 hfz10_2 hfz10_3 hfz10_4 hfz10_5 hfz10_6 hfz10_7 hfz10_8
        try clear hfz11_0 hfz11_1 hfz11_2 hfz11_3 hfz11_4 hfz11_5 hfz11_6 hfz11_7 hfz11_8
        try clear hfz15_0 hfz15_1 hfz15_2 hfz15_3 hfz15_4 hfz15_5 hfz15_6 hfz15_7 hfz15_8
        try clear hfz16_0 hfz16_1 hfz16_2 hfz16_3 hfz16_4 hfz16_5 hfz16_6 hfz16_7 hfz16_8
        try clear hfz20_0 hfz20_1 hfz20_2 hfz20_3 hfz20_4 hfz20_5 hfz20_6 hfz20_7 hfz20_8
        try clear hfz21_0 hfz21_1 hfz21_2 hfz21_3 hfz21_4 hfz21_5 hfz21_6 hfz21_7 hfz21_8
        try clear hfz8_0 hfz8_1 hfz8_2 hfz8_3 hfz8_4 hfz8_5 hfz8_6 hfz8_7 hfz8_8
        try clear p2
        (try clear BK327); (try clear BK328)
        obtain ⟨x7_2, rfl, HA, HK2, HO_5, HO_6, BK327, BK328, HB⟩ := hrel
        cases gk with
        | zero => exact absurd HA.out (by simp [althingref05_Interfere.l0])
        | succ k2 =>
         have H := HA.out
         clear HA
         simp only [althingref05_Interfere.l0] at H
         by_cases c26 : x7_2 < (t329.length : Int)
         · rw [if_pos c26] at H
           have c26b0 : decide (x7_2 < (t329.length : Int)) = true := decide_eq_true c26
           clear c26
           by_cases c27 : 0 ≤ x7_2
           · rw [if_pos c27] at H
             have c27b0 : decide (0 ≤ x7_2) = true := decide_eq_true c27
             clear c27
             obtain ⟨t336, A28, H⟩ := bs_ H
             by_cases c29 : t336 = true
             · subst c29
               rw [if_pos rfl] at H
               obtain rfl := Option.some.inj H
               obtain ⟨Ao30, co30, eo30⟩ := Kd.R_slice HO_5.out
               subst eo30
               have p335 : 0 ≤ (x7_2 : Int) := of_decide_eq_true (by first | (with_reducible assumption) | assumption)
               have q335 : x7_2 < (t329.length : Int) := of_decide_eq_true (by first | (with_reducible assumption) | assumption)
               obtain ⟨ad335, e335, hx335_0⟩ := Kd.at_string (Kd.R_reads' HO_5.out).2.2 x7_2 p335 q335
               cases e335
               replace p335 := eq_true p335
               replace q335 := eq_true q335
               obtain ⟨Ao31, co31, eo31⟩ := Kd.R_slice HO_6.out
               subst eo31
               go_wp2_with (first | ((with_reducible refine gate_callee (f := 41) rfl ?_); refine goesL_ (some 36) rfl rfl Try.func41 (by kernel_rfl) rfl #[.slice Ao31 t332.length co31, .string (rdOf ByteArray.empty t329 x7_2)] rfl (by (try simp only [List.map_toArray, List.map_cons, List.map_nil]); first | done | rfl | (simp only [List.length_drop, List.length_take]; rfl)) ?_; (with_reducible refine (althingref04_In.calls k2 _ _ t332 (rdOf ByteArray.empty t329 x7_2) true _ ?side1 ?side2 A28.out).mono ?_); (case side1 => repeat (first | exact (Kd.R_reads' HO_6.out).2.2 | (with_reducible refine Kd.C_alloc ?_ _) | (with_reducible refine Kd.C_drewN ?_ _) | (with_reducible refine Kd.C_drew ?_))); (case side2 => exact (Kd.R_reads' HO_6.out).2.1); rintro e w' ⟨rfl, ⟨nd, rfl⟩⟩; refine ⟨_, rfl, ?_⟩))
               go_ret
               exact ⟨by first | rfl | (simp [errW_none, errW_some] <;> rfl) | (simp [*, errW_none, errW_some] <;> rfl), by repeat (first | (with_reducible first | exact HB.out | apply below_alloc | apply pw_below_drewN | apply below_drew1 | refine below_set ?_ GE327.out | refine below_set ?_ GE328.out) | exact HB.out)⟩
             · replace c29 := Bool.eq_false_iff.mpr c29
               subst c29
               rw [if_neg (show ¬ (false = true) by decide)] at H
               have H' := Aside0.mk H
               clear H
               obtain ⟨Ao32, co32, eo32⟩ := Kd.R_slice HO_5.out
               subst eo32
               have p335 : 0 ≤ (x7_2 : Int) := of_decide_eq_true (by first | (with_reducible assumption) | assumption)
               have q335 : x7_2 < (t329.length : Int) := of_decide_eq_true (by first | (with_reducible assumption) | assumption)
               obtain ⟨ad335, e335, hx335_0⟩ := Kd.at_string (Kd.R_reads' HO_5.out).2.2 x7_2 p335 q335
               cases e335
               replace p335 := eq_true p335
               replace q335 := eq_true q335
               obtain ⟨Ao33, co33, eo33⟩ := Kd.R_slice HO_6.out
               subst eo33
               go_wp2_with (first | ((with_reducible refine gate_callee (f := 41) rfl ?_); refine goesL_ (some 36) rfl rfl Try.func41 (by kernel_rfl) rfl #[.slice Ao33 t332.length co33, .string (rdOf ByteArray.empty t329 x7_2)] rfl (by (try simp only [List.map_toArray, List.map_cons, List.map_nil]); first | done | rfl | (simp only [List.length_drop, List.length_take]; rfl)) ?_; (with_reducible refine (althingref04_In.calls k2 _ _ t332 (rdOf ByteArray.empty t329 x7_2) false _ ?side1 ?side2 A28.out).mono ?_); (case side1 => repeat (first | exact (Kd.R_reads' HO_6.out).2.2 | (with_reducible refine Kd.C_alloc ?_ _) | (with_reducible refine Kd.C_drewN ?_ _) | (with_reducible refine Kd.C_drew ?_))); (case side2 => exact (Kd.R_reads' HO_6.out).2.1); rintro e w' ⟨rfl, ⟨nd, rfl⟩⟩; refine ⟨_, rfl, ?_⟩))
               go_roundg k2
               case measure => have := HJ2.out; have := HK2.out; omega
               case rel => exact ⟨(wrap64 (x7_2 + 1)), (by first | rfl | (simp; done) | (simp [*]; done)), H', ⟨by have := HJ2.out; have := HK2.out; omega⟩, ⟨by (with_reducible repeat (first | apply Kd.R_alloc | apply Kd.R_drewN | apply Kd.R_drew)); exact HO_5.out⟩, ⟨by (with_reducible repeat (first | apply Kd.R_alloc | apply Kd.R_drewN | apply Kd.R_drew)); exact HO_6.out⟩, ⟨by (with_reducible repeat (first | refine blk_drewN ?_ _ | refine blk_drew ?_ | refine blk_alloc ?_ _)); exact BK327.out⟩, ⟨by (with_reducible repeat (first | refine blk_drewN ?_ _ | refine blk_drew ?_ | refine blk_alloc ?_ _)); exact BK328.out⟩, ⟨by repeat (first | (with_reducible first | exact HB.out | apply below_alloc | apply pw_below_drewN | apply below_drew1 | refine below_set ?_ GE327.out | refine below_set ?_ GE328.out) | exact HB.out)⟩⟩
           · rw [if_neg c27] at H
             exact absurd H (by simp)
         · rw [if_neg c26] at H
           have c26b0 : decide (x7_2 < (t329.length : Int)) = false := decide_eq_false c26
           clear c26
           obtain rfl := Option.some.inj H
           obtain ⟨Ao34, co34, eo34⟩ := Kd.R_slice HO_5.out
           subst eo34
           go_wp2
           go_ret
           exact ⟨by first | rfl | (simp [errW_none, errW_some] <;> rfl) | (simp [*, errW_none, errW_some] <;> rfl), by repeat (first | (with_reducible first | exact HB.out | apply below_alloc | apply pw_below_drewN | apply below_drew1 | refine below_set ?_ GE327.out | refine below_set ?_ GE328.out) | exact HB.out)⟩
end Go.Proofs.Ytklbmdakoeoplaa.X
end
section
namespace Go.Proofs.Ytklbmdakoeoplaa.X
open Go.RowKit Go.Proofs.YtklbmdakoeoplaaW.PrintWords Go.Proofs.YtklbmdakoeoplaaW.PrintLast Go.Proofs.YtklbmdakoeoplaaW.PrintMore
attribute [local go_sem] max2_int min2_int max_two min_two max_three min_three max_four min_four   -- for this text's walks alone
set_option linter.unusedVariables false
set_option linter.unusedSimpArgs false
/-! ### index_Ordered: function 26 -/
def index_Ordered.f (k : Nat) (a0_0 : Int) (a0_1 : Int) (a0_2 : Int) (a0_3 : Int) (a0_4 : Int) (a0_5 : Int) (a0_6 : Int) (a0_7 : Int) (a0_8 : Int) (a0_9 : Int) (a0_10 : Int) (a0_11 : Int) (a0_12 : Int) (l0_13 : List (S61)) (l0_14 : List (S46)) (a0_15 : Bool) (a0_16 : Int) (a0_17 : Int) (a0_18 : Int) (a0_19 : Int) (a0_20 : Int) (a0_21 : Int) (a0_22 : Int) (a0_23 : Int) (a0_24 : Bool) (a1_0 : Int) (a1_1 : Int) (a1_2 : Int) (a1_3 : Int) (a1_4 : Int) (a1_5 : Int) (a1_6 : Int) (a1_7 : Int) (a1_8 : Int) (a1_9 : Int) (a1_10 : Int) (a1_11 : Int) (a1_12 : Int) (l1_13 : List (S61)) (l1_14 : List (S46)) (a1_15 : Bool) (a1_16 : Int) (a1_17 : Int) (a1_18 : Int) (a1_19 : Int) (a1_20 : Int) (a1_21 : Int) (a1_22 : Int) (a1_23 : Int) (a1_24 : Bool) : Option (Bool) := (command_Interfere.f k a0_7 a0_8 a0_9 a0_10 a0_11 a0_12 l0_13 l0_14 a0_15 a1_7 a1_8 a1_9 a1_10 a1_11 a1_12 l1_13 l1_14 a1_15).bind fun t620 => (if t620 = true then ((deps_Has.f a0_17 a0_18 a0_19 a0_20 a0_21 a0_22 a0_23 a1_0 a1_1).bind fun t621 => (if t621 = true then (some true) else ((deps_Has.f a1_17 a1_18 a1_19 a1_20 a1_21 a1_22 a1_23 a0_0 a0_1).bind fun t622 => (some t622)))) else (some true))
set_option maxHeartbeats 8000000 in
set_option maxRecDepth 100000 in
theorem index_Ordered.calls (k : Nat) (a0_0 : Int) (a0_1 : Int) (a0_2 : Int) (a0_3 : Int) (a0_4 : Int) (a0_5 : Int) (a0_6 : Int) (a0_7 : Int) (a0_8 : Int) (a0_9 : Int) (a0_10 : Int) (a0_11 : Int) (a0_12 : Int) (A0_13 : Option Addr) (c0_13 : Nat) (l0_13 : List (S61)) (A0_14 : Option Addr) (c0_14 : Nat) (l0_14 : List (S46)) (a0_15 : Bool) (a0_16 : Int) (a0_17 : Int) (a0_18 : Int) (a0_19 : Int) (a0_20 : Int) (a0_21 : Int) (a0_22 : Int) (a0_23 : Int) (a0_24 : Bool) (a1_0 : Int) (a1_1 : Int) (a1_2 : Int) (a1_3 : Int) (a1_4 : Int) (a1_5 : Int) (a1_6 : Int) (a1_7 : Int) (a1_8 : Int) (a1_9 : Int) (a1_10 : Int) (a1_11 : Int) (a1_12 : Int) (A1_13 : Option Addr) (c1_13 : Nat) (l1_13 : List (S61)) (A1_14 : Option Addr) (c1_14 : Nat) (l1_14 : List (S46)) (a1_15 : Bool) (a1_16 : Int) (a1_17 : Int) (a1_18 : Int) (a1_19 : Int) (a1_20 : Int) (a1_21 : Int) (a1_22 : Int) (a1_23 : Int) (a1_24 : Bool) (r : Bool) (w : World) (hr0_13 : Kd.C k61 w A0_13 l0_13.length l0_13) (hc0_13 : l0_13.length ≤ c0_13) (hr0_14 : Kd.C k46 w A0_14 l0_14.length l0_14) (hc0_14 : l0_14.length ≤ c0_14) (hr1_13 : Kd.C k61 w A1_13 l1_13.length l1_13) (hc1_13 : l1_13.length ≤ c1_13) (hr1_14 : Kd.C k46 w A1_14 l1_14.length l1_14) (hc1_14 : l1_14.length ≤ c1_14) (h : index_Ordered.f k a0_0 a0_1 a0_2 a0_3 a0_4 a0_5 a0_6 a0_7 a0_8 a0_9 a0_10 a0_11 a0_12 l0_13 l0_14 a0_15 a0_16 a0_17 a0_18 a0_19 a0_20 a0_21 a0_22 a0_23 a0_24 a1_0 a1_1 a1_2 a1_3 a1_4 a1_5 a1_6 a1_7 a1_8 a1_9 a1_10 a1_11 a1_12 l1_13 l1_14 a1_15 a1_16 a1_17 a1_18 a1_19 a1_20 a1_21 a1_22 a1_23 a1_24 = some r) :
 Calls Try.prog 26 #[.agg #[.int .i64 a0_0, .int .i64 a0_1, .int .i64 a0_2, .int .i64 a0_3, .int .i64 a0_4, .int .i64 a0_5, .int .i64 a0_6, .int .i64 a0_7, .int .i64 a0_8, .int .i64 a0_9, .int .i64 a0_10, .int .i64 a0_11, .int .i64 a0_12, .slice A0_13 l0_13.length c0_13, .slice A0_14 l0_14.length c0_14, .bool a0_15, .int .i64 a0_16, .int .i64 a0_17, .int .i64 a0_18, .int .i64 a0_19, .int .i64 a0_20, .int .i64 a0_21, .int .i64 a0_22, .int .i64 a0_23, .bool a0_24], .agg #[.int .i64 a1_0, .int .i64 a1_1, .int .i64 a1_2, .int .i64 a1_3, .int .i64 a1_4, .int .i64 a1_5, .int .i64 a1_6, .int .i64 a1_7, .int .i64 a1_8, .int .i64 a1_9, .int .i64 a1_10, .int .i64 a1_11, .int .i64 a1_12, .slice A1_13 l1_13.length c1_13, .slice A1_14 l1_14.length c1_14, .bool a1_15, .int .i64 a1_16, .int .i64 a1_17, .int .i64 a1_18, .int .i64 a1_19, .int .i64 a1_20, .int .i64 a1_21, .int .i64 a1_22, .int .i64 a1_23, .bool a1_24]] w fun e w' => e = .returned (.bool r) ∧ Below w.heap.size w w' := by
 have hu44 := Try.underlying44
 have hu32 := Try.underlying32
 have hu42 := Try.underlying42
 have hu24 := Try.underlying24
 have HR0_13 := Aside0.mk hr0_13
 have HC0_13 := Aside0.mk hc0_13
 clear hr0_13 hc0_13
 have HR0_14 := Aside0.mk hr0_14
 have HC0_14 := Aside0.mk hc0_14
 clear hr0_14 hc0_14
 have HR1_13 := Aside0.mk hr1_13
 have HC1_13 := Aside0.mk hc1_13
 clear hr1_13 hc1_13
 have HR1_14 := Aside0.mk hr1_14
 have HC1_14 := Aside0.mk hc1_14
 clear hr1_14 hc1_14
 have HB := Aside0.mk (Below.refl w.heap.size w)
 have H : ((command_Interfere.f k a0_7 a0_8 a0_9 a0_10 a0_11 a0_12 l0_13 l0_14 a0_15 a1_7 a1_8 a1_9 a1_10 a1_11 a1_12 l1_13 l1_14 a1_15).bind fun t620 => (if t620 = true then ((deps_Has.f a0_17 a0_18 a0_19 a0_20 a0_21 a0_22 a0_23 a1_0 a1_1).bind fun t621 => (if t621 = true then (some true) else ((deps_Has.f a1_17 a1_18 a1_19 a1_20 a1_21 a1_22 a1_23 a0_0 a0_1).bind fun t622 => (some t622)))) else (some true))) = some r := h
 clear h
 obtain ⟨t620, A3, H⟩ := bs_ H
 by_cases c4 : t620 = true
 · subst c4
   rw [if_pos rfl] at H
   obtain ⟨t621, A5, H⟩ := bs_ H
   by_cases c6 : t621 = true
   · subst c6
     rw [if_pos rfl] at H
     obtain rfl := Option.some.inj H
     go_enter Try.func26, Try.ntmps26
     go_wp2_with (first | ((with_reducible refine gate_dst (N := 2) rfl ?_); refine box_event ?hg (N := 2) ?hd (cs := #[.int .i64 a0_0, .int .i64 a0_1, .int .i64 a0_2, .int .i64 a0_3, .int .i64 a0_4, .int .i64 a0_5, .int .i64 a0_6, .int .i64 a0_7, .int .i64 a0_8, .int .i64 a0_9, .int .i64 a0_10, .int .i64 a0_11, .int .i64 a0_12, .slice A0_13 l0_13.length c0_13, .slice A0_14 l0_14.length c0_14, .bool a0_15, .int .i64 a0_16, .int .i64 a0_17, .int .i64 a0_18, .int .i64 a0_19, .int .i64 a0_20, .int .i64 a0_21, .int .i64 a0_22, .int .i64 a0_23, .bool a0_24]) (t := 44) ?hr ?_; (case hd => rfl); (case hg => rfl); (case hr => first | (go_simp; done) | (go_simp; rfl)); intro gb618 hg w7 hbox hb; have n0_ := Aside0.mk (below_step lb_ hb); have n1_ := Aside0.mk (hbox); have n2_ := Aside0.mk ((by rw [hg]; exact (below_size lb_) : w.heap.size ≤ gb618)); have n3_ := Aside0.mk ((by rw [hg]; exact (below_size lb_) : w.heap.size ≤ gb618)); clear HB; have HB := n0_; have BK618 := n1_; have GW618 := n2_; have GE618 := n3_; clear n0_ n1_ n2_ n3_; clear hb hbox hg) | ((with_reducible refine gate_dst (N := 3) rfl ?_); refine box_event ?hg (N := 3) ?hd (cs := #[.int .i64 a1_0, .int .i64 a1_1, .int .i64 a1_2, .int .i64 a1_3, .int .i64 a1_4, .int .i64 a1_5, .int .i64 a1_6, .int .i64 a1_7, .int .i64 a1_8, .int .i64 a1_9, .int .i64 a1_10, .int .i64 a1_11, .int .i64 a1_12, .slice A1_13 l1_13.length c1_13, .slice A1_14 l1_14.length c1_14, .bool a1_15, .int .i64 a1_16, .int .i64 a1_17, .int .i64 a1_18, .int .i64 a1_19, .int .i64 a1_20, .int .i64 a1_21, .int .i64 a1_22, .int .i64 a1_23, .bool a1_24]) (t := 44) ?hr ?_; (case hd => rfl); (case hg => rfl); (case hr => first | (go_simp; done) | (go_simp; rfl)); intro gb619 hg w8 hbox hb; have n0_ := Aside0.mk (blk_below (kb_ BK618.out) hb); have n1_ := Aside0.mk (below_step (by repeat (first | (with_reducible first | exact HB.out | apply below_alloc | apply pw_below_drewN | apply below_drew1 | refine below_set ?_ GE618.out) | exact HB.out)) hb); have n2_ := Aside0.mk (hbox); have n3_ := Aside0.mk ((by rw [hg]; exact (below_size (by repeat (first | (with_reducible first | exact HB.out | apply below_alloc | apply pw_below_drewN | apply below_drew1 | refine below_set ?_ GE618.out) | exact HB.out))) : w.heap.size ≤ gb619)); have n4_ := Aside0.mk ((by rw [hg]; exact (below_size (by repeat (first | (with_reducible first | exact HB.out | apply below_alloc | apply pw_below_drewN | apply below_drew1 | refine below_set ?_ GE618.out) | exact HB.out))) : w.heap.size ≤ gb619)); have n5_ := Aside0.mk ((by rw [hg]; exact Nat.ne_of_lt (blk_lt (kb_ BK618.out)) : gb618 ≠ gb619)); have n6_ := Aside0.mk ((by rw [hg]; exact Nat.ne_of_gt (blk_lt (kb_ BK618.out)) : gb619 ≠ gb618)); clear BK618; clear HB; have BK618 := n0_; have HB := n1_; have BK619 := n2_; have GW619 := n3_; have GE619 := n4_; have NB618_619 := n5_; have NB619_618 := n6_; clear n0_ n1_ n2_ n3_ n4_ n5_ n6_; clear hb hbox hg; have hnb9 := NB618_619.out; have hnc9 := NB619_618.out; refine blk25_ BK618.out fun hcz10_0 hcz10_1 hcz10_2 hcz10_3 hcz10_4 hcz10_5 hcz10_6 hcz10_7 hcz10_8 hcz10_9 hcz10_10 hcz10_11 hcz10_12 hcz10_13 hcz10_14 hcz10_15 hcz10_16 hcz10_17 hcz10_18 hcz10_19 hcz10_20 hcz10_21 hcz10_22 hcz10_23 hcz10_24 hfz10_0 hfz10_1 hfz10_2 hfz10_3 hfz10_4 hfz10_5 hfz10_6 hfz10_7 hfz10_8 hfz10_9 hfz10_10 hfz10_11 hfz10_12 hfz10_13 hfz10_14 hfz10_15 hfz10_16 hfz10_17 hfz10_18 hfz10_19 hfz10_20 hfz10_21 hfz10_22 hfz10_23 hfz10_24 => ?_; refine blk25_ BK619.out fun hcz11_0 hcz11_1 hcz11_2 hcz11_3 hcz11_4 hcz11_5 hcz11_6 hcz11_7 hcz11_8 hcz11_9 hcz11_10 hcz11_11 hcz11_12 hcz11_13 hcz11_14 hcz11_15 hcz11_16 hcz11_17 hcz11_18 hcz11_19 hcz11_20 hcz11_21 hcz11_22 hcz11_23 hcz11_24 hfz11_0 hfz11_1 hfz11_2 hfz11_3 hfz11_4 hfz11_5 hfz11_6 hfz11_7 hfz11_8 hfz11_9 hfz11_10 hfz11_11 hfz11_12 hfz11_13 hfz11_14 hfz11_15 hfz11_16 hfz11_17 hfz11_18 hfz11_19 hfz11_20 hfz11_21 hfz11_22 hfz11_23 hfz11_24 => ?_) | ((with_reducible refine gate_callee (f := 36) rfl ?_); refine goesL_ (some 9) rfl rfl Try.func36 (by kernel_rfl) rfl #[.agg #[.int .i64 a0_7, .int .i64 a0_8, .int .i64 a0_9, .int .i64 a0_10, .int .i64 a0_11, .int .i64 a0_12, .slice A0_13 l0_13.length c0_13, .slice A0_14 l0_14.length c0_14, .bool a0_15], .agg #[.int .i64 a1_7, .int .i64 a1_8, .int .i64 a1_9, .int .i64 a1_10, .int .i64 a1_11, .int .i64 a1_12, .slice A1_13 l1_13.length c1_13, .slice A1_14 l1_14.length c1_14, .bool a1_15]] rfl (by (try simp only [List.map_toArray, List.map_cons, List.map_nil]); first | done | rfl | (simp only [List.length_drop, List.length_take]; rfl)) ?_; (with_reducible refine (command_Interfere.calls k a0_7 a0_8 a0_9 a0_10 a0_11 a0_12 _ _ l0_13 _ _ l0_14 a0_15 a1_7 a1_8 a1_9 a1_10 a1_11 a1_12 _ _ l1_13 _ _ l1_14 a1_15 true _ ?side1 ?side2 ?side3 ?side4 ?side5 ?side6 ?side7 ?side8 A3.out).mono ?_); (case side1 => exact kc_ (Kd.C_below HR0_13.out HB.out)); (case side2 => exact HC0_13.out); (case side3 => exact kc_ (Kd.C_below HR0_14.out HB.out)); (case side4 => exact HC0_14.out); (case side5 => exact kc_ (Kd.C_below HR1_13.out HB.out)); (case side6 => exact HC1_13.out); (case side7 => exact kc_ (Kd.C_below HR1_14.out HB.out)); (case side8 => exact HC1_14.out); rintro e w12 ⟨rfl, hb⟩; refine ⟨_, rfl, ?_⟩; have n0_ := Aside0.mk (blk_below (kb_ BK618.out) hb); have n1_ := Aside0.mk (blk_below (kb_ BK619.out) hb); have n2_ := Aside0.mk (below_step (by repeat (first | (with_reducible first | exact HB.out | apply below_alloc | apply pw_below_drewN | apply below_drew1 | refine below_set ?_ GE618.out | refine below_set ?_ GE619.out) | exact HB.out)) hb); clear BK618; clear BK619; clear HB; have BK618 := n0_; have BK619 := n1_; have HB := n2_; clear n0_ n1_ n2_; (try clear hb); (try clear hb2); (try clear hk); (try clear hi); refine blk25_ BK618.out fun hcz13_0 hcz13_1 hcz13_2 hcz13_3 hcz13_4 hcz13_5 hcz13_6 hcz13_7 hcz13_8 hcz13_9 hcz13_10 hcz13_11 hcz13_12 hcz13_13 hcz13_14 hcz13_15 hcz13_16 hcz13_17 hcz13_18 hcz13_19 hcz13_20 hcz13_21 hcz13_22 hcz13_23 hcz13_24 hfz13_0 hfz13_1 hfz13_2 hfz13_3 hfz13_4 hfz13_5 hfz13_6 hfz13_7 hfz13_8 hfz13_9 hfz13_10 hfz13_11 hfz13_12 hfz13_13 hfz13_14 hfz13_15 hfz13_16 hfz13_17 hfz13_18 hfz13_19 hfz13_20 hfz13_21 hfz13_22 hfz13_23 hfz13_24 => ?_; refine blk25_ BK619.out fun hcz14_0 hcz14_1 hcz14_2 hcz14_3 hcz14_4 hcz14_5 hcz14_6 hcz14_7 hcz14_8 hcz14_9 hcz14_10 hcz14_11 hcz14_12 hcz14_13 hcz14_14 hcz14_15 hcz14_16 hcz14_17 hcz14_18 hcz14_19 hcz14_20 hcz14_21 hcz14_22 hcz14_23 hcz14_24 hfz14_0 hfz14_1 hfz14_2 hfz14_3 hfz14_4 hfz14_5 hfz14_6 hfz14_7 hfz14_8 hfz14_9 hfz14_10 hfz14_11 hfz14_12 hfz14_13 hfz14_14 hfz14_15 hfz14_16 hfz14_17 hfz14_18 hfz14_19 hfz14_20 hfz14_21 hfz14_22 hfz14_23 hfz14_24 => ?_) | (go_at_call 42; (with_reducible refine (deps_Has.calls a0_17 a0_18 a0_19 a0_20 a0_21 a0_22 a0_23 a1_0 a1_1 true _ A5.out).mono ?_); rintro e w15 ⟨rfl, hb⟩; have n0_ := Aside0.mk (blk_below (kb_ BK618.out) hb); have n1_ := Aside0.mk (blk_below (kb_ BK619.out) hb); have n2_ := Aside0.mk (below_step (by repeat (first | (with_reducible first | exact HB.out | apply below_alloc | apply pw_below_drewN | apply below_drew1 | refine below_set ?_ GE618.out | refine below_set ?_ GE619.out) | exact HB.out)) hb); clear BK618; clear BK619; clear HB; have BK618 := n0_; have BK619 := n1_; have HB := n2_; clear n0_ n1_ n2_; (try clear hb); (try clear hb2); (try clear hk); (try clear hi)))
     go_ret
     exact ⟨by first | rfl | (simp [errW_none, errW_some] <;> rfl) | (simp [*, errW_none, errW_some] <;> rfl), by repeat (first | (with_reducible first | exact HB.out | apply below_alloc | apply pw_below_drewN | apply below_drew1 | refine below_set ?_ GE618.out | refine below_set ?_ GE619.out) | exact HB.out)⟩
   · replace c6 := Bool.eq_false_iff.mpr c6
     subst c6
     rw [if_neg (show ¬ (false = true) by decide)] at H
     obtain ⟨t622, A16, H⟩ := bs_ H
     obtain rfl := Option.some.inj H
     go_enter Try.func26, Try.ntmps26
     go_wp2_with (first | ((with_reducible refine gate_dst (N := 2) rfl ?_); refine box_event ?hg (N := 2) ?hd (cs := #[.int .i64 a0_0, .int .i64 a0_1, .int .i64 a0_2, .int .i64 a0_3, .int .i64 a0_4, .int .i64 a0_5, .int .i64 a0_6, .int .i64 a0_7, .int .i64 a0_8, .int .i64 a0_9, .int .i64 a0_10, .int .i64 a0_11, .int .i64 a0_12, .slice A0_13 l0_13.length c0_13, .slice A0_14 l0_14.length c0_14, .bool a0_15, .int .i64 a0_16, .int .i64 a0_17, .int .i64 a0_18, .int .i64 a0_19, .int .i64 a0_20, .int .i64 a0_21, .int .i64 a0_22, .int .i64 a0_23, .bool a0_24]) (t := 44) ?hr ?_; (case hd => rfl); (case hg => rfl); (case hr => first | (go_simp; done) | (go_simp; rfl)); intro gb618 hg w17 hbox hb; have n0_ := Aside0.mk (below_step lb_ hb); have n1_ := Aside0.mk (hbox); have n2_ := Aside0.mk ((by rw [hg]; exact (below_size lb_) : w.heap.size ≤ gb618)); have n3_ := Aside0.mk ((by rw [hg]; exact (below_size lb_) : w.heap.size ≤ gb618)); clear HB; have HB := n0_; have BK618 := n1_; have GW618 := n2_; have GE618 := n3_; clear n0_ n1_ n2_ n3_; clear hb hbox hg) | ((with_reducible refine gate_dst (N := 3) rfl ?_); refine box_event ?hg (N := 3) ?hd (cs := #[.int .i64 a1_0, .int .i64 a1_1, .int .i64 a1_2, .int .i64 a1_3, .int .i64 a1_4, .int .i64 a1_5, .int .i64 a1_6, .int .i64 a1_7, .int .i64 a1_8, .int .i64 a1_9, .int .i64 a1_10, .int .i64 a1_11, .int .i64 a1_12, .slice A1_13 l1_13.length c1_13, .slice A1_14 l1_14.length c1_14, .bool a1_15, .int .i64 a1_16, .int .i64 a1_17, .int .i64 a1_18, .int .i64 a1_19, .int .i64 a1_20, .int .i64 a1_21, .int .i64 a1_22, .int .i64 a1_23, .bool a1_24]) (t := 44) ?hr ?_; (case hd => rfl); (case hg => rfl); (case hr => first | (go_simp; done) | (go_simp; rfl)); intro gb619 hg w18 hbox hb; have n0_ := Aside0.mk (blk_below (kb_ BK618.out) hb); have n1_ := Aside0.mk (below_step (by repeat (first | (with_reducible first | exact HB.out | apply below_alloc | apply pw_below_drewN | apply below_drew1 | refine below_set ?_ GE618.out) | exact HB.out)) hb); have n2_ := Aside0.mk (hbox); have n3_ := Aside0.mk ((by rw [hg]; exact (below_size (by repeat (first | (with_reducible first | exact HB.out | apply below_alloc | apply pw_below_drewN | apply below_drew1 | refine below_set ?_ GE618.out) | exact HB.out))) : w.heap.size ≤ gb619)); have n4_ := Aside0.mk ((by rw [hg]; exact (below_size (by repeat (first | (with_reducible first | exact HB.out | apply below_alloc | apply pw_below_drewN | apply below_drew1 | refine below_set ?_ GE618.out) | exact HB.out))) : w.heap.size ≤ gb619)); have n5_ := Aside0.mk ((by rw [hg]; exact Nat.ne_of_lt (blk_lt (kb_ BK618.out)) : gb618 ≠ gb619)); have n6_ := Aside0.mk ((by rw [hg]; exact Nat.ne_of_gt (blk_lt (kb_ BK618.out)) : gb619 ≠ gb618)); clear BK618; clear HB; have BK618 := n0_; have HB := n1_; have BK619 := n2_; have GW619 := n3_; have GE619 := n4_; have NB618_619 := n5_; have NB619_618 := n6_; clear n0_ n1_ n2_ n3_ n4_ n5_ n6_; clear hb hbox hg; have hnb19 := NB618_619.out; have hnc19 := NB619_618.out; refine blk25_ BK618.out fun hcz20_0 hcz20_1 hcz20_2 hcz20_3 hcz20_4 hcz20_5 hcz20_6 hcz20_7 hcz20_8 hcz20_9 hcz20_10 hcz20_11 hcz20_12 hcz20_13 hcz20_14 hcz20_15 hcz20_16 hcz20_17 hcz20_18 hcz20_19 hcz20_20 hcz20_21 hcz20_22 hcz20_23 hcz20_24 hfz20_0 hfz20_1 hfz20_2 hfz20_3 hfz20_4 hfz20_5 hfz20_6 hfz20_7 hfz20_8 hfz20_9 hfz20_10 hfz20_11 hfz20_12 hfz20_13 hfz20_14 hfz20_15 hfz20_16 hfz20_17 hfz20_18 hfz20_19 hfz20_20 hfz20_21 hfz20_22 hfz20_23 hfz20_24 => ?_; refine blk25_ BK619.out fun hcz21_0 hcz21_1 hcz21_2 hcz21_3 hcz21_4 hcz21_5 hcz21_6 hcz21_7 hcz21_8 hcz21_9 hcz21_10 hcz21_11 hcz21_12 hcz21_13 hcz21_14 hcz21_15 hcz21_16 hcz21_17 hcz21_18 hcz21_19 hcz21_20 hcz21_21 hcz21_22 hcz21_23 hcz21_24 hfz21_0 hfz21_1 hfz21_2 hfz21_3 hfz21_4 hfz21_5 hfz21_6 hfz21_7 hfz21_8 hfz21_9 hfz21_10 hfz21_11 hfz21_12 hfz21_13 hfz21_14 hfz21_15 hfz21_16 hfz21_17 hfz21_18 hfz21_19 hfz21_20 hfz21_21 hfz21_22 hfz21_23 hfz21_24 => ?_) | ((with_reducible refine gate_callee (f := 36) rfl ?_); refine goesL_ (some 9) rfl rfl Try.func36 (by kernel_rfl) rfl #[.agg #[.int .i64 a0_7, .int .i64 a0_8, .int .i64 a0_9, .int .i64 a0_10, .int .i64 a0_11, .int .i64 a0_12, .slice A0_13 l0_13.length c0_13, .slice A0_14 l0_14.length c0_14, .bool a0_15], .agg #[.int .i64 a1_7, .int .i64 a1_8, .int .i64 a1_9, .int .i64 a1_10, .int .i64 a1_11, .int .i64 a1_12, .slice A1_13 l1_13.length c1_13, .slice A1_14 l1_14.length c1_14, .bool a1_15]] rfl (by (try simp only [List.map_toArray, List.map_cons, List.map_nil]); first | done | rfl | (simp only [List.length_drop, List.length_take]; rfl)) ?_; (with_reducible refine (command_Interfere.calls k a0_7 a0_8 a0_9 a0_10 a0_11 a0_12 _ _ l0_13 _ _ l0_14 a0_15 a1_7 a1_8 a1_9 a1_10 a1_11 a1_12 _ _ l1_13 _ _ l1_14 a1_15 true _ ?side1 ?side2 ?side3 ?side4 ?side5 ?side6 ?side7 ?side8 A3.out).mono ?_); (case side1 => exact kc_ (Kd.C_below HR0_13.out HB.out)); (case side2 => exact HC0_13.out); (case side3 => exact kc_ (Kd.C_below HR0_14.out HB.out)); (case side4 => exact HC0_14.out); (case side5 => exact kc_ (Kd.C_below HR1_13.out HB.out)); (case side6 => exact HC1_13.out); (case side7 => exact kc_ (Kd.C_below HR1_14.out HB.out)); (case side8 => exact HC1_14.out); rintro e w22 ⟨rfl, hb⟩; refine ⟨_, rfl, ?_⟩; have n0_ := Aside0.mk (blk_below (kb_ BK618.out) hb); have n1_ := Aside0.mk (blk_below (kb_ BK619.out) hb); have n2_ := Aside0.mk (below_step (by repeat (first | (with_reducible first | exact HB.out | apply below_alloc | apply pw_below_drewN | apply below_drew1 | refine below_set ?_ GE618.out | refine below_set ?_ GE619.out) | exact HB.out)) hb); clear BK618; clear BK619; clear HB; have BK618 := n0_; have BK619 := n1_; have HB := n2_; clear n0_ n1_ n2_; (try clear hb); (try clear hb2); (try clear hk); (try clear hi); refine blk25_ BK618.out fun hcz23_0 hcz23_1 hcz23_2 hcz23_3 hcz23_4 hcz23_5 hcz23_6 hcz23_7 hcz23_8 hcz23_9 hcz23_10 hcz23_11 hcz23_12 hcz23_13 hcz23_14 hcz23_15 hcz23_16 hcz23_17 hcz23_18 hcz23_19 hcz23_20 hcz23_21 hcz23_22 hcz23_23 hcz23_24 hfz23_0 hfz23_1 hfz23_2 hfz23_3 hfz23_4 hfz23_5 hfz23_6 hfz23_7 hfz23_8 hfz23_9 hfz23_10 hfz23_11 hfz23_12 hfz23_13 hfz23_14 hfz23_15 hfz23_16 hfz23_17 hfz23_18 hfz23_19 hfz23_20 hfz23_21 hfz23_22 hfz23_23 hfz23_24 => ?_; refine blk25_ BK619.out fun hcz24_0 hcz24_1 hcz24_2 hcz24_3 hcz24_4 hcz24_5 hcz24_6 hcz24_7 hcz24_8 hcz24_9 hcz24_10 hcz24_11 hcz24_12 hcz24_13 hcz24_14 hcz24_15 hcz24_16 hcz24_17 hcz24_18 hcz24_19 hcz24_20 hcz24_21 hcz24_22 hcz24_23 hcz24_24 hfz24_0 hfz24_1 hfz24_2 hfz24_3 hfz24_4 hfz24_5 hfz24_6 hfz24_7 hfz24_8 hfz24_9 hfz24_10 hfz24_11 hfz24_12 hfz24_13 hfz24_14 hfz24_15 hfz24_16 hfz24_17 hfz24_18 hfz24_19 hfz24_20 hfz24_21 hfz24_22 hfz24_23 hfz24_24 => ?_) | (go_at_call 42; (with_reducible refine (deps_Has.calls a0_17 a0_18 a0_19 a0_20 a0_21 a0_22 a0_23 a1_0 a1_1 false _ A5.out).mono ?_); rintro e w25 ⟨rfl, hb⟩; have n0_ := Aside0.mk (blk_below (kb_ BK618.out) hb); have n1_ := Aside0.mk (blk_below (kb_ BK619.out) hb); have n2_ := Aside0.mk (below_step (by repeat (first | (with_reducible first | exact HB.out | apply below_alloc | apply pw_below_drewN | apply below_drew1 | refine below_set ?_ GE618.out | refine below_set ?_ GE619.out) | exact HB.out)) hb); clear BK618; clear BK619; clear HB; have BK618 := n0_; have BK619 := n1_; have HB := n2_; clear n0_ n1_ n2_; (try clear hb); (try clear hb2); (try clear hk); (try clear hi); refine blk25_ BK619.out fun hcz26_0 hcz26_1 hcz26_2 hcz26_3 hcz26_4 hcz26_5 hcz26_6 hcz26_7 hcz26_8 hcz26_9 hcz26_10 hcz26_11 hcz26_12 hcz26_13 hcz26_14 hcz26_15 hcz26_16 hcz26_17 hcz26_18 hcz26_19 hcz26_20 hcz26_21 hcz26_22 hcz26_23 hcz26_24 hfz26_0 hfz26_1 hfz26_2 hfz26_3 hfz26_4 hfz26_5 hfz26_6 hfz26_7 hfz26_8 hfz26_9 hfz26_10 hfz26_11 hfz26_12 hfz26_13 hfz26_14 hfz26_15 hfz26_16 hfz26_17 hfz26_18 hfz26_19 hfz26_20 hfz26_21 hfz26_22 hfz26_23 hfz26_24 => ?_; refine blk25_ BK618.out fun hcz27_0 hcz27_1 hcz27_2 hcz27_3 hcz27_4 hcz27_5 hcz27_6 hcz27_7 hcz27_8 hcz27_9 hcz27_10 hcz27_11 hcz27_12 hcz27_13 hcz27_14 hcz27_15 hcz27_16 hcz27_17 hcz27_18 hcz27_19 hcz27_20 hcz27_21 hcz27_22 hcz27_23 hcz27_24 hfz27_0 hfz27_1 hfz27_2 hfz27_3 hfz27_4 hfz27_5 hfz27_6 hfz27_7 hfz27_8 hfz27_9 hfz27_10 hfz27_11 hfz27_12 hfz27_13 hfz27_14 hfz27_15 hfz27_16 hfz27_17 hfz27_18 hfz27_19 hfz27_20 hfz27_21 hfz27_22 hfz27_23 hfz27_24 => ?_) | (go_at_call 42; (with_reducible refine (deps_Has.calls a1_17 a1_18 a1_19 a1_20 a1_21 a1_22 a1_23 a0_0 a0_1 t622 _ A16.out).mono ?_); rintro e w28 ⟨rfl, hb⟩; have n0_ := Aside0.mk (blk_below (kb_ BK618.out) hb); have n1_ := Aside0.mk (blk_below (kb_ BK619.out) hb); have n2_ := Aside0.mk (below_step (by repeat (first | (with_reducible first | exact HB.out | apply below_alloc | apply pw_below_drewN | apply below_drew1 | refine below_set ?_ GE618.out | refine below_set ?_ GE619.out) | exact HB.out)) hb); clear BK618; clear BK619; clear HB; have BK618 := n0_; have BK619 := n1_; have HB := n2_; clear n0_ n1_ n2_; (try clear hb); (try clear hb2); (try clear hk); (try clear hi)))
     go_ret
     exact ⟨by first | rfl | (simp [errW_none, errW_some] <;> rfl) | (simp [*, errW_none, errW_some] <;> rfl), by repeat (first | (with_reducible first | exact HB.out | apply below_alloc | apply pw_below_drewN | apply below_drew1 | refine below_set ?_ GE618.out | refine below_set ?_ GE619.out) | exact HB.out)⟩
 · replace c4 := Bool.eq_false_iff.mpr c4
   subst c4
   rw [if_neg (show ¬ (false = true) by decide)] at H
   obtain rfl := Option.some.inj H
   go_enter Try.func26, Try.ntmps26
   go_wp2_with (first | ((with_reducible refine gate_dst (N := 2) rfl ?_); refine box_event ?hg (N := 2) ?hd (cs := #[.int .i64 a0_0, .int .i64 a0_1, .int .i64 a0_2, .int .i64 a0_3, .int .i64 a0_4, .int .i64 a0_5, .int .i64 a0_6, .int .i64 a0_7, .int .i64 a0_8, .int .i64 a0_9, .int .i64 a0_10, .int .i64 a0_11, .int .i64 a0_12, .slice A0_13 l0_13.length c0_13, .slice A0_14 l0_14.length c0_14, .bool a0_15, .int .i64 a0_16, .int .i64 a0_17, .int .i64 a0_18, .int .i64 a0_19, .int .i64 a0_20, .int .i64 a0_21, .int .i64 a0_22, .int .i64 a0_23, .bool a0_24]) (t := 44) ?hr ?_; (case hd => rfl); (case hg => rfl); (case hr => first | (go_simp; done) | (go_simp; rfl)); intro gb618 hg w29 hbox hb; have n0_ := Aside0.mk (below_step lb_ hb); have n1_ := Aside0.mk (hbox); have n2_ := Aside0.mk ((by rw [hg]; exact (below_size lb_) : w.heap.size ≤ gb618)); have n3_ := Aside0.mk ((by rw [hg]; exact (below_size lb_) : w.heap.size ≤ gb618)); clear HB; have HB := n0_; have BK618 := n1_; have GW618 := n2_; have GE618 := n3_; clear n0_ n1_ n2_ n3_; clear hb hbox hg) | ((with_reducible refine gate_dst (N := 3) rfl ?_); refine box_event ?hg (N := 3) ?hd (cs := #[.int .i64 a1_0, .int .i64 a1_1, .int .i64 a1_2, .int .i64 a1_3, .int .i64 a1_4, .int .i64 a1_5, .int .i64 a1_6, .int .i64 a1_7, .int .i64 a1_8, .int .i64 a1_9, .int .i64 a1_10, .int .i64 a1_11, .int .i64 a1_12, .slice A1_13 l1_13.length c1_13, .slice A1_14 l1_14.length c1_14, .bool a1_15, .int .i64 a1_16, .int .i64 a1_17, .int .i64 a1_18, .int .i64 a1_19, .int .i64 a1_20, .int .i64 a1_21, .int .i64 a1_22, .int .i64 a1_23, .bool a1_24]) (t := 44) ?hr ?_; (case hd => rfl); (case hg => rfl); (case hr => first | (go_simp; done) | (go_simp; rfl)); intro gb619 hg w30 hbox hb; have n0_ := Aside0.mk (blk_below (kb_ BK618.out) hb); have n1_ := Aside0.mk (below_step (by repeat (first | (with_reducible first | exact HB.out | apply below_alloc | apply pw_below_drewN | apply below_drew1 | refine below_set ?_ GE618.out) | exact HB.out)) hb); have n2_ := Aside0.mk (hbox); have n3_ := Aside0.mk ((by rw [hg]; exact (below_size (by repeat (first | (with_reducible first | exact HB.out | apply below_alloc | apply pw_below_drewN | apply below_drew1 | refine below_set ?_ GE618.out) | exact HB.out))) : w.heap.size ≤ gb619)); have n4_ := Aside0.mk ((by rw [hg]; exact (below_size (by repeat (first | (with_reducible first | exact HB.out | apply below_alloc | apply pw_below_drewN | apply below_drew1 | refine below_set ?_ GE618.out) | exact HB.out))) : w.heap.size ≤ gb619)); have n5_ := Aside0.mk ((by rw [hg]; exact Nat.ne_of_lt (blk_lt (kb_ BK618.out)) : gb618 ≠ gb619)); have n6_ := Aside0.mk ((by rw [hg]; exact Nat.ne_of_gt (blk_lt (kb_ BK618.out)) : gb619 ≠ gb618)); clear BK618; clear HB; have BK618 := n0_; have HB := n1_; have BK619 := n2_; have GW619 := n3_; have GE619 := n4_; have NB618_619 := n5_; have NB619_618 := n6_; clear n0_ n1_ n2_ n3_ n4_ n5_ n6_; clear hb hbox hg; have hnb31 := NB618_619.out; have hnc31 := NB619_618.out; refine blk25_ BK618.out fun hcz32_0 hcz32_1 hcz32_2 hcz32_3 hcz32_4 hcz32_5 hcz32_6 hcz32_7 hcz32_8 hcz32_9 hcz32_10 hcz32_11 hcz32_12 hcz32_13 hcz32_14 hcz32_15 hcz32_16 hcz32_17 hcz32_18 hcz32_19 hcz32_20 hcz32_21 hcz32_22 hcz32_23 hcz32_24 hfz32_0 hfz32_1 hfz32_2 hfz32_3 hfz32_4 hfz32_5 hfz32_6 hfz32_7 hfz32_8 hfz32_9 hfz32_10 hfz32_11 hfz32_12 hfz32_13 hfz32_14 hfz32_15 hfz32_16 hfz32_17 hfz32_18 hfz32_19 hfz32_20 hfz32_21 hfz32_22 hfz32_23 hfz32_24 => ?_; refine blk25_ BK619.out fun hcz33_0 hcz33_1 hcz33_2 hcz33_3 hcz33_4 hcz33_5 hcz33_6 hcz33_7 hcz33_8 hcz33_9 hcz33_10 hcz33_11 hcz33_12 hcz33_13 hcz33_14 hcz33_15 hcz33_16 hcz33_17 hcz33_18 hcz33_19 hcz33_20 hcz33_21 hcz33_22 hcz33_23 hcz33_24 hfz33_0 hfz33_1 hfz33_2 hfz33_3 hfz33_4 hfz33_5 hfz33_6 hfz33_7 hfz33_8 hfz33_9 hfz33_10 hfz33_11 hfz33_12 hfz33_13 hfz33_14 hfz33_15 hfz33_16 hfz33_17 hfz33_18 hfz33_19 hfz33_20 hfz33_21 hfz33_22 hfz33_23 hfz33_24 => ?_) | ((with_reducible refine gate_callee (f := 36) rfl ?_); refine goesL_ (some 9) rfl rfl Try.func36 (by kernel_rfl) rfl #[.agg #[.int .i64 a0_7, .int .i64 a0_8, .int .i64 a0_9, .int .i64 a0_10, .int .i64 a0_11, .int .i64 a0_12, .slice A0_13 l0_13.length c0_13, .slice A0_14 l0_14.length c0_14, .bool a0_15], .agg #[.int .i64 a1_7, .int .i64 a1_8, .int .i64 a1_9, .int .i64 a1_10, .int .i64 a1_11, .int .i64 a1_12, .slice A1_13 l1_13.length c1_13, .slice A1_14 l1_14.length c1_14, .bool a1_15]] rfl (by (try simp only [List.map_toArray, List.map_cons, List.map_nil]); first | done | rfl | (simp only [List.length_drop, List.length_take]; rfl)) ?_; (with_reducible refine (command_Interfere.calls k a0_7 a0_8 a0_9 a0_10 a0_11 a0_12 _ _ l0_13 _ _ l0_14 a0_15 a1_7 a1_8 a1_9 a1_10 a1_11 a1_12 _ _ l1_13 _ _ l1_14 a1_15 false _ ?side1 ?side2 ?side3 ?side4 ?side5 ?side6 ?side7 ?side8 A3.out).mono ?_); (case side1 => exact kc_ (Kd.C_below HR0_13.out HB.out)); (case side2 => exact HC0_13.out); (case side3 => exact kc_ (Kd.C_below HR0_14.out HB.out)); (case side4 => exact HC0_14.out); (case side5 => exact kc_ (Kd.C_below HR1_13.out HB.out)); (case side6 => exact HC1_13.out); (case side7 => exact kc_ (Kd.C_below HR1_14.out HB.out)); (case side8 => exact HC1_14.out); rintro e w34 ⟨rfl, hb⟩; refine ⟨_, rfl, ?_⟩; have n0_ := Aside0.mk (blk_below (kb_ BK618.out) hb); have n1_ := Aside0.mk (blk_below (kb_ BK619.out) hb); have n2_ := Aside0.mk (below_step (by repeat (first | (with_reducible first | exact HB.out | apply below_alloc | apply pw_below_drewN | apply below_drew1 | refine below_set ?_ GE618.out | refine below_set ?_ GE619.out) | exact HB.out)) hb); clear BK618; clear BK619; clear HB; have BK618 := n0_; have BK619 := n1_; have HB := n2_; clear n0_ n1_ n2_; (try clear hb); (try clear hb2); (try clear hk); (try clear hi)))
   go_ret
   exact ⟨by first | rfl | (simp [errW_none, errW_some] <;> rfl) | (simp [*, errW_none, errW_some] <;> rfl), by repeat (first | (with_reducible first | exact HB.out | apply below_alloc | apply pw_below_drewN | apply below_drew1 | refine below_set ?_ GE618.out | refine below_set ?_ GE619.out) | exact HB.out)⟩
end Go.Proofs.Ytklbmdakoeoplaa.X
end
