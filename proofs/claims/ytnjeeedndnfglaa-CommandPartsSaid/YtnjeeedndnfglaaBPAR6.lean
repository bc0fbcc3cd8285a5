/- What the claim PAR leans on: texts joined by bundle.py, a program of ours; the words cut down to what is used. -/
import Derived.Test.YtnjeeedndnfglaaBPAR5
section
namespace Go.Proofs.Ytnjeeedndnfglaa.X
open Go.RowKit Go.Proofs.YtnjeeedndnfglaaW.PrintWords Go.Proofs.YtnjeeedndnfglaaW.PrintLast Go.Proofs.YtnjeeedndnfglaaW.PrintMore
attribute [local go_sem] max2_int min2_int max_two min_two max_three min_three max_four min_four   -- for this text's walks alone
set_option linter.unusedVariables false
set_option linter.unusedSimpArgs false
mutual
def althingref05_Part.j0 : Nat → Int → Int → Bool → Int → Int → Int → Int → Int → Int → List (S38) → List (S40) → Bool → Option (Int × Int × Int × Int × Int × Int × (List (S38)) × (List (S40)) × Bool × Int)
 | 0, _, _, _, _, _, _, _, _, _, _, _, _ => none
 | k + 1, x1, x2, x30, x628000, x628001, x628002, x628003, x628004, x628005, x628006, x628007, x628008 => if x30 = true then (some (0, 0, 0, 0, 0, 0, ([] : List (S38)), ([] : List (S40)), false, 1)) else (althingref05_Part.l0 k x1 x2 0 x628000 x628001 x628002 x628003 x628004 x628005 x628006 x628007 x628008 x628000 x628001 x628002 x628003 x628004 x628005 ([] : List (S38)) x628008)
def althingref05_Part.l0 : Nat → Int → Int → Int → Int → Int → Int → Int → Int → Int → List (S38) → List (S40) → Bool → Int → Int → Int → Int → Int → Int → List (S38) → Bool → Option (Int × Int × Int × Int × Int × Int × (List (S38)) × (List (S40)) × Bool × Int)
 | 0, _, _, _, _, _, _, _, _, _, _, _, _, _, _, _, _, _, _, _, _ => none
 | k + 1, x1, x2, x9, x628000, x628001, x628002, x628003, x628004, x628005, x628006, x628007, x628008, x631000, x631001, x631002, x631003, x631004, x631005, x631006, x631008 => if x9 < (x628006.length : Int) then (if 0 ≤ x9 then ((althingref04_Shard.f k ((rd_T38 x628006 x9).f0) x2).bind fun bt632 => (if bt632.1 = x1 then (if x631006.length < 4398046511104 then (althingref05_Part.l0 k x1 x2 (wrap64 (x9 + 1)) x628000 x628001 x628002 x628003 x628004 x628005 x628006 x628007 x628008 x631000 x631001 x631002 x631003 x631004 x631005 (x631006 ++ [(⟨(rd_T38 x628006 x9).f0, (⟨(rd_T38 x628006 x9).f1.f0, (rd_T38 x628006 x9).f1.f1⟩ : S25)⟩ : S38)]) x631008) else (none)) else (althingref05_Part.l0 k x1 x2 (wrap64 (x9 + 1)) x628000 x628001 x628002 x628003 x628004 x628005 x628006 x628007 x628008 x631000 x631001 x631002 x631003 x631004 x631005 x631006 x631008))) else (none)) else (althingref05_Part.l1 k x1 x2 0 x628000 x628001 x628002 x628003 x628004 x628005 x628006 x628007 x628008 x631000 x631001 x631002 x631003 x631004 x631005 x631006 ([] : List (S40)) x631008)
def althingref05_Part.l1 : Nat → Int → Int → Int → Int → Int → Int → Int → Int → Int → List (S38) → List (S40) → Bool → Int → Int → Int → Int → Int → Int → List (S38) → List (S40) → Bool → Option (Int × Int × Int × Int × Int × Int × (List (S38)) × (List (S40)) × Bool × Int)
 | 0, _, _, _, _, _, _, _, _, _, _, _, _, _, _, _, _, _, _, _, _, _ => none
 | k + 1, x1, x2, x12, x628000, x628001, x628002, x628003, x628004, x628005, x628006, x628007, x628008, x631000, x631001, x631002, x631003, x631004, x631005, x631006, x631007, x631008 => if x12 < (x628007.length : Int) then (if 0 ≤ x12 then ((althingref04_Shard.f k ((rd_T40 x628007 x12).f0) x2).bind fun bt639 => (if bt639.1 = x1 then (if x631007.length < 4398046511104 then (althingref05_Part.l1 k x1 x2 (wrap64 (x12 + 1)) x628000 x628001 x628002 x628003 x628004 x628005 x628006 x628007 x628008 x631000 x631001 x631002 x631003 x631004 x631005 x631006 (x631007 ++ [(⟨(rd_T40 x628007 x12).f0, (rd_T40 x628007 x12).f1⟩ : S40)]) x631008) else (none)) else (althingref05_Part.l1 k x1 x2 (wrap64 (x12 + 1)) x628000 x628001 x628002 x628003 x628004 x628005 x628006 x628007 x628008 x631000 x631001 x631002 x631003 x631004 x631005 x631006 x631007 x631008))) else (none)) else (if (x631006.length : Int) = 0 then (if (x631007.length : Int) = 0 then (some (0, 0, 0, 0, 0, 0, ([] : List (S38)), ([] : List (S40)), false, 10)) else (some (x631000, x631001, x631002, x631003, x631004, x631005, x631006, x631007, x631008, 0))) else (some (x631000, x631001, x631002, x631003, x631004, x631005, x631006, x631007, x631008, 0)))
end
def althingref05_Part.f (k : Nat) (a0_0 : Int) (a0_1 : Int) (a0_2 : Int) (a0_3 : Int) (a0_4 : Int) (a0_5 : Int) (l0_6 : List (S38)) (l0_7 : List (S40)) (a0_8 : Bool) (a1 : Int) (a2 : Int) : Option (Int × Int × Int × Int × Int × Int × (List (S38)) × (List (S40)) × Bool × Int) := (althingref05_Right.f k a0_0 a0_1 a0_2 a0_3 a0_4 a0_5 l0_6 l0_7 a0_8).bind fun t629 => (if t629 = true then (if a0_0 = 0 then (althingref05_Part.j0 k a1 a2 true a0_0 a0_1 a0_2 a0_3 a0_4 a0_5 l0_6 l0_7 a0_8) else (if a2 < 1 then (althingref05_Part.j0 k a1 a2 true a0_0 a0_1 a0_2 a0_3 a0_4 a0_5 l0_6 l0_7 a0_8) else (althingref05_Part.j0 k a1 a2 (decide (a2 > 4)) a0_0 a0_1 a0_2 a0_3 a0_4 a0_5 l0_6 l0_7 a0_8))) else (althingref05_Part.j0 k a1 a2 true a0_0 a0_1 a0_2 a0_3 a0_4 a0_5 l0_6 l0_7 a0_8))
def althingref05_Part.T11 : Bool × List (List Nat × List Nat) := (true, [([], []), ([0], [0]), ([], []), ([2], [2]), ([], []), ([3, 4], [3, 4]), ([5], [5]), ([6], [6]), ([1, 7], [1, 7]), ([0, 1, 2, 3, 4, 5, 6, 7, 8], []), ([9, 8, 8, 0, 1, 2, 3, 4, 5, 6, 7, 8], [8, 9])])
def althingref05_Part.B11 : List Nat := [0, 1, 0, 4, 0, 28, 60, 124, 255, 511, 1023]
theorem althingref05_Part.tab11 : rtab .any (opsOf Try.f21 11) = althingref05_Part.T11 := by kernel_rfl
theorem althingref05_Part.bits11 : waitsOk althingref05_Part.T11.2 althingref05_Part.B11 = true := by kernel_rfl
def althingref05_Part.T17 : Bool × List (List Nat × List Nat) := (true, [([], []), ([0], [0]), ([], []), ([2], [2]), ([], []), ([3, 4], [3, 4]), ([5], [5]), ([6], [6]), ([1, 7], [1, 7]), ([0, 1, 2, 3, 4, 5, 6, 7, 8], []), ([9, 8, 8, 0, 1, 2, 3, 4, 5, 6, 7, 8], [8, 9])])
def althingref05_Part.B17 : List Nat := [0, 1, 0, 4, 0, 28, 60, 124, 255, 511, 1023]
theorem althingref05_Part.tab17 : rtab .any (opsOf Try.f21 17) = althingref05_Part.T17 := by kernel_rfl
theorem althingref05_Part.bits17 : waitsOk althingref05_Part.T17.2 althingref05_Part.B17 = true := by kernel_rfl
set_option maxHeartbeats 40000000 in
set_option maxRecDepth 100000 in
theorem althingref05_Part.calls (k : Nat) (a0_0 : Int) (a0_1 : Int) (a0_2 : Int) (a0_3 : Int) (a0_4 : Int) (a0_5 : Int) (A0_6 : Option Addr) (c0_6 : Nat) (l0_6 : List (S38)) (A0_7 : Option Addr) (c0_7 : Nat) (l0_7 : List (S40)) (a0_8 : Bool) (a1 : Int) (a2 : Int) (r1 : Int) (r2 : Int) (r3 : Int) (r4 : Int) (r5 : Int) (r6 : Int) (r7 : List (S38)) (r8 : List (S40)) (r9 : Bool) (r10 : Int) (w : World) (hr0_6 : Kd.C k38 w A0_6 l0_6.length l0_6) (hc0_6 : l0_6.length ≤ c0_6) (hr0_7 : Kd.C k40 w A0_7 l0_7.length l0_7) (hc0_7 : l0_7.length ≤ c0_7) (h : althingref05_Part.f k a0_0 a0_1 a0_2 a0_3 a0_4 a0_5 l0_6 l0_7 a0_8 a1 a2 = some (r1, r2, r3, r4, r5, r6, r7, r8, r9, r10)) :
 Calls Try.prog 21 #[.agg #[.int .i64 a0_0, .int .i64 a0_1, .int .i64 a0_2, .int .i64 a0_3, .int .i64 a0_4, .int .i64 a0_5, .slice A0_6 l0_6.length c0_6, .slice A0_7 l0_7.length c0_7, .bool a0_8], .int .i64 a1, .int .i64 a2] w fun e w' => ∃ v6_ v7_ : Value, e = .returned (.tuple #[.agg #[.int .i64 r1, .int .i64 r2, .int .i64 r3, .int .i64 r4, .int .i64 r5, .int .i64 r6, v6_, v7_, .bool r9], .int .i64 r10]) ∧ Kd.R k38 38 w' w.heap.size (fun _ => True) v6_ r7 ∧ Kd.R k40 40 w' w.heap.size (fun _ => True) v7_ r8 ∧ Below w.heap.size w w' := by
 have hu29 := Try.underlying29
 have hu38 := Try.underlying38
 have hu40 := Try.underlying40
 have HR0_6 := Aside0.mk hr0_6
 have HC0_6 := Aside0.mk hc0_6
 clear hr0_6 hc0_6
 have HR0_7 := Aside0.mk hr0_7
 have HC0_7 := Aside0.mk hc0_7
 clear hr0_7 hc0_7
 have HB := Aside0.mk (Below.refl w.heap.size w)
 have H : ((althingref05_Right.f k a0_0 a0_1 a0_2 a0_3 a0_4 a0_5 l0_6 l0_7 a0_8).bind fun t629 => (if t629 = true then (if a0_0 = 0 then (althingref05_Part.j0 k a1 a2 true a0_0 a0_1 a0_2 a0_3 a0_4 a0_5 l0_6 l0_7 a0_8) else (if a2 < 1 then (althingref05_Part.j0 k a1 a2 true a0_0 a0_1 a0_2 a0_3 a0_4 a0_5 l0_6 l0_7 a0_8) else (althingref05_Part.j0 k a1 a2 (decide (a2 > 4)) a0_0 a0_1 a0_2 a0_3 a0_4 a0_5 l0_6 l0_7 a0_8))) else (althingref05_Part.j0 k a1 a2 true a0_0 a0_1 a0_2 a0_3 a0_4 a0_5 l0_6 l0_7 a0_8))) = some (r1, r2, r3, r4, r5, r6, r7, r8, r9, r10) := h
 clear h
 have HC4 := Aside0.mk H
 clear H
 go_enter Try.func21, Try.ntmps21
 go_upto_region 1 with (first | ((with_reducible refine gate_dst (N := 3) rfl ?_); (try (refine gate_guard (by rfl) ?_; dsimp only)); refine bx_ 3 29 #[.int .i64 a0_0, .int .i64 a0_1, .int .i64 a0_2, .int .i64 a0_3, .int .i64 a0_4, .int .i64 a0_5, .slice A0_6 l0_6.length c0_6, .slice A0_7 l0_7.length c0_7, .bool a0_8] ?_; intro gb627 hg w5 hbox hb; have BK627 := Aside0.mk hbox; have GE627 := ge_ HB hg; replace HB := hs_ HB hb; clear hb hbox hg) | ((with_reducible refine gate_dst (N := 6) rfl ?_); (try (refine gate_guard (by rfl) ?_; dsimp only)); refine bx_ 6 29 #[.int .i64 0, .int .i64 0, .int .i64 0, .int .i64 0, .int .i64 0, .int .i64 0, .slice none 0 0, .slice none 0 0, .bool false] ?_; intro gb628 hg w6 hbox hb; have BK628 := Aside0.mk hbox; have GE628 := ge_ HB hg; have NB627_628 := na_ hg BK627; have NB628_627 := nb_ hg BK627; replace BK627 := bb_ BK627 hb; replace HB := hs_ HB hb; clear hb hbox hg))
 (try simp only [Act.put, List.setIfInBounds_toArray, List.set_cons_zero, List.set_cons_succ])
 go_cut [30] (fun v30 wc => ∃ (kq : Nat) (x30_3 : Bool), v30 = .bool x30_3 ∧ Aside0 (althingref05_Part.j0 kq a1 a2 x30_3 a0_0 a0_1 a0_2 a0_3 a0_4 a0_5 l0_6 l0_7 a0_8 = some (r1, r2, r3, r4, r5, r6, r7, r8, r9, r10)) ∧ Aside0 (kq ≤ k) ∧ Aside0 (wc.heap[gb627]? = some (.cells #[.int .i64 a0_0, .int .i64 a0_1, .int .i64 a0_2, .int .i64 a0_3, .int .i64 a0_4, .int .i64 a0_5, (.slice A0_6 l0_6.length c0_6), (.slice A0_7 l0_7.length c0_7), .bool a0_8] 29 (0, 0))) ∧ Aside0 (wc.heap[gb628]? = some (.cells #[.int .i64 0, .int .i64 0, .int .i64 0, .int .i64 0, .int .i64 0, .int .i64 0, (.slice none 0 0), (.slice none 0 0), .bool false] 29 (0, 0))) ∧ Aside0 (Below w.heap.size w wc))
 case first =>
  have H := HC4.out
  clear HC4
  obtain ⟨t629, A7, H⟩ := bs_ H
  by_cases c8 : t629 = true
  · subst c8
    rw [if_pos rfl] at H
    by_cases c9 : a0_0 = 0
    · rw [if_pos c9] at H
      have c9b0 : (a0_0 == 0) = true := beq_iff_eq.mpr c9
      have c9b1 : (a0_0 != 0) = false := bne_eq_false_iff_eq.mpr c9
      clear c9
      (first | rw [c9b0] | (simp only [i64_w, i32_w]; rw [c9b0]) | skip)
      have H' := Aside0.mk H
      clear H
      go_wp2_with (first | ((with_reducible refine gate_dst (N := 15) rfl ?_); (try (refine gate_guard (by rfl) ?_; dsimp only)); refine bl_ 15 BK627.out ⟨_, Try.underlying29, rfl⟩ ?_) | ((with_reducible refine gate_callee (f := 16) rfl ?_); refine gl_ (some 16) Try.func16 #[.agg #[.int .i64 a0_0, .int .i64 a0_1, .int .i64 a0_2, .int .i64 a0_3, .int .i64 a0_4, .int .i64 a0_5, .slice A0_6 l0_6.length c0_6, .slice A0_7 l0_7.length c0_7, .bool a0_8]] ?_; (with_reducible refine (althingref05_Right.calls k a0_0 a0_1 a0_2 a0_3 a0_4 a0_5 _ _ l0_6 _ _ l0_7 a0_8 true _ ?side1 ?side2 ?side3 ?side4 A7.out).mono ?_); (case side1 => exact kc_ (Kd.C_below HR0_6.out HB.out)); (case side2 => exact HC0_6.out); (case side3 => exact kc_ (Kd.C_below HR0_7.out HB.out)); (case side4 => exact HC0_7.out); rintro e w11 ⟨rfl, hb⟩; refine ⟨_, rfl, ?_⟩; replace BK627 := bb_ BK627 hb; replace BK628 := bb_ BK628 hb; replace HB := hs_ HB hb; (try clear hb); refine ne2_ NB627_628 fun hnb12 hnc12 => ?_; refine blk9_ BK627.out fun hcz13_0 hcz13_1 hcz13_2 hcz13_3 hcz13_4 hcz13_5 hcz13_6 hcz13_7 hcz13_8 hfz13_0 hfz13_1 hfz13_2 hfz13_3 hfz13_4 hfz13_5 hfz13_6 hfz13_7 hfz13_8 => ?_))
      go_meet
      case rel => exact ⟨_, (true), sm_, H', ⟨by first | omega | exact Nat.le_refl _⟩, ⟨by (with_reducible repeat (first | refine blk_drewN ?_ _ | refine blk_drew ?_ | refine blk_alloc ?_ _)); exact BK627.out⟩, ⟨by (with_reducible repeat (first | refine blk_drewN ?_ _ | refine blk_drew ?_ | refine blk_alloc ?_ _)); exact BK628.out⟩, ⟨by repeat (first | (with_reducible first | exact HB.out | apply below_alloc | apply pw_below_drewN | apply below_drew1 | refine below_set ?_ GE627.out | refine below_set ?_ GE628.out) | exact HB.out)⟩⟩
    · rw [if_neg c9] at H
      have c9b0 : (a0_0 == 0) = false := beq_eq_false_iff_ne.mpr c9
      have c9b1 : (a0_0 != 0) = true := bne_iff_ne.mpr c9
      (first | rw [c9b0] | (simp only [i64_w, i32_w]; rw [c9b0]) | skip)
      by_cases c14 : a2 < 1
      · rw [if_pos c14] at H
        have c14b0 : decide (a2 < 1) = true := decide_eq_true c14
        clear c14
        have H' := Aside0.mk H
        clear H
        go_wp2_with (first | ((with_reducible refine gate_dst (N := 15) rfl ?_); (try (refine gate_guard (by rfl) ?_; dsimp only)); refine bl_ 15 BK627.out ⟨_, Try.underlying29, rfl⟩ ?_) | ((with_reducible refine gate_callee (f := 16) rfl ?_); refine gl_ (some 16) Try.func16 #[.agg #[.int .i64 a0_0, .int .i64 a0_1, .int .i64 a0_2, .int .i64 a0_3, .int .i64 a0_4, .int .i64 a0_5, .slice A0_6 l0_6.length c0_6, .slice A0_7 l0_7.length c0_7, .bool a0_8]] ?_; (with_reducible refine (althingref05_Right.calls k a0_0 a0_1 a0_2 a0_3 a0_4 a0_5 _ _ l0_6 _ _ l0_7 a0_8 true _ ?side1 ?side2 ?side3 ?side4 A7.out).mono ?_); (case side1 => exact kc_ (Kd.C_below HR0_6.out HB.out)); (case side2 => exact HC0_6.out); (case side3 => exact kc_ (Kd.C_below HR0_7.out HB.out)); (case side4 => exact HC0_7.out); rintro e w16 ⟨rfl, hb⟩; refine ⟨_, rfl, ?_⟩; replace BK627 := bb_ BK627 hb; replace BK628 := bb_ BK628 hb; replace HB := hs_ HB hb; (try clear hb); refine ne2_ NB627_628 fun hnb17 hnc17 => ?_; refine blk9_ BK627.out fun hcz18_0 hcz18_1 hcz18_2 hcz18_3 hcz18_4 hcz18_5 hcz18_6 hcz18_7 hcz18_8 hfz18_0 hfz18_1 hfz18_2 hfz18_3 hfz18_4 hfz18_5 hfz18_6 hfz18_7 hfz18_8 => ?_))
        go_meet
        case rel => exact ⟨_, (true), sm_, H', ⟨by first | omega | exact Nat.le_refl _⟩, ⟨by (with_reducible repeat (first | refine blk_drewN ?_ _ | refine blk_drew ?_ | refine blk_alloc ?_ _)); exact BK627.out⟩, ⟨by (with_reducible repeat (first | refine blk_drewN ?_ _ | refine blk_drew ?_ | refine blk_alloc ?_ _)); exact BK628.out⟩, ⟨by repeat (first | (with_reducible first | exact HB.out | apply below_alloc | apply pw_below_drewN | apply below_drew1 | refine below_set ?_ GE627.out | refine below_set ?_ GE628.out) | exact HB.out)⟩⟩
      · rw [if_neg c14] at H
        have c14b0 : decide (a2 < 1) = false := decide_eq_false c14
        clear c14
        have H' := Aside0.mk H
        clear H
        go_wp2_with (first | ((with_reducible refine gate_dst (N := 15) rfl ?_); (try (refine gate_guard (by rfl) ?_; dsimp only)); refine bl_ 15 BK627.out ⟨_, Try.underlying29, rfl⟩ ?_) | ((with_reducible refine gate_callee (f := 16) rfl ?_); refine gl_ (some 16) Try.func16 #[.agg #[.int .i64 a0_0, .int .i64 a0_1, .int .i64 a0_2, .int .i64 a0_3, .int .i64 a0_4, .int .i64 a0_5, .slice A0_6 l0_6.length c0_6, .slice A0_7 l0_7.length c0_7, .bool a0_8]] ?_; (with_reducible refine (althingref05_Right.calls k a0_0 a0_1 a0_2 a0_3 a0_4 a0_5 _ _ l0_6 _ _ l0_7 a0_8 true _ ?side1 ?side2 ?side3 ?side4 A7.out).mono ?_); (case side1 => exact kc_ (Kd.C_below HR0_6.out HB.out)); (case side2 => exact HC0_6.out); (case side3 => exact kc_ (Kd.C_below HR0_7.out HB.out)); (case side4 => exact HC0_7.out); rintro e w20 ⟨rfl, hb⟩; refine ⟨_, rfl, ?_⟩; replace BK627 := bb_ BK627 hb; replace BK628 := bb_ BK628 hb; replace HB := hs_ HB hb; (try clear hb); refine ne2_ NB627_628 fun hnb21 hnc21 => ?_; refine blk9_ BK627.out fun hcz22_0 hcz22_1 hcz22_2 hcz22_3 hcz22_4 hcz22_5 hcz22_6 hcz22_7 hcz22_8 hfz22_0 hfz22_1 hfz22_2 hfz22_3 hfz22_4 hfz22_5 hfz22_6 hfz22_7 hfz22_8 => ?_))
        go_meet
        case rel => exact ⟨_, (decide (a2 > 4)), sm_, H', ⟨by first | omega | exact Nat.le_refl _⟩, ⟨by (with_reducible repeat (first | refine blk_drewN ?_ _ | refine blk_drew ?_ | refine blk_alloc ?_ _)); exact BK627.out⟩, ⟨by (with_reducible repeat (first | refine blk_drewN ?_ _ | refine blk_drew ?_ | refine blk_alloc ?_ _)); exact BK628.out⟩, ⟨by repeat (first | (with_reducible first | exact HB.out | apply below_alloc | apply pw_below_drewN | apply below_drew1 | refine below_set ?_ GE627.out | refine below_set ?_ GE628.out) | exact HB.out)⟩⟩
  · replace c8 := Bool.eq_false_iff.mpr c8
    subst c8
    rw [if_neg (show ¬ (false = true) by decide)] at H
    have H' := Aside0.mk H
    clear H
    go_wp2_with (first | ((with_reducible refine gate_dst (N := 15) rfl ?_); (try (refine gate_guard (by rfl) ?_; dsimp only)); refine bl_ 15 BK627.out ⟨_, Try.underlying29, rfl⟩ ?_) | ((with_reducible refine gate_callee (f := 16) rfl ?_); refine gl_ (some 16) Try.func16 #[.agg #[.int .i64 a0_0, .int .i64 a0_1, .int .i64 a0_2, .int .i64 a0_3, .int .i64 a0_4, .int .i64 a0_5, .slice A0_6 l0_6.length c0_6, .slice A0_7 l0_7.length c0_7, .bool a0_8]] ?_; (with_reducible refine (althingref05_Right.calls k a0_0 a0_1 a0_2 a0_3 a0_4 a0_5 _ _ l0_6 _ _ l0_7 a0_8 false _ ?side1 ?side2 ?side3 ?side4 A7.out).mono ?_); (case side1 => exact kc_ (Kd.C_below HR0_6.out HB.out)); (case side2 => exact HC0_6.out); (case side3 => exact kc_ (Kd.C_below HR0_7.out HB.out)); (case side4 => exact HC0_7.out); rintro e w24 ⟨rfl, hb⟩; refine ⟨_, rfl, ?_⟩; replace BK627 := bb_ BK627 hb; replace BK628 := bb_ BK628 hb; replace HB := hs_ HB hb; (try clear hb); (try clear hi)))
    go_meet
    case rel => exact ⟨_, (true), sm_, H', ⟨by first | omega | exact Nat.le_refl _⟩, ⟨by (with_reducible repeat (first | refine blk_drewN ?_ _ | refine blk_drew ?_ | refine blk_alloc ?_ _)); exact BK627.out⟩, ⟨by (with_reducible repeat (first | refine blk_drewN ?_ _ | refine blk_drew ?_ | refine blk_alloc ?_ _)); exact BK628.out⟩, ⟨by repeat (first | (with_reducible first | exact HB.out | apply below_alloc | apply pw_below_drewN | apply below_drew1 | refine below_set ?_ GE627.out | refine below_set ?_ GE628.out) | exact HB.out)⟩⟩
 case rest =>
  clear HC4
  try clear c1
  try clear c2
  try clear p2
  try clear c8
  try clear c9
  try clear c9b0
  try clear c9b1
  try clear c12
  try clear c14
  try clear c14b0
  try clear c16
  try clear c17
  try clear c21
  try clear hcz13_0 hcz13_1 hcz13_2 hcz13_3 hcz13_4 hcz13_5 hcz13_6 hcz13_7 hcz13_8
  try clear hcz18_0 hcz18_1 hcz18_2 hcz18_3 hcz18_4 hcz18_5 hcz18_6 hcz18_7 hcz18_8
  try clear hcz22_0 hcz22_1 hcz22_2 hcz22_3 hcz22_4 hcz22_5 hcz22_6 hcz22_7 hcz22_8
  try clear hfz13_0 hfz13_1 hfz13_2 hfz13_3 hfz13_4 hfz13_5 hfz13_6 hfz13_7 hfz13_8
  try clear hfz18_0 hfz18_1 hfz18_2 hfz18_3 hfz18_4 hfz18_5 hfz18_6 hfz18_7 hfz18_8
  try clear hfz22_0 hfz22_1 hfz22_2 hfz22_3 hfz22_4 hfz22_5 hfz22_6 hfz22_7 hfz22_8
  obtain ⟨kq, x30_3, rfl, HA, HJ3, BK627, BK628, HB⟩ := hcut
  cases kq with
  | zero => exact absurd HA.out (by simp [althingref05_Part.j0])
  | succ kj3 =>
   have H := HA.out
   clear HA
   simp only [althingref05_Part.j0] at H
   by_cases c25 : x30_3 = true
   · subst c25
     rw [if_pos rfl] at H
     simp only [Option.some.injEq, Prod.mk.injEq] at H
     obtain ⟨rfl, rfl, rfl, rfl, rfl, rfl, rfl, rfl, rfl, rfl⟩ := H
     refine ne2_ NB628_627 fun hnb26 hnc26 => ?_
     refine blk9_ BK628.out fun hcz27_0 hcz27_1 hcz27_2 hcz27_3 hcz27_4 hcz27_5 hcz27_6 hcz27_7 hcz27_8 hfz27_0 hfz27_1 hfz27_2 hfz27_3 hfz27_4 hfz27_5 hfz27_6 hfz27_7 hfz27_8 => ?_
     go_wp2_with (first | ((with_reducible refine gate_store (t := 29) (p := 6) rfl ?_); refine store_event (t := 29) (p := 6) (v := ?vo_w28) (w1 := (((((((((wc.setCell ⟨gb628, 0, none⟩ (.int .i64 0)).setCell ⟨gb628, 1, none⟩ (.int .i64 0)).setCell ⟨gb628, 2, none⟩ (.int .i64 0)).setCell ⟨gb628, 3, none⟩ (.int .i64 0)).setCell ⟨gb628, 4, none⟩ (.int .i64 0)).setCell ⟨gb628, 5, none⟩ (.int .i64 0)).setCell ⟨gb628, 6, none⟩ (.slice none 0 0)).setCell ⟨gb628, 7, none⟩ (.slice none 0 0)).setCell ⟨gb628, 8, none⟩ (.bool false))) ?hg ?ho ?hn ?hr ?_; (case ho => rfl); (case hg => rfl); (case hn => rfl); (case hr => first | (go_simp; done) | (go_simp; rfl)); intro w28 hw; have n0_ : Aside0 (w28.heap[gb627]? = some (.cells #[.int .i64 a0_0, .int .i64 a0_1, .int .i64 a0_2, .int .i64 a0_3, .int .i64 a0_4, .int .i64 a0_5, .slice A0_6 l0_6.length c0_6, .slice A0_7 l0_7.length c0_7, .bool a0_8] 29 (0, 0))) := ⟨(by rw [hw]; exact (by (with_reducible repeat (first | refine blk_drewN ?_ _ | refine blk_drew ?_ | refine blk_alloc ?_ _)); refine blk_far ?_ NB627_628.out _; (with_reducible repeat (first | refine blk_drewN ?_ _ | refine blk_drew ?_ | refine blk_alloc ?_ _)); refine blk_far ?_ NB627_628.out _; (with_reducible repeat (first | refine blk_drewN ?_ _ | refine blk_drew ?_ | refine blk_alloc ?_ _)); refine blk_far ?_ NB627_628.out _; (with_reducible repeat (first | refine blk_drewN ?_ _ | refine blk_drew ?_ | refine blk_alloc ?_ _)); refine blk_far ?_ NB627_628.out _; (with_reducible repeat (first | refine blk_drewN ?_ _ | refine blk_drew ?_ | refine blk_alloc ?_ _)); refine blk_far ?_ NB627_628.out _; (with_reducible repeat (first | refine blk_drewN ?_ _ | refine blk_drew ?_ | refine blk_alloc ?_ _)); refine blk_far ?_ NB627_628.out _; (with_reducible repeat (first | refine blk_drewN ?_ _ | refine blk_drew ?_ | refine blk_alloc ?_ _)); refine blk_far ?_ NB627_628.out _; (with_reducible repeat (first | refine blk_drewN ?_ _ | refine blk_drew ?_ | refine blk_alloc ?_ _)); refine blk_far ?_ NB627_628.out _; (with_reducible repeat (first | refine blk_drewN ?_ _ | refine blk_drew ?_ | refine blk_alloc ?_ _)); refine blk_far ?_ NB627_628.out _; (with_reducible repeat (first | refine blk_drewN ?_ _ | refine blk_drew ?_ | refine blk_alloc ?_ _)); exact BK627.out))⟩; have n1_ : Aside0 (w28.heap[gb628]? = some (.cells #[.int .i64 0, .int .i64 0, .int .i64 0, .int .i64 0, .int .i64 0, .int .i64 0, .slice none 0 0, .slice none 0 0, .bool false] 29 (0, 0))) := ⟨(by rw [hw]; exact (by (with_reducible repeat (first | refine blk_drewN ?_ _ | refine blk_drew ?_ | refine blk_alloc ?_ _)); refine blk_put (cs := #[.int .i64 0, .int .i64 0, .int .i64 0, .int .i64 0, .int .i64 0, .int .i64 0, .slice none 0 0, .slice none 0 0, .bool false]) ?_ 8 _ rfl; (with_reducible repeat (first | refine blk_drewN ?_ _ | refine blk_drew ?_ | refine blk_alloc ?_ _)); refine blk_put (cs := #[.int .i64 0, .int .i64 0, .int .i64 0, .int .i64 0, .int .i64 0, .int .i64 0, .slice none 0 0, .slice none 0 0, .bool false]) ?_ 7 _ rfl; (with_reducible repeat (first | refine blk_drewN ?_ _ | refine blk_drew ?_ | refine blk_alloc ?_ _)); refine blk_put (cs := #[.int .i64 0, .int .i64 0, .int .i64 0, .int .i64 0, .int .i64 0, .int .i64 0, .slice none 0 0, .slice none 0 0, .bool false]) ?_ 6 _ rfl; (with_reducible repeat (first | refine blk_drewN ?_ _ | refine blk_drew ?_ | refine blk_alloc ?_ _)); refine blk_put (cs := #[.int .i64 0, .int .i64 0, .int .i64 0, .int .i64 0, .int .i64 0, .int .i64 0, .slice none 0 0, .slice none 0 0, .bool false]) ?_ 5 _ rfl; (with_reducible repeat (first | refine blk_drewN ?_ _ | refine blk_drew ?_ | refine blk_alloc ?_ _)); refine blk_put (cs := #[.int .i64 0, .int .i64 0, .int .i64 0, .int .i64 0, .int .i64 0, .int .i64 0, .slice none 0 0, .slice none 0 0, .bool false]) ?_ 4 _ rfl; (with_reducible repeat (first | refine blk_drewN ?_ _ | refine blk_drew ?_ | refine blk_alloc ?_ _)); refine blk_put (cs := #[.int .i64 0, .int .i64 0, .int .i64 0, .int .i64 0, .int .i64 0, .int .i64 0, .slice none 0 0, .slice none 0 0, .bool false]) ?_ 3 _ rfl; (with_reducible repeat (first | refine blk_drewN ?_ _ | refine blk_drew ?_ | refine blk_alloc ?_ _)); refine blk_put (cs := #[.int .i64 0, .int .i64 0, .int .i64 0, .int .i64 0, .int .i64 0, .int .i64 0, .slice none 0 0, .slice none 0 0, .bool false]) ?_ 2 _ rfl; (with_reducible repeat (first | refine blk_drewN ?_ _ | refine blk_drew ?_ | refine blk_alloc ?_ _)); refine blk_put (cs := #[.int .i64 0, .int .i64 0, .int .i64 0, .int .i64 0, .int .i64 0, .int .i64 0, .slice none 0 0, .slice none 0 0, .bool false]) ?_ 1 _ rfl; (with_reducible repeat (first | refine blk_drewN ?_ _ | refine blk_drew ?_ | refine blk_alloc ?_ _)); refine blk_put (cs := #[.int .i64 0, .int .i64 0, .int .i64 0, .int .i64 0, .int .i64 0, .int .i64 0, .slice none 0 0, .slice none 0 0, .bool false]) ?_ 0 _ rfl; (with_reducible repeat (first | refine blk_drewN ?_ _ | refine blk_drew ?_ | refine blk_alloc ?_ _)); exact BK628.out))⟩; have n2_ : Aside0 (Below w.heap.size w w28) := ⟨(by rw [hw]; exact lbt_)⟩; clear hw BK627 BK628 HB; have BK627 := n0_; have BK628 := n1_; have HB := n2_; clear n0_ n1_ n2_))
     refine bodyPost_ret (results_ct rfl _ _ gb628 29 #[.int .i64 0, .int .i64 0, .int .i64 0, .int .i64 0, .int .i64 0, .int .i64 0, .slice none 0 0, .slice none 0 0, .bool false] (0, 0) _ rfl (kb_ BK628.out) Try.underlying29 rfl (by kernel_rfl)) rfl ?_
     exact ⟨_, _, by first | rfl | (simp [errW_none, errW_some] <;> rfl) | (simp [*, errW_none, errW_some] <;> rfl), by first | exact Kd.R_nil _ _ _ _ _ | exact Kd.N_nil _ _ _ _ _ | exact Kd.V_nil _ _ _ _ _ | exact Kd.Q_nil _ _ _ _ _ | exact Kd.S_nil _ _ _ _ _, by first | exact Kd.R_nil _ _ _ _ _ | exact Kd.N_nil _ _ _ _ _ | exact Kd.V_nil _ _ _ _ _ | exact Kd.Q_nil _ _ _ _ _ | exact Kd.S_nil _ _ _ _ _, by repeat (first | (with_reducible first | exact HB.out | apply below_alloc | apply pw_below_drewN | apply below_drew1 | refine below_set ?_ GE627.out | refine below_set ?_ GE628.out) | exact HB.out)⟩
   · replace c25 := Bool.eq_false_iff.mpr c25
     subst c25
     rw [if_neg (show ¬ (false = true) by decide)] at H
     have H' := Aside0.mk H
     clear H
     go_wp2_with (first | ((with_reducible refine gate_dst (N := 32) rfl ?_); (try (refine gate_guard (by rfl) ?_; dsimp only)); refine bl_ 32 BK627.out ⟨_, Try.underlying29, rfl⟩ ?_) | ((with_reducible refine gate_dst (N := 8) rfl ?_); (try (refine gate_guard (by rfl) ?_; dsimp only)); refine alloc_store_event ?hg1 (N := 8) ?hd1 ?hg2 ?hd2 ?ho2 (cs0 := #[.int .i64 0, .int .i64 0, .int .i64 0, .int .i64 0, .int .i64 0, .int .i64 0, .slice none 0 0, .slice none 0 0, .bool false]) (cs := #[.int .i64 a0_0, .int .i64 a0_1, .int .i64 a0_2, .int .i64 a0_3, .int .i64 a0_4, .int .i64 a0_5, .slice A0_6 l0_6.length c0_6, .slice A0_7 l0_7.length c0_7, .bool a0_8]) (t := 29) (x := ?xxw30) ?hr ?hp ?hx ?hs ?h1 ?ht ?_; (case hg1 => rfl); (case hd1 => rfl); (case hg2 => rfl); (case hd2 => rfl); (case ho2 => rfl); (case hr => first | (go_simp; done) | (go_simp; rfl)); (case hp => rfl); (case hx => rfl); (case hs => rfl); (case h1 => rfl); (case ht => kernel_rfl); intro gb630 hg w30 hbox hb; have BK630 := Aside0.mk hbox; have GE630 := ge_ HB hg; have NB627_630 := na_ hg BK627; have NB630_627 := nb_ hg BK627; have NB628_630 := na_ hg BK628; have NB630_628 := nb_ hg BK628; replace BK627 := bb_ BK627 hb; replace BK628 := bb_ BK628 hb; replace HB := hs_ HB hb; clear hb hbox hg; refine ne2_ NB630_627 fun hnb31 hnc31 => ?_; refine ne2_ NB630_628 fun hnb32 hnc32 => ?_; refine blk9_ BK630.out fun hcz33_0 hcz33_1 hcz33_2 hcz33_3 hcz33_4 hcz33_5 hcz33_6 hcz33_7 hcz33_8 hfz33_0 hfz33_1 hfz33_2 hfz33_3 hfz33_4 hfz33_5 hfz33_6 hfz33_7 hfz33_8 => ?_))
     go_loopg [9] kj3 (fun kq v9 w' => ∃ (x9_2 : Int) (x631006_2 : List (S38)) (u631006 : Value), v9 = .int .i64 x9_2 ∧ Aside0 (althingref05_Part.l0 kq a1 a2 x9_2 a0_0 a0_1 a0_2 a0_3 a0_4 a0_5 l0_6 l0_7 a0_8 a0_0 a0_1 a0_2 a0_3 a0_4 a0_5 x631006_2 a0_8 = some (r1, r2, r3, r4, r5, r6, r7, r8, r9, r10)) ∧ Aside0 (kq ≤ kj3) ∧ Aside0 (Kd.R k38 38 w' w.heap.size (fun _ => True) u631006 x631006_2) ∧ Aside0 (w'.heap[gb627]? = some (.cells #[.int .i64 a0_0, .int .i64 a0_1, .int .i64 a0_2, .int .i64 a0_3, .int .i64 a0_4, .int .i64 a0_5, (.slice A0_6 l0_6.length c0_6), (.slice A0_7 l0_7.length c0_7), .bool a0_8] 29 (0, 0))) ∧ Aside0 (w'.heap[gb628]? = some (.cells #[.int .i64 0, .int .i64 0, .int .i64 0, .int .i64 0, .int .i64 0, .int .i64 0, (.slice none 0 0), (.slice none 0 0), .bool false] 29 (0, 0))) ∧ Aside0 (w'.heap[gb630]? = some (.cells #[.int .i64 a0_0, .int .i64 a0_1, .int .i64 a0_2, .int .i64 a0_3, .int .i64 a0_4, .int .i64 a0_5, u631006, (.slice none 0 0), .bool a0_8] 29 (0, 0))) ∧ Aside0 (Below w.heap.size w w'))
     case atStart => exact ⟨(0), (([] : List (S38))), (.slice none 0 0), sm_, H', ⟨Nat.le_refl _⟩, ⟨by first | exact Kd.R_nil _ _ _ _ _ | exact Kd.N_nil _ _ _ _ _ | exact Kd.V_nil _ _ _ _ _ | exact Kd.Q_nil _ _ _ _ _ | exact Kd.S_nil _ _ _ _ _⟩, ⟨by (with_reducible repeat (first | refine blk_drewN ?_ _ | refine blk_drew ?_ | refine blk_alloc ?_ _)); refine blk_far ?_ NB627_630.out _; (with_reducible repeat (first | refine blk_drewN ?_ _ | refine blk_drew ?_ | refine blk_alloc ?_ _)); refine blk_far ?_ NB627_630.out _; (with_reducible repeat (first | refine blk_drewN ?_ _ | refine blk_drew ?_ | refine blk_alloc ?_ _)); exact BK627.out⟩, ⟨by (with_reducible repeat (first | refine blk_drewN ?_ _ | refine blk_drew ?_ | refine blk_alloc ?_ _)); refine blk_far ?_ NB628_630.out _; (with_reducible repeat (first | refine blk_drewN ?_ _ | refine blk_drew ?_ | refine blk_alloc ?_ _)); refine blk_far ?_ NB628_630.out _; (with_reducible repeat (first | refine blk_drewN ?_ _ | refine blk_drew ?_ | refine blk_alloc ?_ _)); exact BK628.out⟩, ⟨by (with_reducible repeat (first | refine blk_drewN ?_ _ | refine blk_drew ?_ | refine blk_alloc ?_ _)); refine blk_put (cs := #[.int .i64 a0_0, .int .i64 a0_1, .int .i64 a0_2, .int .i64 a0_3, .int .i64 a0_4, .int .i64 a0_5, .slice none 0 0, .slice A0_7 l0_7.length c0_7, .bool a0_8]) ?_ 7 _ rfl; (with_reducible repeat (first | refine blk_drewN ?_ _ | refine blk_drew ?_ | refine blk_alloc ?_ _)); refine blk_put (cs := #[.int .i64 a0_0, .int .i64 a0_1, .int .i64 a0_2, .int .i64 a0_3, .int .i64 a0_4, .int .i64 a0_5, .slice A0_6 l0_6.length c0_6, .slice A0_7 l0_7.length c0_7, .bool a0_8]) ?_ 6 _ rfl; (with_reducible repeat (first | refine blk_drewN ?_ _ | refine blk_drew ?_ | refine blk_alloc ?_ _)); exact BK630.out⟩, ⟨by repeat (first | (with_reducible first | exact HB.out | apply below_alloc | apply pw_below_drewN | apply below_drew1 | refine below_set ?_ GE627.out | refine below_set ?_ GE628.out | refine below_set ?_ GE630.out) | exact HB.out)⟩⟩
     case round =>
      clear H'
      try clear c1
      try clear c2
      try clear p2
      try clear c3
      try clear c8
      try clear c9
      try clear c9b0
      try clear c9b1
      try clear c12
      try clear c14
      try clear c14b0
      try clear c16
      try clear c17
      try clear c21
      try clear c25
      try clear c26
      try clear c31
      try clear c32
      try clear hcz13_0 hcz13_1 hcz13_2 hcz13_3 hcz13_4 hcz13_5 hcz13_6 hcz13_7 hcz13_8
      try clear hcz18_0 hcz18_1 hcz18_2 hcz18_3 hcz18_4 hcz18_5 hcz18_6 hcz18_7 hcz18_8
      try clear hcz22_0 hcz22_1 hcz22_2 hcz22_3 hcz22_4 hcz22_5 hcz22_6 hcz22_7 hcz22_8
      try clear hcz27_0 hcz27_1 hcz27_2 hcz27_3 hcz27_4 hcz27_5 hcz27_6 hcz27_7 hcz27_8
      try clear hcz33_0 hcz33_1 hcz33_2 hcz33_3 hcz33_4 hcz33_5 hcz33_6 hcz33_7 hcz33_8
      try clear hfz13_0 hfz13_1 hfz13_2 hfz13_3 hfz13_4 hfz13_5 hfz13_6 hfz13_7 hfz13_8
      try clear hfz18_0 hfz18_1 hfz18_2 hfz18_3 hfz18_4 hfz18_5 hfz18_6 hfz18_7 hfz18_8
      try clear hfz22_0 hfz22_1 hfz22_2 hfz22_3 hfz22_4 hfz22_5 hfz22_6 hfz22_7 hfz22_8
      try clear hfz27_0 hfz27_1 hfz27_2 hfz27_3 hfz27_4 hfz27_5 hfz27_6 hfz27_7 hfz27_8
      try clear hfz33_0 hfz33_1 hfz33_2 hfz33_3 hfz33_4 hfz33_5 hfz33_6 hfz33_7 hfz33_8
      try clear p2
      (try clear BK627); (try clear BK628); (try clear BK630)
      obtain ⟨x9_2, x631006_2, u631006, rfl, HA, HK2, HO_631006, BK627, BK628, BK630, HB⟩ := hrel
      cases gk with
      | zero => exact absurd HA.out (by simp [althingref05_Part.l0])
      | succ k2 =>
       have H := HA.out
       clear HA
       simp only [althingref05_Part.l0] at H
       by_cases c34 : x9_2 < (l0_6.length : Int)
       · rw [if_pos c34] at H
         have c34b0 : decide (x9_2 < (l0_6.length : Int)) = true := decide_eq_true c34
         clear c34
         by_cases c35 : 0 ≤ x9_2
         · rw [if_pos c35] at H
           have c35b0 : decide (0 ≤ x9_2) = true := decide_eq_true c35
           clear c35
           replace H := Option.bind_eq_some_iff.mp H
           obtain ⟨⟨t632, t633⟩, A360, H⟩ := H
           replace H : (if t632 = a1 then (if x631006_2.length < 4398046511104 then (althingref05_Part.l0 k2 a1 a2 (wrap64 (x9_2 + 1)) a0_0 a0_1 a0_2 a0_3 a0_4 a0_5 l0_6 l0_7 a0_8 a0_0 a0_1 a0_2 a0_3 a0_4 a0_5 (x631006_2 ++ [(⟨(rd_T38 l0_6 x9_2).f0, (⟨(rd_T38 l0_6 x9_2).f1.f0, (rd_T38 l0_6 x9_2).f1.f1⟩ : S25)⟩ : S38)]) a0_8) else (none)) else (althingref05_Part.l0 k2 a1 a2 (wrap64 (x9_2 + 1)) a0_0 a0_1 a0_2 a0_3 a0_4 a0_5 l0_6 l0_7 a0_8 a0_0 a0_1 a0_2 a0_3 a0_4 a0_5 x631006_2 a0_8)) = some (r1, r2, r3, r4, r5, r6, r7, r8, r9, r10) := H
           have A36 := Aside0.mk A360
           clear A360
           by_cases c37 : t632 = a1
           · rw [if_pos c37] at H
             have c37b0 : (t632 == a1) = true := beq_iff_eq.mpr c37
             have c37b1 : (t632 != a1) = false := bne_eq_false_iff_eq.mpr c37
             clear c37
             by_cases c38 : x631006_2.length < 4398046511104
             · rw [if_pos c38] at H
               have LMc38 := Aside0.mk c38
               clear c38
               obtain ⟨y635, hy635⟩ : ∃ y_ : List (S38), y_ = (x631006_2 ++ [(⟨(rd_T38 l0_6 x9_2).f0, (⟨(rd_T38 l0_6 x9_2).f1.f0, (rd_T38 l0_6 x9_2).f1.f1⟩ : S25)⟩ : S38)]) := ⟨_, rfl⟩
               replace H : (althingref05_Part.l0 k2 a1 a2 (wrap64 (x9_2 + 1)) a0_0 a0_1 a0_2 a0_3 a0_4 a0_5 l0_6 l0_7 a0_8 a0_0 a0_1 a0_2 a0_3 a0_4 a0_5 y635 a0_8) = some (r1, r2, r3, r4, r5, r6, r7, r8, r9, r10) := by first | (rw [hy635]; with_reducible exact H) | (have H2_ := (Option.bind_some _ _).symm.trans H; rw [hy635]; with_reducible exact H2_) | (have H2_ := (Option.bind_some _ _).symm.trans H; with_reducible exact H2_) | with_reducible exact H | (rw [hy635]; exact H) | exact H
               have Ny635 := Aside0.mk hy635
               clear hy635
               have H' := Aside0.mk H
               clear H
               refine ne2_ NB627_628 fun hnb39 hnc39 => ?_
               refine ne2_ NB627_630 fun hnb40 hnc40 => ?_
               refine blk9_ BK627.out fun hcz41_0 hcz41_1 hcz41_2 hcz41_3 hcz41_4 hcz41_5 hcz41_6 hcz41_7 hcz41_8 hfz41_0 hfz41_1 hfz41_2 hfz41_3 hfz41_4 hfz41_5 hfz41_6 hfz41_7 hfz41_8 => ?_
               have p631 : 0 ≤ (x9_2 : Int) := of_decide_eq_true (by first | (with_reducible assumption) | assumption)
               have q631 : x9_2 < (l0_6.length : Int) := of_decide_eq_true (by first | (with_reducible assumption) | assumption)
               obtain ⟨ad631, e631, hx631_0, hx631_1, hx631_2⟩ := at_T38 HR0_6.out x9_2 p631 q631
               cases e631
               replace hx631_0 := (HB.out.cell (World.block_lt_of_cell? w _ hx631_0)).trans hx631_0
               replace hx631_1 := (HB.out.cell (World.block_lt_of_cell? w _ hx631_1)).trans hx631_1
               replace hx631_2 := (HB.out.cell (World.block_lt_of_cell? w _ hx631_2)).trans hx631_2
               replace p631 := eq_true p631
               replace q631 := eq_true q631
               try go_wp2_with (first | ((with_reducible refine gate_callee (f := 42) rfl ?_); refine gl_ (some 50) Try.func42 #[.string ((rd_T38 l0_6 x9_2).f0), .int .i64 a2] ?_; (with_reducible refine (althingref04_Shard.calls k2 ((rd_T38 l0_6 x9_2).f0) a2 t632 t633 _ A36.out).mono ?_); rintro e w42 ⟨rfl, hb⟩; refine ⟨_, rfl, ?_⟩; replace HO_631006 := rb_ HO_631006 hb; replace BK627 := bb_ BK627 hb; replace BK628 := bb_ BK628 hb; replace BK630 := bb_ BK630 hb; replace HB := hs_ HB hb; (try clear hb); (try clear hi)))
               replace HO_631006 := Aside0.mk (Kd.R_drew HO_631006.out)
               replace BK627 := Aside0.mk (blk_drew BK627.out)
               replace BK628 := Aside0.mk (blk_drew BK628.out)
               replace BK630 := Aside0.mk (blk_drew BK630.out)
               replace HB := Aside0.mk (below_drew1 HB.out)
               have p634 : 0 ≤ (x9_2 : Int) := of_decide_eq_true (by first | (with_reducible assumption) | assumption)
               have q634 : x9_2 < (l0_6.length : Int) := of_decide_eq_true (by first | (with_reducible assumption) | assumption)
               obtain ⟨ad634, e634, hx634_0, hx634_1, hx634_2⟩ := at_T38 HR0_6.out x9_2 p634 q634
               have hw634_2 := hx634_2
               have hw634_1 := hx634_1
               have hw634_0 := hx634_0
               obtain rfl : ad631 = ad634 := (by injection e634)
               replace hx634_0 := (HB.out.cell (World.block_lt_of_cell? w _ hx634_0)).trans hx634_0
               replace hx634_1 := (HB.out.cell (World.block_lt_of_cell? w _ hx634_1)).trans hx634_1
               replace hx634_2 := (HB.out.cell (World.block_lt_of_cell? w _ hx634_2)).trans hx634_2
               replace p634 := eq_true p634
               replace q634 := eq_true q634
               refine start_ (n := 11) (S := fun w' => w'.cell? ⟨gb630, 0, none⟩ = some (.int .i64 a0_0) ∧ w'.cell? ⟨gb630, 1, none⟩ = some (.int .i64 a0_1) ∧ w'.cell? ⟨gb630, 2, none⟩ = some (.int .i64 a0_2) ∧ w'.cell? ⟨gb630, 3, none⟩ = some (.int .i64 a0_3) ∧ w'.cell? ⟨gb630, 4, none⟩ = some (.int .i64 a0_4) ∧ w'.cell? ⟨gb630, 5, none⟩ = some (.int .i64 a0_5) ∧ w'.cell? ⟨gb630, 6, none⟩ = some (u631006) ∧ w'.cell? ⟨gb630, 7, none⟩ = some (.slice none 0 0) ∧ w'.cell? ⟨gb630, 8, none⟩ = some (.bool a0_8) ∧ w'.cell? ⟨gb627, 0, none⟩ = some (.int .i64 a0_0) ∧ w'.cell? ⟨gb627, 1, none⟩ = some (.int .i64 a0_1) ∧ w'.cell? ⟨gb627, 2, none⟩ = some (.int .i64 a0_2) ∧ w'.cell? ⟨gb627, 3, none⟩ = some (.int .i64 a0_3) ∧ w'.cell? ⟨gb627, 4, none⟩ = some (.int .i64 a0_4) ∧ w'.cell? ⟨gb627, 5, none⟩ = some (.int .i64 a0_5) ∧ w'.cell? ⟨gb627, 6, none⟩ = some (.slice (some ad631) l0_6.length c0_6) ∧ w'.cell? ⟨gb627, 7, none⟩ = some (.slice A0_7 l0_7.length c0_7) ∧ w'.cell? ⟨gb627, 8, none⟩ = some (.bool a0_8) ∧ w'.cell? (ad631.add ((x9_2).toNat * 3)) = some (.string ((rd_T38 l0_6 x9_2).f0)) ∧ w'.cell? ⟨(ad631.add ((x9_2).toNat * 3)).block, (ad631.add ((x9_2).toNat * 3)).off + 1, none⟩ = some (.int .i64 ((rd_T38 l0_6 x9_2).f1.f0)) ∧ w'.cell? ⟨(ad631.add ((x9_2).toNat * 3)).block, (ad631.add ((x9_2).toNat * 3)).off + 2, none⟩ = some (.int .i64 ((rd_T38 l0_6 x9_2).f1.f1))) (ds := [10]) #[false, false, false, false, false, false, false, false, false, false, false] (by kernel_rfl) rfl rfl ⟨(blk_cell BK630.out 0).trans rfl, (blk_cell BK630.out 1).trans rfl, (blk_cell BK630.out 2).trans rfl, (blk_cell BK630.out 3).trans rfl, (blk_cell BK630.out 4).trans rfl, (blk_cell BK630.out 5).trans rfl, (blk_cell BK630.out 6).trans rfl, (blk_cell BK630.out 7).trans rfl, (blk_cell BK630.out 8).trans rfl, (blk_cell BK627.out 0).trans rfl, (blk_cell BK627.out 1).trans rfl, (blk_cell BK627.out 2).trans rfl, (blk_cell BK627.out 3).trans rfl, (blk_cell BK627.out 4).trans rfl, (blk_cell BK627.out 5).trans rfl, (blk_cell BK627.out 6).trans rfl, (blk_cell BK627.out 7).trans rfl, (blk_cell BK627.out 8).trans rfl, ((HB.out.cell (World.block_lt_of_cell? w _ hw634_0)).trans hw634_0), ((HB.out.cell (World.block_lt_of_cell? w _ hw634_1)).trans hw634_1), ((HB.out.cell (World.block_lt_of_cell? w _ hw634_2)).trans hw634_2)⟩ (fun hHeld => ?_); refine with_tabW althingref05_Part.tab11 althingref05_Part.bits11 (fun HT_ HW_ => ?_)
               generalize w42.drew = w43 at HO_631006 BK627 BK628 BK630 HB hx634_0 hx634_1 hx634_2 hHeld ⊢
               refine pu_ 0 (some 56) (tf_ 1 10) HT_ ?_
               refine pu_ 2 (some 58) #[true, false, true, false, false, false, false, false, false, false, false] HT_ ?_
               refine pu_ 4 (some 60) #[true, false, true, false, true, false, false, false, false, false, false] HT_ ?_
               refine tk_ 1 (some 57) #[true, true, true, false, true, false, false, false, false, false, false] HT_ HW_ hHeld (hy := by
                rintro w' ⟨s0, s1, s2, s3, s4, s5, s6, s7, s8, s9, s10, s11, s12, s13, s14, s15, s16, s17, s18, s19, s20⟩
                go_simp
                with_reducible rfl) (h := ?_)
               refine tk_ 3 (some 59) (tf_ 5 6) HT_ HW_ hHeld (hy := by
                rintro w' ⟨s0, s1, s2, s3, s4, s5, s6, s7, s8, s9, s10, s11, s12, s13, s14, s15, s16, s17, s18, s19, s20⟩
                go_simp
                with_reducible rfl) (h := ?_)
               refine pu_ 5 (some 61) (tf_ 6 5) HT_ ?_
               refine tk_ 6 (some 62) (tf_ 7 4) HT_ HW_ hHeld (hy := by
                rintro w' ⟨s0, s1, s2, s3, s4, s5, s6, s7, s8, s9, s10, s11, s12, s13, s14, s15, s16, s17, s18, s19, s20⟩
                go_simp
                with_reducible rfl) (h := ?_)
               refine on_ 7 (some 63) (tf_ 8 3) HT_ fun K hK => ?_
               refine value_ (w1 := ?_) (v := ?_) (by rfl) rfl ?_ ?_
               rotate_left 2
               · go_simp
                 constructor
                 · rfl
                 · rfl
               refine hK.out _ _ ⟨(blk_cell (blk_alloc BK630.out _) 0).trans rfl, (blk_cell (blk_alloc BK630.out _) 1).trans rfl, (blk_cell (blk_alloc BK630.out _) 2).trans rfl, (blk_cell (blk_alloc BK630.out _) 3).trans rfl, (blk_cell (blk_alloc BK630.out _) 4).trans rfl, (blk_cell (blk_alloc BK630.out _) 5).trans rfl, (blk_cell (blk_alloc BK630.out _) 6).trans rfl, (blk_cell (blk_alloc BK630.out _) 7).trans rfl, (blk_cell (blk_alloc BK630.out _) 8).trans rfl, (blk_cell (blk_alloc BK627.out _) 0).trans rfl, (blk_cell (blk_alloc BK627.out _) 1).trans rfl, (blk_cell (blk_alloc BK627.out _) 2).trans rfl, (blk_cell (blk_alloc BK627.out _) 3).trans rfl, (blk_cell (blk_alloc BK627.out _) 4).trans rfl, (blk_cell (blk_alloc BK627.out _) 5).trans rfl, (blk_cell (blk_alloc BK627.out _) 6).trans rfl, (blk_cell (blk_alloc BK627.out _) 7).trans rfl, (blk_cell (blk_alloc BK627.out _) 8).trans rfl, (World.cell?_alloc_lt _ _ _ (World.block_lt_of_cell? _ _ (((HB.out.cell (World.block_lt_of_cell? w _ hw634_0)).trans hw634_0)))).trans (((HB.out.cell (World.block_lt_of_cell? w _ hw634_0)).trans hw634_0)), (World.cell?_alloc_lt _ _ _ (World.block_lt_of_cell? _ _ (((HB.out.cell (World.block_lt_of_cell? w _ hw634_1)).trans hw634_1)))).trans (((HB.out.cell (World.block_lt_of_cell? w _ hw634_1)).trans hw634_1)), (World.cell?_alloc_lt _ _ _ (World.block_lt_of_cell? _ _ (((HB.out.cell (World.block_lt_of_cell? w _ hw634_2)).trans hw634_2)))).trans (((HB.out.cell (World.block_lt_of_cell? w _ hw634_2)).trans hw634_2))⟩ (fun hHeld => ?_)
               clear hK K
               refine nr_ 63 ?_
               refine on_ 8 (some 64) (tf_ 9 2) HT_ fun K hK => ?_
               refine Kd.R_append_step k38 (w0 := w) w.heap.size (by rfl) (.tmp 57) (.tmp 63) 26 38 (.agg #[(.string ⟨#[]⟩), (.int .i64 0), (.int .i64 0)]) 32 rfl Try.underlying26 info38 rfl (by decide) (by omega) u631006 x631006_2 (⟨(rd_T38 l0_6 x9_2).f0, (⟨(rd_T38 l0_6 x9_2).f1.f0, (rd_T38 l0_6 x9_2).f1.f1⟩ : S25)⟩ : S38) [.string ((rd_T38 l0_6 x9_2).f0), .int .i64 ((rd_T38 l0_6 x9_2).f1.f0), .int .i64 ((rd_T38 l0_6 x9_2).f1.f1)] (fun _ => True) (fun _ => False) rfl rfl ?aP (fun _ hk => hk.elim) ?aF ?aO ?aB ?aS ?aL ?_
               (case aP => exact k38_mkM _ _ _ (⟨(rd_T38 l0_6 x9_2).f0, (⟨(rd_T38 l0_6 x9_2).f1.f0, (rd_T38 l0_6 x9_2).f1.f1⟩ : S25)⟩ : S38))
               (case aB => exact lbt_)
               (case aF => exact (fun _ _ => trivial))
               (case aO => exact (kr_ HO_631006.out))
               (case aS => exact (below_size lbt_))
               (case aL => have := LMc38.out; omega)
               intro v636 w44 ho hb hg hat
               rw [← Ny635.out] at ho
               have n0_ := Aside0.mk (blk_grown (kb_ BK627.out) hg (Kd.R_ne HO_631006.out BK627.out (by decide)))
               have n1_ := Aside0.mk (blk_grown (kb_ BK628.out) hg (Kd.R_ne HO_631006.out BK628.out (by decide)))
               have n2_ := Aside0.mk (blk_grown (kb_ BK630.out) hg (Kd.R_ne HO_631006.out BK630.out (by decide)))
               have n3_ := Aside0.mk (hb)
               have n4_ := Aside0.mk (ho)
               clear BK627 BK628 BK630 HB HO_631006
               have BK627 := n0_; have BK628 := n1_; have BK630 := n2_; have HB := n3_; have HO637 := n4_
               clear n0_ n1_ n2_ n3_ n4_ ho hb hg hat
               obtain ⟨Ao45, co45, eo45⟩ := Kd.R_slice HO637.out
               (first | subst eo45 | (injection eo45 with f1_ f2_ f3_; have f4_ := f1_.symm; have f5_ := f3_.symm; clear f1_ f2_ f3_; subst f4_; subst f5_))
               refine hK.out _ _ ⟨(blk_cell BK630.out 0).trans rfl, (blk_cell BK630.out 1).trans rfl, (blk_cell BK630.out 2).trans rfl, (blk_cell BK630.out 3).trans rfl, (blk_cell BK630.out 4).trans rfl, (blk_cell BK630.out 5).trans rfl, (blk_cell BK630.out 6).trans rfl, (blk_cell BK630.out 7).trans rfl, (blk_cell BK630.out 8).trans rfl, (blk_cell BK627.out 0).trans rfl, (blk_cell BK627.out 1).trans rfl, (blk_cell BK627.out 2).trans rfl, (blk_cell BK627.out 3).trans rfl, (blk_cell BK627.out 4).trans rfl, (blk_cell BK627.out 5).trans rfl, (blk_cell BK627.out 6).trans rfl, (blk_cell BK627.out 7).trans rfl, (blk_cell BK627.out 8).trans rfl, ((HB.out.cell (World.block_lt_of_cell? w _ hw634_0)).trans hw634_0), ((HB.out.cell (World.block_lt_of_cell? w _ hw634_1)).trans hw634_1), ((HB.out.cell (World.block_lt_of_cell? w _ hw634_2)).trans hw634_2)⟩ (fun hHeld => ?_)
               clear hK K
               refine nr_ 64 ?_
               refine pu_ 9 (some 65) (tf_ 10 1) HT_ ?_
               refine last_ (i := 10) (N := none) (tf_ 11 0) rfl rfl (one_of HT_.out (by kernel_rfl)) (by decide) (fun K hK => ?_)
               have hs46 : w44.cell? ⟨gb630, 6, none⟩ = some (u631006) := (blk_cell BK630.out 6).trans rfl
               have hfs46 := blk_frozen BK630.out 6
               have hns46_0 := NB627_630.out
               have hns46_1 := NB628_630.out
               have hms46_0 := NB630_627.out
               have hms46_1 := NB630_628.out
               refine skip_ (w1 := ?_) (by rfl) rfl ?_ ?_
               rotate_left
               · go_simp
                 rfl
               refine hK.out _ _ ?_
               clear hK K
               refine done_ (done_of HT_.out (by kernel_rfl)) ?_
               try go_wp2
               go_roundg k2
               case measure => have := HJ3.out; have := HK2.out; omega
               case rel => exact ⟨(wrap64 (x9_2 + 1)), (y635), (.slice Ao45 y635.length co45), sm_, H', ⟨by have := HJ3.out; have := HK2.out; omega⟩, ⟨by (with_reducible repeat (first | apply Kd.R_alloc | apply Kd.R_drewN | apply Kd.R_drew)); exact Kd.R_mono (Kd.R_far (p := ⟨gb630, 6, none⟩) (Kd.R_types HO637.out BK630.out (by decide)) (fun _ hk => hk.2) (.slice Ao45 y635.length co45)) (fun _ hk => trivial)⟩, ⟨by (with_reducible repeat (first | refine blk_drewN ?_ _ | refine blk_drew ?_ | refine blk_alloc ?_ _)); refine blk_far ?_ NB627_630.out _; (with_reducible repeat (first | refine blk_drewN ?_ _ | refine blk_drew ?_ | refine blk_alloc ?_ _)); exact BK627.out⟩, ⟨by (with_reducible repeat (first | refine blk_drewN ?_ _ | refine blk_drew ?_ | refine blk_alloc ?_ _)); refine blk_far ?_ NB628_630.out _; (with_reducible repeat (first | refine blk_drewN ?_ _ | refine blk_drew ?_ | refine blk_alloc ?_ _)); exact BK628.out⟩, ⟨by (with_reducible repeat (first | refine blk_drewN ?_ _ | refine blk_drew ?_ | refine blk_alloc ?_ _)); refine blk_put (cs := #[.int .i64 a0_0, .int .i64 a0_1, .int .i64 a0_2, .int .i64 a0_3, .int .i64 a0_4, .int .i64 a0_5, u631006, .slice none 0 0, .bool a0_8]) ?_ 6 _ rfl; (with_reducible repeat (first | refine blk_drewN ?_ _ | refine blk_drew ?_ | refine blk_alloc ?_ _)); exact BK630.out⟩, ⟨by repeat (first | (with_reducible first | exact HB.out | apply below_alloc | apply pw_below_drewN | apply below_drew1 | refine below_set ?_ GE627.out | refine below_set ?_ GE628.out | refine below_set ?_ GE630.out) | exact HB.out)⟩⟩
             · rw [if_neg c38] at H
               exact absurd H (by simp)
           · rw [if_neg c37] at H
             have c37b0 : (t632 == a1) = false := beq_eq_false_iff_ne.mpr c37
             have c37b1 : (t632 != a1) = true := bne_iff_ne.mpr c37
             have H' := Aside0.mk H
             clear H
             refine ne2_ NB627_628 fun hnb47 hnc47 => ?_
             refine ne2_ NB627_630 fun hnb48 hnc48 => ?_
             refine blk9_ BK627.out fun hcz49_0 hcz49_1 hcz49_2 hcz49_3 hcz49_4 hcz49_5 hcz49_6 hcz49_7 hcz49_8 hfz49_0 hfz49_1 hfz49_2 hfz49_3 hfz49_4 hfz49_5 hfz49_6 hfz49_7 hfz49_8 => ?_
             have p631 : 0 ≤ (x9_2 : Int) := of_decide_eq_true (by first | (with_reducible assumption) | assumption)
             have q631 : x9_2 < (l0_6.length : Int) := of_decide_eq_true (by first | (with_reducible assumption) | assumption)
             obtain ⟨ad631, e631, hx631_0, hx631_1, hx631_2⟩ := at_T38 HR0_6.out x9_2 p631 q631
             cases e631
             replace hx631_0 := (HB.out.cell (World.block_lt_of_cell? w _ hx631_0)).trans hx631_0
             replace hx631_1 := (HB.out.cell (World.block_lt_of_cell? w _ hx631_1)).trans hx631_1
             replace hx631_2 := (HB.out.cell (World.block_lt_of_cell? w _ hx631_2)).trans hx631_2
             replace p631 := eq_true p631
             replace q631 := eq_true q631
             go_wp2_with (first | ((with_reducible refine gate_callee (f := 42) rfl ?_); refine gl_ (some 50) Try.func42 #[.string ((rd_T38 l0_6 x9_2).f0), .int .i64 a2] ?_; (with_reducible refine (althingref04_Shard.calls k2 ((rd_T38 l0_6 x9_2).f0) a2 t632 t633 _ A36.out).mono ?_); rintro e w50 ⟨rfl, hb⟩; refine ⟨_, rfl, ?_⟩; replace HO_631006 := rb_ HO_631006 hb; replace BK627 := bb_ BK627 hb; replace BK628 := bb_ BK628 hb; replace BK630 := bb_ BK630 hb; replace HB := hs_ HB hb; (try clear hb); (try clear hi)))
             go_roundg k2
             case measure => have := HJ3.out; have := HK2.out; omega
             case rel => exact ⟨(wrap64 (x9_2 + 1)), (x631006_2), (u631006), sm_, H', ⟨by have := HJ3.out; have := HK2.out; omega⟩, ⟨kr_ HO_631006.out⟩, ⟨by (with_reducible repeat (first | refine blk_drewN ?_ _ | refine blk_drew ?_ | refine blk_alloc ?_ _)); exact BK627.out⟩, ⟨by (with_reducible repeat (first | refine blk_drewN ?_ _ | refine blk_drew ?_ | refine blk_alloc ?_ _)); exact BK628.out⟩, ⟨by (with_reducible repeat (first | refine blk_drewN ?_ _ | refine blk_drew ?_ | refine blk_alloc ?_ _)); exact BK630.out⟩, ⟨by repeat (first | (with_reducible first | exact HB.out | apply below_alloc | apply pw_below_drewN | apply below_drew1 | refine below_set ?_ GE627.out | refine below_set ?_ GE628.out | refine below_set ?_ GE630.out) | exact HB.out)⟩⟩
         · rw [if_neg c35] at H
           exact absurd H (by simp)
       · rw [if_neg c34] at H
         have c34b0 : decide (x9_2 < (l0_6.length : Int)) = false := decide_eq_false c34
         clear c34
         have H' := Aside0.mk H
         clear H
         refine ne2_ NB627_628 fun hnb51 hnc51 => ?_
         refine ne2_ NB627_630 fun hnb52 hnc52 => ?_
         refine blk9_ BK627.out fun hcz53_0 hcz53_1 hcz53_2 hcz53_3 hcz53_4 hcz53_5 hcz53_6 hcz53_7 hcz53_8 hfz53_0 hfz53_1 hfz53_2 hfz53_3 hfz53_4 hfz53_5 hfz53_6 hfz53_7 hfz53_8 => ?_
         go_wp2
         go_loopg [12] k2 (fun kq v12 w' => ∃ (x12_3 : Int) (x631007_3 : List (S40)) (u631007 : Value), v12 = .int .i64 x12_3 ∧ Aside0 (althingref05_Part.l1 kq a1 a2 x12_3 a0_0 a0_1 a0_2 a0_3 a0_4 a0_5 l0_6 l0_7 a0_8 a0_0 a0_1 a0_2 a0_3 a0_4 a0_5 x631006_2 x631007_3 a0_8 = some (r1, r2, r3, r4, r5, r6, r7, r8, r9, r10)) ∧ Aside0 (kq ≤ k2) ∧ Aside0 (Kd.R k38 38 w' w.heap.size (fun _ => True) u631006 x631006_2) ∧ Aside0 (Kd.R k40 40 w' w.heap.size (fun _ => True) u631007 x631007_3) ∧ Aside0 (w'.heap[gb627]? = some (.cells #[.int .i64 a0_0, .int .i64 a0_1, .int .i64 a0_2, .int .i64 a0_3, .int .i64 a0_4, .int .i64 a0_5, (.slice A0_6 l0_6.length c0_6), (.slice A0_7 l0_7.length c0_7), .bool a0_8] 29 (0, 0))) ∧ Aside0 (w'.heap[gb628]? = some (.cells #[.int .i64 0, .int .i64 0, .int .i64 0, .int .i64 0, .int .i64 0, .int .i64 0, (.slice none 0 0), (.slice none 0 0), .bool false] 29 (0, 0))) ∧ Aside0 (w'.heap[gb630]? = some (.cells #[.int .i64 a0_0, .int .i64 a0_1, .int .i64 a0_2, .int .i64 a0_3, .int .i64 a0_4, .int .i64 a0_5, u631006, u631007, .bool a0_8] 29 (0, 0))) ∧ Aside0 (Below w.heap.size w w'))
         case atStart => exact ⟨(0), (([] : List (S40))), (.slice none 0 0), sm_, H', ⟨Nat.le_refl _⟩, ⟨kr_ HO_631006.out⟩, ⟨by first | exact Kd.R_nil _ _ _ _ _ | exact Kd.N_nil _ _ _ _ _ | exact Kd.V_nil _ _ _ _ _ | exact Kd.Q_nil _ _ _ _ _ | exact Kd.S_nil _ _ _ _ _⟩, ⟨by (with_reducible repeat (first | refine blk_drewN ?_ _ | refine blk_drew ?_ | refine blk_alloc ?_ _)); exact BK627.out⟩, ⟨by (with_reducible repeat (first | refine blk_drewN ?_ _ | refine blk_drew ?_ | refine blk_alloc ?_ _)); exact BK628.out⟩, ⟨by (with_reducible repeat (first | refine blk_drewN ?_ _ | refine blk_drew ?_ | refine blk_alloc ?_ _)); exact BK630.out⟩, ⟨by repeat (first | (with_reducible first | exact HB.out | apply below_alloc | apply pw_below_drewN | apply below_drew1 | refine below_set ?_ GE627.out | refine below_set ?_ GE628.out | refine below_set ?_ GE630.out) | exact HB.out)⟩⟩
         case round =>
          clear H'
          try clear c1
          try clear c2
          try clear p2
          try clear c3
          try clear c4
          try clear c5
          try clear p6
          try clear q6
          try clear hx6
          try clear c8
          try clear c9
          try clear c9b0
          try clear c9b1
          try clear c12
          try clear c14
          try clear c14b0
          try clear c16
          try clear c17
          try clear c21
          try clear c25
          try clear c26
          try clear c31
          try clear c32
          try clear c34
          try clear c34b0
          try clear c35
          try clear c35b0
          try clear c37
          try clear c37b0
          try clear c37b1
          try clear c38
          try clear c39
          try clear c40
          try clear c42
          try clear c47
          try clear c48
          try clear c51
          try clear c52
          try clear hcz13_0 hcz13_1 hcz13_2 hcz13_3 hcz13_4 hcz13_5 hcz13_6 hcz13_7 hcz13_8
          try clear hcz18_0 hcz18_1 hcz18_2 hcz18_3 hcz18_4 hcz18_5 hcz18_6 hcz18_7 hcz18_8
          try clear hcz22_0 hcz22_1 hcz22_2 hcz22_3 hcz22_4 hcz22_5 hcz22_6 hcz22_7 hcz22_8
          try clear hcz27_0 hcz27_1 hcz27_2 hcz27_3 hcz27_4 hcz27_5 hcz27_6 hcz27_7 hcz27_8
          try clear hcz33_0 hcz33_1 hcz33_2 hcz33_3 hcz33_4 hcz33_5 hcz33_6 hcz33_7 hcz33_8
          try clear hcz41_0 hcz41_1 hcz41_2 hcz41_3 hcz41_4 hcz41_5 hcz41_6 hcz41_7 hcz41_8
          try clear hcz49_0 hcz49_1 hcz49_2 hcz49_3 hcz49_4 hcz49_5 hcz49_6 hcz49_7 hcz49_8
          try clear hcz53_0 hcz53_1 hcz53_2 hcz53_3 hcz53_4 hcz53_5 hcz53_6 hcz53_7 hcz53_8
          try clear hfz13_0 hfz13_1 hfz13_2 hfz13_3 hfz13_4 hfz13_5 hfz13_6 hfz13_7 hfz13_8
          try clear hfz18_0 hfz18_1 hfz18_2 hfz18_3 hfz18_4 hfz18_5 hfz18_6 hfz18_7 hfz18_8
          try clear hfz22_0 hfz22_1 hfz22_2 hfz22_3 hfz22_4 hfz22_5 hfz22_6 hfz22_7 hfz22_8
          try clear hfz27_0 hfz27_1 hfz27_2 hfz27_3 hfz27_4 hfz27_5 hfz27_6 hfz27_7 hfz27_8
          try clear hfz33_0 hfz33_1 hfz33_2 hfz33_3 hfz33_4 hfz33_5 hfz33_6 hfz33_7 hfz33_8
          try clear hfz41_0 hfz41_1 hfz41_2 hfz41_3 hfz41_4 hfz41_5 hfz41_6 hfz41_7 hfz41_8
          try clear hfz49_0 hfz49_1 hfz49_2 hfz49_3 hfz49_4 hfz49_5 hfz49_6 hfz49_7 hfz49_8
          try clear hfz53_0 hfz53_1 hfz53_2 hfz53_3 hfz53_4 hfz53_5 hfz53_6 hfz53_7 hfz53_8
          try clear hx631_0
          try clear hx631_1
          try clear hx631_2
          try clear hx634_0
          try clear hx634_1
          try clear hx634_2
          try clear p2
          try clear p631
          try clear p634
          try clear q631
          try clear q634
          (try clear BK627); (try clear BK628); (try clear BK630)
          obtain ⟨x12_3, x631007_3, u631007, rfl, HA, HK3, HO_631006, HO_631007, BK627, BK628, BK630, HB⟩ := hrel
          cases gk with
          | zero => exact absurd HA.out (by simp [althingref05_Part.l1])
          | succ k3 =>
           have H := HA.out
           clear HA
           simp only [althingref05_Part.l1] at H
           by_cases c54 : x12_3 < (l0_7.length : Int)
           · rw [if_pos c54] at H
             have c54b0 : decide (x12_3 < (l0_7.length : Int)) = true := decide_eq_true c54
             clear c54
             by_cases c55 : 0 ≤ x12_3
             · rw [if_pos c55] at H
               have c55b0 : decide (0 ≤ x12_3) = true := decide_eq_true c55
               clear c55
               replace H := Option.bind_eq_some_iff.mp H
               obtain ⟨⟨t639, t640⟩, A560, H⟩ := H
               replace H : (if t639 = a1 then (if x631007_3.length < 4398046511104 then (althingref05_Part.l1 k3 a1 a2 (wrap64 (x12_3 + 1)) a0_0 a0_1 a0_2 a0_3 a0_4 a0_5 l0_6 l0_7 a0_8 a0_0 a0_1 a0_2 a0_3 a0_4 a0_5 x631006_2 (x631007_3 ++ [(⟨(rd_T40 l0_7 x12_3).f0, (rd_T40 l0_7 x12_3).f1⟩ : S40)]) a0_8) else (none)) else (althingref05_Part.l1 k3 a1 a2 (wrap64 (x12_3 + 1)) a0_0 a0_1 a0_2 a0_3 a0_4 a0_5 l0_6 l0_7 a0_8 a0_0 a0_1 a0_2 a0_3 a0_4 a0_5 x631006_2 x631007_3 a0_8)) = some (r1, r2, r3, r4, r5, r6, r7, r8, r9, r10) := H
               have A56 := Aside0.mk A560
               clear A560
               by_cases c57 : t639 = a1
               · rw [if_pos c57] at H
                 have c57b0 : (t639 == a1) = true := beq_iff_eq.mpr c57
                 have c57b1 : (t639 != a1) = false := bne_eq_false_iff_eq.mpr c57
                 clear c57
                 by_cases c58 : x631007_3.length < 4398046511104
                 · rw [if_pos c58] at H
                   have LMc58 := Aside0.mk c58
                   clear c58
                   obtain ⟨y642, hy642⟩ : ∃ y_ : List (S40), y_ = (x631007_3 ++ [(⟨(rd_T40 l0_7 x12_3).f0, (rd_T40 l0_7 x12_3).f1⟩ : S40)]) := ⟨_, rfl⟩
                   replace H : (althingref05_Part.l1 k3 a1 a2 (wrap64 (x12_3 + 1)) a0_0 a0_1 a0_2 a0_3 a0_4 a0_5 l0_6 l0_7 a0_8 a0_0 a0_1 a0_2 a0_3 a0_4 a0_5 x631006_2 y642 a0_8) = some (r1, r2, r3, r4, r5, r6, r7, r8, r9, r10) := by first | (rw [hy642]; with_reducible exact H) | (have H2_ := (Option.bind_some _ _).symm.trans H; rw [hy642]; with_reducible exact H2_) | (have H2_ := (Option.bind_some _ _).symm.trans H; with_reducible exact H2_) | with_reducible exact H | (rw [hy642]; exact H) | exact H
                   have Ny642 := Aside0.mk hy642
                   clear hy642
                   have H' := Aside0.mk H
                   clear H
                   refine ne2_ NB627_628 fun hnb59 hnc59 => ?_
                   refine ne2_ NB627_630 fun hnb60 hnc60 => ?_
                   refine blk9_ BK627.out fun hcz61_0 hcz61_1 hcz61_2 hcz61_3 hcz61_4 hcz61_5 hcz61_6 hcz61_7 hcz61_8 hfz61_0 hfz61_1 hfz61_2 hfz61_3 hfz61_4 hfz61_5 hfz61_6 hfz61_7 hfz61_8 => ?_
                   have p638 : 0 ≤ (x12_3 : Int) := of_decide_eq_true (by first | (with_reducible assumption) | assumption)
                   have q638 : x12_3 < (l0_7.length : Int) := of_decide_eq_true (by first | (with_reducible assumption) | assumption)
                   obtain ⟨ad638, e638, hx638_0, hx638_1⟩ := at_T40 HR0_7.out x12_3 p638 q638
                   cases e638
                   replace hx638_0 := (HB.out.cell (World.block_lt_of_cell? w _ hx638_0)).trans hx638_0
                   replace hx638_1 := (HB.out.cell (World.block_lt_of_cell? w _ hx638_1)).trans hx638_1
                   replace p638 := eq_true p638
                   replace q638 := eq_true q638
                   try go_wp2_with (first | ((with_reducible refine gate_callee (f := 42) rfl ?_); refine gl_ (some 81) Try.func42 #[.string ((rd_T40 l0_7 x12_3).f0), .int .i64 a2] ?_; (with_reducible refine (althingref04_Shard.calls k3 ((rd_T40 l0_7 x12_3).f0) a2 t639 t640 _ A56.out).mono ?_); rintro e w62 ⟨rfl, hb⟩; refine ⟨_, rfl, ?_⟩; replace HO_631006 := rb_ HO_631006 hb; replace HO_631007 := rb_ HO_631007 hb; replace BK627 := bb_ BK627 hb; replace BK628 := bb_ BK628 hb; replace BK630 := bb_ BK630 hb; replace HB := hs_ HB hb; (try clear hb); (try clear hi)))
                   replace HO_631006 := Aside0.mk (Kd.R_drew HO_631006.out)
                   replace HO_631007 := Aside0.mk (Kd.R_drew HO_631007.out)
                   replace BK627 := Aside0.mk (blk_drew BK627.out)
                   replace BK628 := Aside0.mk (blk_drew BK628.out)
                   replace BK630 := Aside0.mk (blk_drew BK630.out)
                   replace HB := Aside0.mk (below_drew1 HB.out)
                   have p641 : 0 ≤ (x12_3 : Int) := of_decide_eq_true (by first | (with_reducible assumption) | assumption)
                   have q641 : x12_3 < (l0_7.length : Int) := of_decide_eq_true (by first | (with_reducible assumption) | assumption)
                   obtain ⟨ad641, e641, hx641_0, hx641_1⟩ := at_T40 HR0_7.out x12_3 p641 q641
                   have hw641_1 := hx641_1
                   have hw641_0 := hx641_0
                   obtain rfl : ad638 = ad641 := (by injection e641)
                   replace hx641_0 := (HB.out.cell (World.block_lt_of_cell? w _ hx641_0)).trans hx641_0
                   replace hx641_1 := (HB.out.cell (World.block_lt_of_cell? w _ hx641_1)).trans hx641_1
                   replace p641 := eq_true p641
                   replace q641 := eq_true q641
                   refine start_ (n := 11) (S := fun w' => w'.cell? ⟨gb630, 0, none⟩ = some (.int .i64 a0_0) ∧ w'.cell? ⟨gb630, 1, none⟩ = some (.int .i64 a0_1) ∧ w'.cell? ⟨gb630, 2, none⟩ = some (.int .i64 a0_2) ∧ w'.cell? ⟨gb630, 3, none⟩ = some (.int .i64 a0_3) ∧ w'.cell? ⟨gb630, 4, none⟩ = some (.int .i64 a0_4) ∧ w'.cell? ⟨gb630, 5, none⟩ = some (.int .i64 a0_5) ∧ w'.cell? ⟨gb630, 6, none⟩ = some (u631006) ∧ w'.cell? ⟨gb630, 7, none⟩ = some (u631007) ∧ w'.cell? ⟨gb630, 8, none⟩ = some (.bool a0_8) ∧ w'.cell? ⟨gb627, 0, none⟩ = some (.int .i64 a0_0) ∧ w'.cell? ⟨gb627, 1, none⟩ = some (.int .i64 a0_1) ∧ w'.cell? ⟨gb627, 2, none⟩ = some (.int .i64 a0_2) ∧ w'.cell? ⟨gb627, 3, none⟩ = some (.int .i64 a0_3) ∧ w'.cell? ⟨gb627, 4, none⟩ = some (.int .i64 a0_4) ∧ w'.cell? ⟨gb627, 5, none⟩ = some (.int .i64 a0_5) ∧ w'.cell? ⟨gb627, 6, none⟩ = some (.slice A0_6 l0_6.length c0_6) ∧ w'.cell? ⟨gb627, 7, none⟩ = some (.slice (some ad638) l0_7.length c0_7) ∧ w'.cell? ⟨gb627, 8, none⟩ = some (.bool a0_8) ∧ w'.cell? (ad638.add ((x12_3).toNat * 2)) = some (.string ((rd_T40 l0_7 x12_3).f0)) ∧ w'.cell? ⟨(ad638.add ((x12_3).toNat * 2)).block, (ad638.add ((x12_3).toNat * 2)).off + 1, none⟩ = some (.string ((rd_T40 l0_7 x12_3).f1))) (ds := [10]) #[false, false, false, false, false, false, false, false, false, false, false] (by kernel_rfl) rfl rfl ⟨(blk_cell BK630.out 0).trans rfl, (blk_cell BK630.out 1).trans rfl, (blk_cell BK630.out 2).trans rfl, (blk_cell BK630.out 3).trans rfl, (blk_cell BK630.out 4).trans rfl, (blk_cell BK630.out 5).trans rfl, (blk_cell BK630.out 6).trans rfl, (blk_cell BK630.out 7).trans rfl, (blk_cell BK630.out 8).trans rfl, (blk_cell BK627.out 0).trans rfl, (blk_cell BK627.out 1).trans rfl, (blk_cell BK627.out 2).trans rfl, (blk_cell BK627.out 3).trans rfl, (blk_cell BK627.out 4).trans rfl, (blk_cell BK627.out 5).trans rfl, (blk_cell BK627.out 6).trans rfl, (blk_cell BK627.out 7).trans rfl, (blk_cell BK627.out 8).trans rfl, ((HB.out.cell (World.block_lt_of_cell? w _ hw641_0)).trans hw641_0), ((HB.out.cell (World.block_lt_of_cell? w _ hw641_1)).trans hw641_1)⟩ (fun hHeld => ?_); refine with_tabW althingref05_Part.tab17 althingref05_Part.bits17 (fun HT_ HW_ => ?_)
                   generalize w62.drew = w63 at HO_631006 HO_631007 BK627 BK628 BK630 HB hx641_0 hx641_1 hHeld ⊢
                   refine pu_ 0 (some 87) (tf_ 1 10) HT_ ?_
                   refine pu_ 2 (some 89) #[true, false, true, false, false, false, false, false, false, false, false] HT_ ?_
                   refine pu_ 4 (some 91) #[true, false, true, false, true, false, false, false, false, false, false] HT_ ?_
                   refine tk_ 1 (some 88) #[true, true, true, false, true, false, false, false, false, false, false] HT_ HW_ hHeld (hy := by
                    rintro w' ⟨s0, s1, s2, s3, s4, s5, s6, s7, s8, s9, s10, s11, s12, s13, s14, s15, s16, s17, s18, s19⟩
                    go_simp
                    with_reducible rfl) (h := ?_)
                   refine tk_ 3 (some 90) (tf_ 5 6) HT_ HW_ hHeld (hy := by
                    rintro w' ⟨s0, s1, s2, s3, s4, s5, s6, s7, s8, s9, s10, s11, s12, s13, s14, s15, s16, s17, s18, s19⟩
                    go_simp
                    with_reducible rfl) (h := ?_)
                   refine pu_ 5 (some 92) (tf_ 6 5) HT_ ?_
                   refine tk_ 6 (some 93) (tf_ 7 4) HT_ HW_ hHeld (hy := by
                    rintro w' ⟨s0, s1, s2, s3, s4, s5, s6, s7, s8, s9, s10, s11, s12, s13, s14, s15, s16, s17, s18, s19⟩
                    go_simp
                    with_reducible rfl) (h := ?_)
                   refine on_ 7 (some 94) (tf_ 8 3) HT_ fun K hK => ?_
                   refine value_ (w1 := ?_) (v := ?_) (by rfl) rfl ?_ ?_
                   rotate_left 2
                   · go_simp
                     constructor
                     · rfl
                     · rfl
                   refine hK.out _ _ ⟨(blk_cell (blk_alloc BK630.out _) 0).trans rfl, (blk_cell (blk_alloc BK630.out _) 1).trans rfl, (blk_cell (blk_alloc BK630.out _) 2).trans rfl, (blk_cell (blk_alloc BK630.out _) 3).trans rfl, (blk_cell (blk_alloc BK630.out _) 4).trans rfl, (blk_cell (blk_alloc BK630.out _) 5).trans rfl, (blk_cell (blk_alloc BK630.out _) 6).trans rfl, (blk_cell (blk_alloc BK630.out _) 7).trans rfl, (blk_cell (blk_alloc BK630.out _) 8).trans rfl, (blk_cell (blk_alloc BK627.out _) 0).trans rfl, (blk_cell (blk_alloc BK627.out _) 1).trans rfl, (blk_cell (blk_alloc BK627.out _) 2).trans rfl, (blk_cell (blk_alloc BK627.out _) 3).trans rfl, (blk_cell (blk_alloc BK627.out _) 4).trans rfl, (blk_cell (blk_alloc BK627.out _) 5).trans rfl, (blk_cell (blk_alloc BK627.out _) 6).trans rfl, (blk_cell (blk_alloc BK627.out _) 7).trans rfl, (blk_cell (blk_alloc BK627.out _) 8).trans rfl, (World.cell?_alloc_lt _ _ _ (World.block_lt_of_cell? _ _ (((HB.out.cell (World.block_lt_of_cell? w _ hw641_0)).trans hw641_0)))).trans (((HB.out.cell (World.block_lt_of_cell? w _ hw641_0)).trans hw641_0)), (World.cell?_alloc_lt _ _ _ (World.block_lt_of_cell? _ _ (((HB.out.cell (World.block_lt_of_cell? w _ hw641_1)).trans hw641_1)))).trans (((HB.out.cell (World.block_lt_of_cell? w _ hw641_1)).trans hw641_1))⟩ (fun hHeld => ?_)
                   clear hK K
                   refine nr_ 94 ?_
                   refine on_ 8 (some 95) (tf_ 9 2) HT_ fun K hK => ?_
                   refine Kd.R_append_step k40 (w0 := w) w.heap.size (by rfl) (.tmp 88) (.tmp 94) 27 40 (.agg #[(.string ⟨#[]⟩), (.string ⟨#[]⟩)]) 32 rfl Try.underlying27 info40 rfl (by decide) (by omega) u631007 x631007_3 (⟨(rd_T40 l0_7 x12_3).f0, (rd_T40 l0_7 x12_3).f1⟩ : S40) [.string ((rd_T40 l0_7 x12_3).f0), .string ((rd_T40 l0_7 x12_3).f1)] (fun _ => True) (fun _ => False) rfl rfl ?aP (fun _ hk => hk.elim) ?aF ?aO ?aB ?aS ?aL ?_
                   (case aP => exact k40_mkM _ _ _ (⟨(rd_T40 l0_7 x12_3).f0, (rd_T40 l0_7 x12_3).f1⟩ : S40))
                   (case aB => exact lbt_)
                   (case aF => exact (fun _ _ => trivial))
                   (case aO => exact (kr_ HO_631007.out))
                   (case aS => exact (below_size lbt_))
                   (case aL => have := LMc58.out; omega)
                   intro v643 w64 ho hb hg hat
                   rw [← Ny642.out] at ho
                   have n0_ := Aside0.mk (Kd.R_over' (kr_ HO_631006.out) (Kd.R_typed (kr_ HO_631007.out)) (by decide) hg)
                   have n1_ := Aside0.mk (blk_grown (kb_ BK627.out) hg (Kd.R_ne HO_631007.out BK627.out (by decide)))
                   have n2_ := Aside0.mk (blk_grown (kb_ BK628.out) hg (Kd.R_ne HO_631007.out BK628.out (by decide)))
                   have n3_ := Aside0.mk (blk_grown (kb_ BK630.out) hg (Kd.R_ne HO_631007.out BK630.out (by decide)))
                   have n4_ := Aside0.mk (hb)
                   have n5_ := Aside0.mk (ho)
                   clear HO_631006 BK627 BK628 BK630 HB HO_631007
                   have HO_631006 := n0_; have BK627 := n1_; have BK628 := n2_; have BK630 := n3_; have HB := n4_; have HO644 := n5_
                   clear n0_ n1_ n2_ n3_ n4_ n5_ ho hb hg hat
                   obtain ⟨Ao65, co65, eo65⟩ := Kd.R_slice HO644.out
                   (first | subst eo65 | (injection eo65 with f1_ f2_ f3_; have f4_ := f1_.symm; have f5_ := f3_.symm; clear f1_ f2_ f3_; subst f4_; subst f5_))
                   refine hK.out _ _ ⟨(blk_cell BK630.out 0).trans rfl, (blk_cell BK630.out 1).trans rfl, (blk_cell BK630.out 2).trans rfl, (blk_cell BK630.out 3).trans rfl, (blk_cell BK630.out 4).trans rfl, (blk_cell BK630.out 5).trans rfl, (blk_cell BK630.out 6).trans rfl, (blk_cell BK630.out 7).trans rfl, (blk_cell BK630.out 8).trans rfl, (blk_cell BK627.out 0).trans rfl, (blk_cell BK627.out 1).trans rfl, (blk_cell BK627.out 2).trans rfl, (blk_cell BK627.out 3).trans rfl, (blk_cell BK627.out 4).trans rfl, (blk_cell BK627.out 5).trans rfl, (blk_cell BK627.out 6).trans rfl, (blk_cell BK627.out 7).trans rfl, (blk_cell BK627.out 8).trans rfl, ((HB.out.cell (World.block_lt_of_cell? w _ hw641_0)).trans hw641_0), ((HB.out.cell (World.block_lt_of_cell? w _ hw641_1)).trans hw641_1)⟩ (fun hHeld => ?_)
                   clear hK K
                   refine nr_ 95 ?_
                   refine pu_ 9 (some 96) (tf_ 10 1) HT_ ?_
                   refine last_ (i := 10) (N := none) (tf_ 11 0) rfl rfl (one_of HT_.out (by kernel_rfl)) (by decide) (fun K hK => ?_)
                   have hs66 : w64.cell? ⟨gb630, 7, none⟩ = some (u631007) := (blk_cell BK630.out 7).trans rfl
                   have hfs66 := blk_frozen BK630.out 7
                   have hns66_0 := NB627_630.out
                   have hns66_1 := NB628_630.out
                   have hms66_0 := NB630_627.out
                   have hms66_1 := NB630_628.out
                   refine skip_ (w1 := ?_) (by rfl) rfl ?_ ?_
                   rotate_left
                   · go_simp
                     rfl
                   refine hK.out _ _ ?_
                   clear hK K
                   refine done_ (done_of HT_.out (by kernel_rfl)) ?_
                   try go_wp2
                   go_roundg k3
                   case measure => have := HJ3.out; have := HK2.out; have := HK3.out; omega
                   case rel => exact ⟨(wrap64 (x12_3 + 1)), (y642), (.slice Ao65 y642.length co65), sm_, H', ⟨by have := HJ3.out; have := HK2.out; have := HK3.out; omega⟩, ⟨by (with_reducible repeat (first | apply Kd.R_alloc | apply Kd.R_drewN | apply Kd.R_drew)); exact Kd.R_mono (Kd.R_far (p := ⟨gb630, 7, none⟩) (Kd.R_types HO_631006.out BK630.out (by decide)) (fun _ hk => hk.2) (.slice Ao65 y642.length co65)) (fun _ hk => trivial)⟩, ⟨by (with_reducible repeat (first | apply Kd.R_alloc | apply Kd.R_drewN | apply Kd.R_drew)); exact Kd.R_mono (Kd.R_far (p := ⟨gb630, 7, none⟩) (Kd.R_types HO644.out BK630.out (by decide)) (fun _ hk => hk.2) (.slice Ao65 y642.length co65)) (fun _ hk => trivial)⟩, ⟨by (with_reducible repeat (first | refine blk_drewN ?_ _ | refine blk_drew ?_ | refine blk_alloc ?_ _)); refine blk_far ?_ NB627_630.out _; (with_reducible repeat (first | refine blk_drewN ?_ _ | refine blk_drew ?_ | refine blk_alloc ?_ _)); exact BK627.out⟩, ⟨by (with_reducible repeat (first | refine blk_drewN ?_ _ | refine blk_drew ?_ | refine blk_alloc ?_ _)); refine blk_far ?_ NB628_630.out _; (with_reducible repeat (first | refine blk_drewN ?_ _ | refine blk_drew ?_ | refine blk_alloc ?_ _)); exact BK628.out⟩, ⟨by (with_reducible repeat (first | refine blk_drewN ?_ _ | refine blk_drew ?_ | refine blk_alloc ?_ _)); refine blk_put (cs := #[.int .i64 a0_0, .int .i64 a0_1, .int .i64 a0_2, .int .i64 a0_3, .int .i64 a0_4, .int .i64 a0_5, u631006, u631007, .bool a0_8]) ?_ 7 _ rfl; (with_reducible repeat (first | refine blk_drewN ?_ _ | refine blk_drew ?_ | refine blk_alloc ?_ _)); exact BK630.out⟩, ⟨by repeat (first | (with_reducible first | exact HB.out | apply below_alloc | apply pw_below_drewN | apply below_drew1 | refine below_set ?_ GE627.out | refine below_set ?_ GE628.out | refine below_set ?_ GE630.out) | exact HB.out)⟩⟩
                 · rw [if_neg c58] at H
                   exact absurd H (by simp)
               · rw [if_neg c57] at H
                 have c57b0 : (t639 == a1) = false := beq_eq_false_iff_ne.mpr c57
                 have c57b1 : (t639 != a1) = true := bne_iff_ne.mpr c57
                 have H' := Aside0.mk H
                 clear H
                 refine ne2_ NB627_628 fun hnb67 hnc67 => ?_
                 refine ne2_ NB627_630 fun hnb68 hnc68 => ?_
                 refine blk9_ BK627.out fun hcz69_0 hcz69_1 hcz69_2 hcz69_3 hcz69_4 hcz69_5 hcz69_6 hcz69_7 hcz69_8 hfz69_0 hfz69_1 hfz69_2 hfz69_3 hfz69_4 hfz69_5 hfz69_6 hfz69_7 hfz69_8 => ?_
                 have p638 : 0 ≤ (x12_3 : Int) := of_decide_eq_true (by first | (with_reducible assumption) | assumption)
                 have q638 : x12_3 < (l0_7.length : Int) := of_decide_eq_true (by first | (with_reducible assumption) | assumption)
                 obtain ⟨ad638, e638, hx638_0, hx638_1⟩ := at_T40 HR0_7.out x12_3 p638 q638
                 cases e638
                 replace hx638_0 := (HB.out.cell (World.block_lt_of_cell? w _ hx638_0)).trans hx638_0
                 replace hx638_1 := (HB.out.cell (World.block_lt_of_cell? w _ hx638_1)).trans hx638_1
                 replace p638 := eq_true p638
                 replace q638 := eq_true q638
                 go_wp2_with (first | ((with_reducible refine gate_callee (f := 42) rfl ?_); refine gl_ (some 81) Try.func42 #[.string ((rd_T40 l0_7 x12_3).f0), .int .i64 a2] ?_; (with_reducible refine (althingref04_Shard.calls k3 ((rd_T40 l0_7 x12_3).f0) a2 t639 t640 _ A56.out).mono ?_); rintro e w70 ⟨rfl, hb⟩; refine ⟨_, rfl, ?_⟩; replace HO_631006 := rb_ HO_631006 hb; replace HO_631007 := rb_ HO_631007 hb; replace BK627 := bb_ BK627 hb; replace BK628 := bb_ BK628 hb; replace BK630 := bb_ BK630 hb; replace HB := hs_ HB hb; (try clear hb); (try clear hi)))
                 go_roundg k3
                 case measure => have := HJ3.out; have := HK2.out; have := HK3.out; omega
                 case rel => exact ⟨(wrap64 (x12_3 + 1)), (x631007_3), (u631007), sm_, H', ⟨by have := HJ3.out; have := HK2.out; have := HK3.out; omega⟩, ⟨kr_ HO_631006.out⟩, ⟨kr_ HO_631007.out⟩, ⟨by (with_reducible repeat (first | refine blk_drewN ?_ _ | refine blk_drew ?_ | refine blk_alloc ?_ _)); exact BK627.out⟩, ⟨by (with_reducible repeat (first | refine blk_drewN ?_ _ | refine blk_drew ?_ | refine blk_alloc ?_ _)); exact BK628.out⟩, ⟨by (with_reducible repeat (first | refine blk_drewN ?_ _ | refine blk_drew ?_ | refine blk_alloc ?_ _)); exact BK630.out⟩, ⟨by repeat (first | (with_reducible first | exact HB.out | apply below_alloc | apply pw_below_drewN | apply below_drew1 | refine below_set ?_ GE627.out | refine below_set ?_ GE628.out | refine below_set ?_ GE630.out) | exact HB.out)⟩⟩
             · rw [if_neg c55] at H
               exact absurd H (by simp)
           · rw [if_neg c54] at H
             have c54b0 : decide (x12_3 < (l0_7.length : Int)) = false := decide_eq_false c54
             clear c54
             by_cases c71 : (x631006_2.length : Int) = 0
             · rw [if_pos c71] at H
               have c71b0 : ((x631006_2.length : Int) == 0) = true := beq_iff_eq.mpr c71
               have c71b1 : ((x631006_2.length : Int) != 0) = false := bne_eq_false_iff_eq.mpr c71
               clear c71
               by_cases c72 : (x631007_3.length : Int) = 0
               · rw [if_pos c72] at H
                 have c72b0 : ((x631007_3.length : Int) == 0) = true := beq_iff_eq.mpr c72
                 have c72b1 : ((x631007_3.length : Int) != 0) = false := bne_eq_false_iff_eq.mpr c72
                 clear c72
                 simp only [Option.some.injEq, Prod.mk.injEq] at H
                 obtain ⟨rfl, rfl, rfl, rfl, rfl, rfl, rfl, rfl, rfl, rfl⟩ := H
                 refine ne2_ NB627_628 fun hnb73 hnc73 => ?_
                 refine ne2_ NB627_630 fun hnb74 hnc74 => ?_
                 refine blk9_ BK627.out fun hcz75_0 hcz75_1 hcz75_2 hcz75_3 hcz75_4 hcz75_5 hcz75_6 hcz75_7 hcz75_8 hfz75_0 hfz75_1 hfz75_2 hfz75_3 hfz75_4 hfz75_5 hfz75_6 hfz75_7 hfz75_8 => ?_
                 refine ne2_ NB630_628 fun hnb76 hnc76 => ?_
                 refine blk9_ BK630.out fun hcz77_0 hcz77_1 hcz77_2 hcz77_3 hcz77_4 hcz77_5 hcz77_6 hcz77_7 hcz77_8 hfz77_0 hfz77_1 hfz77_2 hfz77_3 hfz77_4 hfz77_5 hfz77_6 hfz77_7 hfz77_8 => ?_
                 obtain ⟨Ao78, co78, eo78⟩ := Kd.R_slice HO_631006.out
                 subst eo78
                 obtain ⟨Ao79, co79, eo79⟩ := Kd.R_slice HO_631007.out
                 subst eo79
                 refine blk9_ BK628.out fun hcz80_0 hcz80_1 hcz80_2 hcz80_3 hcz80_4 hcz80_5 hcz80_6 hcz80_7 hcz80_8 hfz80_0 hfz80_1 hfz80_2 hfz80_3 hfz80_4 hfz80_5 hfz80_6 hfz80_7 hfz80_8 => ?_
                 go_wp2_with (first | ((with_reducible refine gate_store (t := 29) (p := 6) rfl ?_); refine store_event (t := 29) (p := 6) (v := ?vo_w81) (w1 := (((((((((wr.setCell ⟨gb628, 0, none⟩ (.int .i64 0)).setCell ⟨gb628, 1, none⟩ (.int .i64 0)).setCell ⟨gb628, 2, none⟩ (.int .i64 0)).setCell ⟨gb628, 3, none⟩ (.int .i64 0)).setCell ⟨gb628, 4, none⟩ (.int .i64 0)).setCell ⟨gb628, 5, none⟩ (.int .i64 0)).setCell ⟨gb628, 6, none⟩ (.slice none 0 0)).setCell ⟨gb628, 7, none⟩ (.slice none 0 0)).setCell ⟨gb628, 8, none⟩ (.bool false))) ?hg ?ho ?hn ?hr ?_; (case ho => rfl); (case hg => rfl); (case hn => rfl); (case hr => first | (go_simp; done) | (go_simp; rfl)); intro w81 hw; have n0_ : Aside0 (Kd.R k38 38 w81 w.heap.size (fun _ => True) (.slice Ao78 x631006_2.length co78) x631006_2) := ⟨(by rw [hw]; exact (by (with_reducible repeat (first | apply Kd.R_alloc | apply Kd.R_drewN | apply Kd.R_drew)); exact Kd.R_mono (Kd.R_far (p := ⟨gb628, 8, none⟩) (Kd.R_far (p := ⟨gb628, 7, none⟩) (Kd.R_far (p := ⟨gb628, 6, none⟩) (Kd.R_far (p := ⟨gb628, 5, none⟩) (Kd.R_far (p := ⟨gb628, 4, none⟩) (Kd.R_far (p := ⟨gb628, 3, none⟩) (Kd.R_far (p := ⟨gb628, 2, none⟩) (Kd.R_far (p := ⟨gb628, 1, none⟩) (Kd.R_far (p := ⟨gb628, 0, none⟩) (Kd.R_types HO_631006.out BK628.out (by decide)) (fun _ hk => hk.2) (.int .i64 0)) (fun _ hk => hk.2) (.int .i64 0)) (fun _ hk => hk.2) (.int .i64 0)) (fun _ hk => hk.2) (.int .i64 0)) (fun _ hk => hk.2) (.int .i64 0)) (fun _ hk => hk.2) (.int .i64 0)) (fun _ hk => hk.2) (.slice none 0 0)) (fun _ hk => hk.2) (.slice none 0 0)) (fun _ hk => hk.2) (.bool false)) (fun _ hk => trivial)))⟩; have n1_ : Aside0 (Kd.R k40 40 w81 w.heap.size (fun _ => True) (.slice Ao79 x631007_3.length co79) x631007_3) := ⟨(by rw [hw]; exact (by (with_reducible repeat (first | apply Kd.R_alloc | apply Kd.R_drewN | apply Kd.R_drew)); exact Kd.R_mono (Kd.R_far (p := ⟨gb628, 8, none⟩) (Kd.R_far (p := ⟨gb628, 7, none⟩) (Kd.R_far (p := ⟨gb628, 6, none⟩) (Kd.R_far (p := ⟨gb628, 5, none⟩) (Kd.R_far (p := ⟨gb628, 4, none⟩) (Kd.R_far (p := ⟨gb628, 3, none⟩) (Kd.R_far (p := ⟨gb628, 2, none⟩) (Kd.R_far (p := ⟨gb628, 1, none⟩) (Kd.R_far (p := ⟨gb628, 0, none⟩) (Kd.R_types HO_631007.out BK628.out (by decide)) (fun _ hk => hk.2) (.int .i64 0)) (fun _ hk => hk.2) (.int .i64 0)) (fun _ hk => hk.2) (.int .i64 0)) (fun _ hk => hk.2) (.int .i64 0)) (fun _ hk => hk.2) (.int .i64 0)) (fun _ hk => hk.2) (.int .i64 0)) (fun _ hk => hk.2) (.slice none 0 0)) (fun _ hk => hk.2) (.slice none 0 0)) (fun _ hk => hk.2) (.bool false)) (fun _ hk => trivial)))⟩; have n2_ : Aside0 (w81.heap[gb627]? = some (.cells #[.int .i64 a0_0, .int .i64 a0_1, .int .i64 a0_2, .int .i64 a0_3, .int .i64 a0_4, .int .i64 a0_5, .slice A0_6 l0_6.length c0_6, .slice A0_7 l0_7.length c0_7, .bool a0_8] 29 (0, 0))) := ⟨(by rw [hw]; exact (by (with_reducible repeat (first | refine blk_drewN ?_ _ | refine blk_drew ?_ | refine blk_alloc ?_ _)); refine blk_far ?_ NB627_628.out _; (with_reducible repeat (first | refine blk_drewN ?_ _ | refine blk_drew ?_ | refine blk_alloc ?_ _)); refine blk_far ?_ NB627_628.out _; (with_reducible repeat (first | refine blk_drewN ?_ _ | refine blk_drew ?_ | refine blk_alloc ?_ _)); refine blk_far ?_ NB627_628.out _; (with_reducible repeat (first | refine blk_drewN ?_ _ | refine blk_drew ?_ | refine blk_alloc ?_ _)); refine blk_far ?_ NB627_628.out _; (with_reducible repeat (first | refine blk_drewN ?_ _ | refine blk_drew ?_ | refine blk_alloc ?_ _)); refine blk_far ?_ NB627_628.out _; (with_reducible repeat (first | refine blk_drewN ?_ _ | refine blk_drew ?_ | refine blk_alloc ?_ _)); refine blk_far ?_ NB627_628.out _; (with_reducible repeat (first | refine blk_drewN ?_ _ | refine blk_drew ?_ | refine blk_alloc ?_ _)); refine blk_far ?_ NB627_628.out _; (with_reducible repeat (first | refine blk_drewN ?_ _ | refine blk_drew ?_ | refine blk_alloc ?_ _)); refine blk_far ?_ NB627_628.out _; (with_reducible repeat (first | refine blk_drewN ?_ _ | refine blk_drew ?_ | refine blk_alloc ?_ _)); refine blk_far ?_ NB627_628.out _; (with_reducible repeat (first | refine blk_drewN ?_ _ | refine blk_drew ?_ | refine blk_alloc ?_ _)); exact BK627.out))⟩; have n3_ : Aside0 (w81.heap[gb628]? = some (.cells #[.int .i64 0, .int .i64 0, .int .i64 0, .int .i64 0, .int .i64 0, .int .i64 0, .slice none 0 0, .slice none 0 0, .bool false] 29 (0, 0))) := ⟨(by rw [hw]; exact (by (with_reducible repeat (first | refine blk_drewN ?_ _ | refine blk_drew ?_ | refine blk_alloc ?_ _)); refine blk_put (cs := #[.int .i64 0, .int .i64 0, .int .i64 0, .int .i64 0, .int .i64 0, .int .i64 0, .slice none 0 0, .slice none 0 0, .bool false]) ?_ 8 _ rfl; (with_reducible repeat (first | refine blk_drewN ?_ _ | refine blk_drew ?_ | refine blk_alloc ?_ _)); refine blk_put (cs := #[.int .i64 0, .int .i64 0, .int .i64 0, .int .i64 0, .int .i64 0, .int .i64 0, .slice none 0 0, .slice none 0 0, .bool false]) ?_ 7 _ rfl; (with_reducible repeat (first | refine blk_drewN ?_ _ | refine blk_drew ?_ | refine blk_alloc ?_ _)); refine blk_put (cs := #[.int .i64 0, .int .i64 0, .int .i64 0, .int .i64 0, .int .i64 0, .int .i64 0, .slice none 0 0, .slice none 0 0, .bool false]) ?_ 6 _ rfl; (with_reducible repeat (first | refine blk_drewN ?_ _ | refine blk_drew ?_ | refine blk_alloc ?_ _)); refine blk_put (cs := #[.int .i64 0, .int .i64 0, .int .i64 0, .int .i64 0, .int .i64 0, .int .i64 0, .slice none 0 0, .slice none 0 0, .bool false]) ?_ 5 _ rfl; (with_reducible repeat (first | refine blk_drewN ?_ _ | refine blk_drew ?_ | refine blk_alloc ?_ _)); refine blk_put (cs := #[.int .i64 0, .int .i64 0, .int .i64 0, .int .i64 0, .int .i64 0, .int .i64 0, .slice none 0 0, .slice none 0 0, .bool false]) ?_ 4 _ rfl; (with_reducible repeat (first | refine blk_drewN ?_ _ | refine blk_drew ?_ | refine blk_alloc ?_ _)); refine blk_put (cs := #[.int .i64 0, .int .i64 0, .int .i64 0, .int .i64 0, .int .i64 0, .int .i64 0, .slice none 0 0, .slice none 0 0, .bool false]) ?_ 3 _ rfl; (with_reducible repeat (first | refine blk_drewN ?_ _ | refine blk_drew ?_ | refine blk_alloc ?_ _)); refine blk_put (cs := #[.int .i64 0, .int .i64 0, .int .i64 0, .int .i64 0, .int .i64 0, .int .i64 0, .slice none 0 0, .slice none 0 0, .bool false]) ?_ 2 _ rfl; (with_reducible repeat (first | refine blk_drewN ?_ _ | refine blk_drew ?_ | refine blk_alloc ?_ _)); refine blk_put (cs := #[.int .i64 0, .int .i64 0, .int .i64 0, .int .i64 0, .int .i64 0, .int .i64 0, .slice none 0 0, .slice none 0 0, .bool false]) ?_ 1 _ rfl; (with_reducible repeat (first | refine blk_drewN ?_ _ | refine blk_drew ?_ | refine blk_alloc ?_ _)); refine blk_put (cs := #[.int .i64 0, .int .i64 0, .int .i64 0, .int .i64 0, .int .i64 0, .int .i64 0, .slice none 0 0, .slice none 0 0, .bool false]) ?_ 0 _ rfl; (with_reducible repeat (first | refine blk_drewN ?_ _ | refine blk_drew ?_ | refine blk_alloc ?_ _)); exact BK628.out))⟩; have n4_ : Aside0 (w81.heap[gb630]? = some (.cells #[.int .i64 a0_0, .int .i64 a0_1, .int .i64 a0_2, .int .i64 a0_3, .int .i64 a0_4, .int .i64 a0_5, .slice Ao78 x631006_2.length co78, .slice Ao79 x631007_3.length co79, .bool a0_8] 29 (0, 0))) := ⟨(by rw [hw]; exact (by (with_reducible repeat (first | refine blk_drewN ?_ _ | refine blk_drew ?_ | refine blk_alloc ?_ _)); refine blk_far ?_ NB630_628.out _; (with_reducible repeat (first | refine blk_drewN ?_ _ | refine blk_drew ?_ | refine blk_alloc ?_ _)); refine blk_far ?_ NB630_628.out _; (with_reducible repeat (first | refine blk_drewN ?_ _ | refine blk_drew ?_ | refine blk_alloc ?_ _)); refine blk_far ?_ NB630_628.out _; (with_reducible repeat (first | refine blk_drewN ?_ _ | refine blk_drew ?_ | refine blk_alloc ?_ _)); refine blk_far ?_ NB630_628.out _; (with_reducible repeat (first | refine blk_drewN ?_ _ | refine blk_drew ?_ | refine blk_alloc ?_ _)); refine blk_far ?_ NB630_628.out _; (with_reducible repeat (first | refine blk_drewN ?_ _ | refine blk_drew ?_ | refine blk_alloc ?_ _)); refine blk_far ?_ NB630_628.out _; (with_reducible repeat (first | refine blk_drewN ?_ _ | refine blk_drew ?_ | refine blk_alloc ?_ _)); refine blk_far ?_ NB630_628.out _; (with_reducible repeat (first | refine blk_drewN ?_ _ | refine blk_drew ?_ | refine blk_alloc ?_ _)); refine blk_far ?_ NB630_628.out _; (with_reducible repeat (first | refine blk_drewN ?_ _ | refine blk_drew ?_ | refine blk_alloc ?_ _)); refine blk_far ?_ NB630_628.out _; (with_reducible repeat (first | refine blk_drewN ?_ _ | refine blk_drew ?_ | refine blk_alloc ?_ _)); exact BK630.out))⟩; have n5_ : Aside0 (Below w.heap.size w w81) := ⟨(by rw [hw]; exact lbt_)⟩; clear hw HO_631006 HO_631007 BK627 BK628 BK630 HB; have HO_631006 := n0_; have HO_631007 := n1_; have BK627 := n2_; have BK628 := n3_; have BK630 := n4_; have HB := n5_; clear n0_ n1_ n2_ n3_ n4_ n5_))
                 refine bodyPost_ret (results_ct rfl _ _ gb628 29 #[.int .i64 0, .int .i64 0, .int .i64 0, .int .i64 0, .int .i64 0, .int .i64 0, .slice none 0 0, .slice none 0 0, .bool false] (0, 0) _ rfl (kb_ BK628.out) Try.underlying29 rfl (by kernel_rfl)) rfl ?_
                 exact ⟨_, _, by first | rfl | (simp [errW_none, errW_some] <;> rfl) | (simp [*, errW_none, errW_some] <;> rfl), by first | exact Kd.R_nil _ _ _ _ _ | exact Kd.N_nil _ _ _ _ _ | exact Kd.V_nil _ _ _ _ _ | exact Kd.Q_nil _ _ _ _ _ | exact Kd.S_nil _ _ _ _ _, by first | exact Kd.R_nil _ _ _ _ _ | exact Kd.N_nil _ _ _ _ _ | exact Kd.V_nil _ _ _ _ _ | exact Kd.Q_nil _ _ _ _ _ | exact Kd.S_nil _ _ _ _ _, by repeat (first | (with_reducible first | exact HB.out | apply below_alloc | apply pw_below_drewN | apply below_drew1 | refine below_set ?_ GE627.out | refine below_set ?_ GE628.out | refine below_set ?_ GE630.out) | exact HB.out)⟩
               · rw [if_neg c72] at H
                 have c72b0 : ((x631007_3.length : Int) == 0) = false := beq_eq_false_iff_ne.mpr c72
                 have c72b1 : ((x631007_3.length : Int) != 0) = true := bne_iff_ne.mpr c72
                 have c72b2 : ¬ (x631007_3 = []) := fun h_ => c72 (by rw [h_]; rfl)
                 simp only [Option.some.injEq, Prod.mk.injEq] at H
                 obtain ⟨rfl, rfl, rfl, rfl, rfl, rfl, rfl, rfl, rfl, rfl⟩ := H
                 refine ne2_ NB627_628 fun hnb82 hnc82 => ?_
                 refine ne2_ NB627_630 fun hnb83 hnc83 => ?_
                 refine blk9_ BK627.out fun hcz84_0 hcz84_1 hcz84_2 hcz84_3 hcz84_4 hcz84_5 hcz84_6 hcz84_7 hcz84_8 hfz84_0 hfz84_1 hfz84_2 hfz84_3 hfz84_4 hfz84_5 hfz84_6 hfz84_7 hfz84_8 => ?_
                 refine ne2_ NB630_628 fun hnb85 hnc85 => ?_
                 refine blk9_ BK630.out fun hcz86_0 hcz86_1 hcz86_2 hcz86_3 hcz86_4 hcz86_5 hcz86_6 hcz86_7 hcz86_8 hfz86_0 hfz86_1 hfz86_2 hfz86_3 hfz86_4 hfz86_5 hfz86_6 hfz86_7 hfz86_8 => ?_
                 obtain ⟨Ao87, co87, eo87⟩ := Kd.R_slice HO_631006.out
                 subst eo87
                 obtain ⟨Ao88, co88, eo88⟩ := Kd.R_slice HO_631007.out
                 subst eo88
                 refine blk9_ BK628.out fun hcz90_0 hcz90_1 hcz90_2 hcz90_3 hcz90_4 hcz90_5 hcz90_6 hcz90_7 hcz90_8 hfz90_0 hfz90_1 hfz90_2 hfz90_3 hfz90_4 hfz90_5 hfz90_6 hfz90_7 hfz90_8 => ?_
                 go_wp2_with (first | ((with_reducible refine gate_dst (N := 108) rfl ?_); (try (refine gate_guard (by rfl) ?_; dsimp only)); refine bl_ 108 BK630.out ⟨_, Try.underlying29, rfl⟩ ?_) | ((with_reducible refine gate_store (t := 29) (p := 6) rfl ?_); refine store_event (t := 29) (p := 6) (v := ?vo_w91) (w1 := (((((((((wr.setCell ⟨gb628, 0, none⟩ (.int .i64 a0_0)).setCell ⟨gb628, 1, none⟩ (.int .i64 a0_1)).setCell ⟨gb628, 2, none⟩ (.int .i64 a0_2)).setCell ⟨gb628, 3, none⟩ (.int .i64 a0_3)).setCell ⟨gb628, 4, none⟩ (.int .i64 a0_4)).setCell ⟨gb628, 5, none⟩ (.int .i64 a0_5)).setCell ⟨gb628, 6, none⟩ (.slice Ao87 x631006_2.length co87)).setCell ⟨gb628, 7, none⟩ (.slice Ao88 x631007_3.length co88)).setCell ⟨gb628, 8, none⟩ (.bool a0_8))) ?hg ?ho ?hn ?hr ?_; (case ho => rfl); (case hg => rfl); (case hn => rfl); (case hr => first | (go_simp; done) | (go_simp; rfl)); intro w91 hw; have n0_ : Aside0 (Kd.R k38 38 w91 w.heap.size (fun _ => True) (.slice Ao87 x631006_2.length co87) x631006_2) := ⟨(by rw [hw]; exact (by (with_reducible repeat (first | apply Kd.R_alloc | apply Kd.R_drewN | apply Kd.R_drew)); exact Kd.R_mono (Kd.R_far (p := ⟨gb628, 8, none⟩) (Kd.R_far (p := ⟨gb628, 7, none⟩) (Kd.R_far (p := ⟨gb628, 6, none⟩) (Kd.R_far (p := ⟨gb628, 5, none⟩) (Kd.R_far (p := ⟨gb628, 4, none⟩) (Kd.R_far (p := ⟨gb628, 3, none⟩) (Kd.R_far (p := ⟨gb628, 2, none⟩) (Kd.R_far (p := ⟨gb628, 1, none⟩) (Kd.R_far (p := ⟨gb628, 0, none⟩) (Kd.R_types HO_631006.out BK628.out (by decide)) (fun _ hk => hk.2) (.int .i64 a0_0)) (fun _ hk => hk.2) (.int .i64 a0_1)) (fun _ hk => hk.2) (.int .i64 a0_2)) (fun _ hk => hk.2) (.int .i64 a0_3)) (fun _ hk => hk.2) (.int .i64 a0_4)) (fun _ hk => hk.2) (.int .i64 a0_5)) (fun _ hk => hk.2) (.slice Ao87 x631006_2.length co87)) (fun _ hk => hk.2) (.slice Ao88 x631007_3.length co88)) (fun _ hk => hk.2) (.bool a0_8)) (fun _ hk => trivial)))⟩; have n1_ : Aside0 (Kd.R k40 40 w91 w.heap.size (fun _ => True) (.slice Ao88 x631007_3.length co88) x631007_3) := ⟨(by rw [hw]; exact (by (with_reducible repeat (first | apply Kd.R_alloc | apply Kd.R_drewN | apply Kd.R_drew)); exact Kd.R_mono (Kd.R_far (p := ⟨gb628, 8, none⟩) (Kd.R_far (p := ⟨gb628, 7, none⟩) (Kd.R_far (p := ⟨gb628, 6, none⟩) (Kd.R_far (p := ⟨gb628, 5, none⟩) (Kd.R_far (p := ⟨gb628, 4, none⟩) (Kd.R_far (p := ⟨gb628, 3, none⟩) (Kd.R_far (p := ⟨gb628, 2, none⟩) (Kd.R_far (p := ⟨gb628, 1, none⟩) (Kd.R_far (p := ⟨gb628, 0, none⟩) (Kd.R_types HO_631007.out BK628.out (by decide)) (fun _ hk => hk.2) (.int .i64 a0_0)) (fun _ hk => hk.2) (.int .i64 a0_1)) (fun _ hk => hk.2) (.int .i64 a0_2)) (fun _ hk => hk.2) (.int .i64 a0_3)) (fun _ hk => hk.2) (.int .i64 a0_4)) (fun _ hk => hk.2) (.int .i64 a0_5)) (fun _ hk => hk.2) (.slice Ao87 x631006_2.length co87)) (fun _ hk => hk.2) (.slice Ao88 x631007_3.length co88)) (fun _ hk => hk.2) (.bool a0_8)) (fun _ hk => trivial)))⟩; have n2_ : Aside0 (w91.heap[gb627]? = some (.cells #[.int .i64 a0_0, .int .i64 a0_1, .int .i64 a0_2, .int .i64 a0_3, .int .i64 a0_4, .int .i64 a0_5, .slice A0_6 l0_6.length c0_6, .slice A0_7 l0_7.length c0_7, .bool a0_8] 29 (0, 0))) := ⟨(by rw [hw]; exact (by (with_reducible repeat (first | refine blk_drewN ?_ _ | refine blk_drew ?_ | refine blk_alloc ?_ _)); refine blk_far ?_ NB627_628.out _; (with_reducible repeat (first | refine blk_drewN ?_ _ | refine blk_drew ?_ | refine blk_alloc ?_ _)); refine blk_far ?_ NB627_628.out _; (with_reducible repeat (first | refine blk_drewN ?_ _ | refine blk_drew ?_ | refine blk_alloc ?_ _)); refine blk_far ?_ NB627_628.out _; (with_reducible repeat (first | refine blk_drewN ?_ _ | refine blk_drew ?_ | refine blk_alloc ?_ _)); refine blk_far ?_ NB627_628.out _; (with_reducible repeat (first | refine blk_drewN ?_ _ | refine blk_drew ?_ | refine blk_alloc ?_ _)); refine blk_far ?_ NB627_628.out _; (with_reducible repeat (first | refine blk_drewN ?_ _ | refine blk_drew ?_ | refine blk_alloc ?_ _)); refine blk_far ?_ NB627_628.out _; (with_reducible repeat (first | refine blk_drewN ?_ _ | refine blk_drew ?_ | refine blk_alloc ?_ _)); refine blk_far ?_ NB627_628.out _; (with_reducible repeat (first | refine blk_drewN ?_ _ | refine blk_drew ?_ | refine blk_alloc ?_ _)); refine blk_far ?_ NB627_628.out _; (with_reducible repeat (first | refine blk_drewN ?_ _ | refine blk_drew ?_ | refine blk_alloc ?_ _)); refine blk_far ?_ NB627_628.out _; (with_reducible repeat (first | refine blk_drewN ?_ _ | refine blk_drew ?_ | refine blk_alloc ?_ _)); exact BK627.out))⟩; have n3_ : Aside0 (w91.heap[gb628]? = some (.cells #[.int .i64 a0_0, .int .i64 a0_1, .int .i64 a0_2, .int .i64 a0_3, .int .i64 a0_4, .int .i64 a0_5, .slice Ao87 x631006_2.length co87, .slice Ao88 x631007_3.length co88, .bool a0_8] 29 (0, 0))) := ⟨(by rw [hw]; exact (by (with_reducible repeat (first | refine blk_drewN ?_ _ | refine blk_drew ?_ | refine blk_alloc ?_ _)); refine blk_put (cs := #[.int .i64 a0_0, .int .i64 a0_1, .int .i64 a0_2, .int .i64 a0_3, .int .i64 a0_4, .int .i64 a0_5, .slice Ao87 x631006_2.length co87, .slice Ao88 x631007_3.length co88, .bool false]) ?_ 8 _ rfl; (with_reducible repeat (first | refine blk_drewN ?_ _ | refine blk_drew ?_ | refine blk_alloc ?_ _)); refine blk_put (cs := #[.int .i64 a0_0, .int .i64 a0_1, .int .i64 a0_2, .int .i64 a0_3, .int .i64 a0_4, .int .i64 a0_5, .slice Ao87 x631006_2.length co87, .slice none 0 0, .bool false]) ?_ 7 _ rfl; (with_reducible repeat (first | refine blk_drewN ?_ _ | refine blk_drew ?_ | refine blk_alloc ?_ _)); refine blk_put (cs := #[.int .i64 a0_0, .int .i64 a0_1, .int .i64 a0_2, .int .i64 a0_3, .int .i64 a0_4, .int .i64 a0_5, .slice none 0 0, .slice none 0 0, .bool false]) ?_ 6 _ rfl; (with_reducible repeat (first | refine blk_drewN ?_ _ | refine blk_drew ?_ | refine blk_alloc ?_ _)); refine blk_put (cs := #[.int .i64 a0_0, .int .i64 a0_1, .int .i64 a0_2, .int .i64 a0_3, .int .i64 a0_4, .int .i64 0, .slice none 0 0, .slice none 0 0, .bool false]) ?_ 5 _ rfl; (with_reducible repeat (first | refine blk_drewN ?_ _ | refine blk_drew ?_ | refine blk_alloc ?_ _)); refine blk_put (cs := #[.int .i64 a0_0, .int .i64 a0_1, .int .i64 a0_2, .int .i64 a0_3, .int .i64 0, .int .i64 0, .slice none 0 0, .slice none 0 0, .bool false]) ?_ 4 _ rfl; (with_reducible repeat (first | refine blk_drewN ?_ _ | refine blk_drew ?_ | refine blk_alloc ?_ _)); refine blk_put (cs := #[.int .i64 a0_0, .int .i64 a0_1, .int .i64 a0_2, .int .i64 0, .int .i64 0, .int .i64 0, .slice none 0 0, .slice none 0 0, .bool false]) ?_ 3 _ rfl; (with_reducible repeat (first | refine blk_drewN ?_ _ | refine blk_drew ?_ | refine blk_alloc ?_ _)); refine blk_put (cs := #[.int .i64 a0_0, .int .i64 a0_1, .int .i64 0, .int .i64 0, .int .i64 0, .int .i64 0, .slice none 0 0, .slice none 0 0, .bool false]) ?_ 2 _ rfl; (with_reducible repeat (first | refine blk_drewN ?_ _ | refine blk_drew ?_ | refine blk_alloc ?_ _)); refine blk_put (cs := #[.int .i64 a0_0, .int .i64 0, .int .i64 0, .int .i64 0, .int .i64 0, .int .i64 0, .slice none 0 0, .slice none 0 0, .bool false]) ?_ 1 _ rfl; (with_reducible repeat (first | refine blk_drewN ?_ _ | refine blk_drew ?_ | refine blk_alloc ?_ _)); refine blk_put (cs := #[.int .i64 0, .int .i64 0, .int .i64 0, .int .i64 0, .int .i64 0, .int .i64 0, .slice none 0 0, .slice none 0 0, .bool false]) ?_ 0 _ rfl; (with_reducible repeat (first | refine blk_drewN ?_ _ | refine blk_drew ?_ | refine blk_alloc ?_ _)); exact BK628.out))⟩; have n4_ : Aside0 (w91.heap[gb630]? = some (.cells #[.int .i64 a0_0, .int .i64 a0_1, .int .i64 a0_2, .int .i64 a0_3, .int .i64 a0_4, .int .i64 a0_5, .slice Ao87 x631006_2.length co87, .slice Ao88 x631007_3.length co88, .bool a0_8] 29 (0, 0))) := ⟨(by rw [hw]; exact (by (with_reducible repeat (first | refine blk_drewN ?_ _ | refine blk_drew ?_ | refine blk_alloc ?_ _)); refine blk_far ?_ NB630_628.out _; (with_reducible repeat (first | refine blk_drewN ?_ _ | refine blk_drew ?_ | refine blk_alloc ?_ _)); refine blk_far ?_ NB630_628.out _; (with_reducible repeat (first | refine blk_drewN ?_ _ | refine blk_drew ?_ | refine blk_alloc ?_ _)); refine blk_far ?_ NB630_628.out _; (with_reducible repeat (first | refine blk_drewN ?_ _ | refine blk_drew ?_ | refine blk_alloc ?_ _)); refine blk_far ?_ NB630_628.out _; (with_reducible repeat (first | refine blk_drewN ?_ _ | refine blk_drew ?_ | refine blk_alloc ?_ _)); refine blk_far ?_ NB630_628.out _; (with_reducible repeat (first | refine blk_drewN ?_ _ | refine blk_drew ?_ | refine blk_alloc ?_ _)); refine blk_far ?_ NB630_628.out _; (with_reducible repeat (first | refine blk_drewN ?_ _ | refine blk_drew ?_ | refine blk_alloc ?_ _)); refine blk_far ?_ NB630_628.out _; (with_reducible repeat (first | refine blk_drewN ?_ _ | refine blk_drew ?_ | refine blk_alloc ?_ _)); refine blk_far ?_ NB630_628.out _; (with_reducible repeat (first | refine blk_drewN ?_ _ | refine blk_drew ?_ | refine blk_alloc ?_ _)); refine blk_far ?_ NB630_628.out _; (with_reducible repeat (first | refine blk_drewN ?_ _ | refine blk_drew ?_ | refine blk_alloc ?_ _)); exact BK630.out))⟩; have n5_ : Aside0 (Below w.heap.size w w91) := ⟨(by rw [hw]; exact lbt_)⟩; clear hw HO_631006 HO_631007 BK627 BK628 BK630 HB; have HO_631006 := n0_; have HO_631007 := n1_; have BK627 := n2_; have BK628 := n3_; have BK630 := n4_; have HB := n5_; clear n0_ n1_ n2_ n3_ n4_ n5_))
                 refine bodyPost_ret (results_ct rfl _ _ gb628 29 #[.int .i64 a0_0, .int .i64 a0_1, .int .i64 a0_2, .int .i64 a0_3, .int .i64 a0_4, .int .i64 a0_5, .slice Ao87 x631006_2.length co87, .slice Ao88 x631007_3.length co88, .bool a0_8] (0, 0) _ rfl (kb_ BK628.out) Try.underlying29 rfl (by kernel_rfl)) rfl ?_
                 exact ⟨_, _, by first | rfl | (simp [errW_none, errW_some] <;> rfl) | (simp [*, errW_none, errW_some] <;> rfl), by (with_reducible repeat (first | apply Kd.R_alloc | apply Kd.R_drewN | apply Kd.R_drew)); exact HO_631006.out, by (with_reducible repeat (first | apply Kd.R_alloc | apply Kd.R_drewN | apply Kd.R_drew)); exact HO_631007.out, by repeat (first | (with_reducible first | exact HB.out | apply below_alloc | apply pw_below_drewN | apply below_drew1 | refine below_set ?_ GE627.out | refine below_set ?_ GE628.out | refine below_set ?_ GE630.out) | exact HB.out)⟩
             · rw [if_neg c71] at H
               have c71b0 : ((x631006_2.length : Int) == 0) = false := beq_eq_false_iff_ne.mpr c71
               have c71b1 : ((x631006_2.length : Int) != 0) = true := bne_iff_ne.mpr c71
               have c71b2 : ¬ (x631006_2 = []) := fun h_ => c71 (by rw [h_]; rfl)
               simp only [Option.some.injEq, Prod.mk.injEq] at H
               obtain ⟨rfl, rfl, rfl, rfl, rfl, rfl, rfl, rfl, rfl, rfl⟩ := H
               refine ne2_ NB627_628 fun hnb92 hnc92 => ?_
               refine ne2_ NB627_630 fun hnb93 hnc93 => ?_
               refine blk9_ BK627.out fun hcz94_0 hcz94_1 hcz94_2 hcz94_3 hcz94_4 hcz94_5 hcz94_6 hcz94_7 hcz94_8 hfz94_0 hfz94_1 hfz94_2 hfz94_3 hfz94_4 hfz94_5 hfz94_6 hfz94_7 hfz94_8 => ?_
               refine ne2_ NB630_628 fun hnb95 hnc95 => ?_
               refine blk9_ BK630.out fun hcz96_0 hcz96_1 hcz96_2 hcz96_3 hcz96_4 hcz96_5 hcz96_6 hcz96_7 hcz96_8 hfz96_0 hfz96_1 hfz96_2 hfz96_3 hfz96_4 hfz96_5 hfz96_6 hfz96_7 hfz96_8 => ?_
               obtain ⟨Ao97, co97, eo97⟩ := Kd.R_slice HO_631006.out
               subst eo97
               refine blk9_ BK628.out fun hcz99_0 hcz99_1 hcz99_2 hcz99_3 hcz99_4 hcz99_5 hcz99_6 hcz99_7 hcz99_8 hfz99_0 hfz99_1 hfz99_2 hfz99_3 hfz99_4 hfz99_5 hfz99_6 hfz99_7 hfz99_8 => ?_
               obtain ⟨Ao100, co100, eo100⟩ := Kd.R_slice HO_631007.out
               subst eo100
               go_wp2_with (first | ((with_reducible refine gate_dst (N := 108) rfl ?_); (try (refine gate_guard (by rfl) ?_; dsimp only)); refine bl_ 108 BK630.out ⟨_, Try.underlying29, rfl⟩ ?_) | ((with_reducible refine gate_store (t := 29) (p := 6) rfl ?_); refine store_event (t := 29) (p := 6) (v := ?vo_w101) (w1 := (((((((((wr.setCell ⟨gb628, 0, none⟩ (.int .i64 a0_0)).setCell ⟨gb628, 1, none⟩ (.int .i64 a0_1)).setCell ⟨gb628, 2, none⟩ (.int .i64 a0_2)).setCell ⟨gb628, 3, none⟩ (.int .i64 a0_3)).setCell ⟨gb628, 4, none⟩ (.int .i64 a0_4)).setCell ⟨gb628, 5, none⟩ (.int .i64 a0_5)).setCell ⟨gb628, 6, none⟩ (.slice Ao97 x631006_2.length co97)).setCell ⟨gb628, 7, none⟩ (.slice Ao100 x631007_3.length co100)).setCell ⟨gb628, 8, none⟩ (.bool a0_8))) ?hg ?ho ?hn ?hr ?_; (case ho => rfl); (case hg => rfl); (case hn => rfl); (case hr => first | (go_simp; done) | (go_simp; rfl)); intro w101 hw; have n0_ : Aside0 (Kd.R k38 38 w101 w.heap.size (fun _ => True) (.slice Ao97 x631006_2.length co97) x631006_2) := ⟨(by rw [hw]; exact (by (with_reducible repeat (first | apply Kd.R_alloc | apply Kd.R_drewN | apply Kd.R_drew)); exact Kd.R_mono (Kd.R_far (p := ⟨gb628, 8, none⟩) (Kd.R_far (p := ⟨gb628, 7, none⟩) (Kd.R_far (p := ⟨gb628, 6, none⟩) (Kd.R_far (p := ⟨gb628, 5, none⟩) (Kd.R_far (p := ⟨gb628, 4, none⟩) (Kd.R_far (p := ⟨gb628, 3, none⟩) (Kd.R_far (p := ⟨gb628, 2, none⟩) (Kd.R_far (p := ⟨gb628, 1, none⟩) (Kd.R_far (p := ⟨gb628, 0, none⟩) (Kd.R_types HO_631006.out BK628.out (by decide)) (fun _ hk => hk.2) (.int .i64 a0_0)) (fun _ hk => hk.2) (.int .i64 a0_1)) (fun _ hk => hk.2) (.int .i64 a0_2)) (fun _ hk => hk.2) (.int .i64 a0_3)) (fun _ hk => hk.2) (.int .i64 a0_4)) (fun _ hk => hk.2) (.int .i64 a0_5)) (fun _ hk => hk.2) (.slice Ao97 x631006_2.length co97)) (fun _ hk => hk.2) (.slice Ao100 x631007_3.length co100)) (fun _ hk => hk.2) (.bool a0_8)) (fun _ hk => trivial)))⟩; have n1_ : Aside0 (Kd.R k40 40 w101 w.heap.size (fun _ => True) (.slice Ao100 x631007_3.length co100) x631007_3) := ⟨(by rw [hw]; exact (by (with_reducible repeat (first | apply Kd.R_alloc | apply Kd.R_drewN | apply Kd.R_drew)); exact Kd.R_mono (Kd.R_far (p := ⟨gb628, 8, none⟩) (Kd.R_far (p := ⟨gb628, 7, none⟩) (Kd.R_far (p := ⟨gb628, 6, none⟩) (Kd.R_far (p := ⟨gb628, 5, none⟩) (Kd.R_far (p := ⟨gb628, 4, none⟩) (Kd.R_far (p := ⟨gb628, 3, none⟩) (Kd.R_far (p := ⟨gb628, 2, none⟩) (Kd.R_far (p := ⟨gb628, 1, none⟩) (Kd.R_far (p := ⟨gb628, 0, none⟩) (Kd.R_types HO_631007.out BK628.out (by decide)) (fun _ hk => hk.2) (.int .i64 a0_0)) (fun _ hk => hk.2) (.int .i64 a0_1)) (fun _ hk => hk.2) (.int .i64 a0_2)) (fun _ hk => hk.2) (.int .i64 a0_3)) (fun _ hk => hk.2) (.int .i64 a0_4)) (fun _ hk => hk.2) (.int .i64 a0_5)) (fun _ hk => hk.2) (.slice Ao97 x631006_2.length co97)) (fun _ hk => hk.2) (.slice Ao100 x631007_3.length co100)) (fun _ hk => hk.2) (.bool a0_8)) (fun _ hk => trivial)))⟩; have n2_ : Aside0 (w101.heap[gb627]? = some (.cells #[.int .i64 a0_0, .int .i64 a0_1, .int .i64 a0_2, .int .i64 a0_3, .int .i64 a0_4, .int .i64 a0_5, .slice A0_6 l0_6.length c0_6, .slice A0_7 l0_7.length c0_7, .bool a0_8] 29 (0, 0))) := ⟨(by rw [hw]; exact (by (with_reducible repeat (first | refine blk_drewN ?_ _ | refine blk_drew ?_ | refine blk_alloc ?_ _)); refine blk_far ?_ NB627_628.out _; (with_reducible repeat (first | refine blk_drewN ?_ _ | refine blk_drew ?_ | refine blk_alloc ?_ _)); refine blk_far ?_ NB627_628.out _; (with_reducible repeat (first | refine blk_drewN ?_ _ | refine blk_drew ?_ | refine blk_alloc ?_ _)); refine blk_far ?_ NB627_628.out _; (with_reducible repeat (first | refine blk_drewN ?_ _ | refine blk_drew ?_ | refine blk_alloc ?_ _)); refine blk_far ?_ NB627_628.out _; (with_reducible repeat (first | refine blk_drewN ?_ _ | refine blk_drew ?_ | refine blk_alloc ?_ _)); refine blk_far ?_ NB627_628.out _; (with_reducible repeat (first | refine blk_drewN ?_ _ | refine blk_drew ?_ | refine blk_alloc ?_ _)); refine blk_far ?_ NB627_628.out _; (with_reducible repeat (first | refine blk_drewN ?_ _ | refine blk_drew ?_ | refine blk_alloc ?_ _)); refine blk_far ?_ NB627_628.out _; (with_reducible repeat (first | refine blk_drewN ?_ _ | refine blk_drew ?_ | refine blk_alloc ?_ _)); refine blk_far ?_ NB627_628.out _; (with_reducible repeat (first | refine blk_drewN ?_ _ | refine blk_drew ?_ | refine blk_alloc ?_ _)); refine blk_far ?_ NB627_628.out _; (with_reducible repeat (first | refine blk_drewN ?_ _ | refine blk_drew ?_ | refine blk_alloc ?_ _)); exact BK627.out))⟩; have n3_ : Aside0 (w101.heap[gb628]? = some (.cells #[.int .i64 a0_0, .int .i64 a0_1, .int .i64 a0_2, .int .i64 a0_3, .int .i64 a0_4, .int .i64 a0_5, .slice Ao97 x631006_2.length co97, .slice Ao100 x631007_3.length co100, .bool a0_8] 29 (0, 0))) := ⟨(by rw [hw]; exact (by (with_reducible repeat (first | refine blk_drewN ?_ _ | refine blk_drew ?_ | refine blk_alloc ?_ _)); refine blk_put (cs := #[.int .i64 a0_0, .int .i64 a0_1, .int .i64 a0_2, .int .i64 a0_3, .int .i64 a0_4, .int .i64 a0_5, .slice Ao97 x631006_2.length co97, .slice Ao100 x631007_3.length co100, .bool false]) ?_ 8 _ rfl; (with_reducible repeat (first | refine blk_drewN ?_ _ | refine blk_drew ?_ | refine blk_alloc ?_ _)); refine blk_put (cs := #[.int .i64 a0_0, .int .i64 a0_1, .int .i64 a0_2, .int .i64 a0_3, .int .i64 a0_4, .int .i64 a0_5, .slice Ao97 x631006_2.length co97, .slice none 0 0, .bool false]) ?_ 7 _ rfl; (with_reducible repeat (first | refine blk_drewN ?_ _ | refine blk_drew ?_ | refine blk_alloc ?_ _)); refine blk_put (cs := #[.int .i64 a0_0, .int .i64 a0_1, .int .i64 a0_2, .int .i64 a0_3, .int .i64 a0_4, .int .i64 a0_5, .slice none 0 0, .slice none 0 0, .bool false]) ?_ 6 _ rfl; (with_reducible repeat (first | refine blk_drewN ?_ _ | refine blk_drew ?_ | refine blk_alloc ?_ _)); refine blk_put (cs := #[.int .i64 a0_0, .int .i64 a0_1, .int .i64 a0_2, .int .i64 a0_3, .int .i64 a0_4, .int .i64 0, .slice none 0 0, .slice none 0 0, .bool false]) ?_ 5 _ rfl; (with_reducible repeat (first | refine blk_drewN ?_ _ | refine blk_drew ?_ | refine blk_alloc ?_ _)); refine blk_put (cs := #[.int .i64 a0_0, .int .i64 a0_1, .int .i64 a0_2, .int .i64 a0_3, .int .i64 0, .int .i64 0, .slice none 0 0, .slice none 0 0, .bool false]) ?_ 4 _ rfl; (with_reducible repeat (first | refine blk_drewN ?_ _ | refine blk_drew ?_ | refine blk_alloc ?_ _)); refine blk_put (cs := #[.int .i64 a0_0, .int .i64 a0_1, .int .i64 a0_2, .int .i64 0, .int .i64 0, .int .i64 0, .slice none 0 0, .slice none 0 0, .bool false]) ?_ 3 _ rfl; (with_reducible repeat (first | refine blk_drewN ?_ _ | refine blk_drew ?_ | refine blk_alloc ?_ _)); refine blk_put (cs := #[.int .i64 a0_0, .int .i64 a0_1, .int .i64 0, .int .i64 0, .int .i64 0, .int .i64 0, .slice none 0 0, .slice none 0 0, .bool false]) ?_ 2 _ rfl; (with_reducible repeat (first | refine blk_drewN ?_ _ | refine blk_drew ?_ | refine blk_alloc ?_ _)); refine blk_put (cs := #[.int .i64 a0_0, .int .i64 0, .int .i64 0, .int .i64 0, .int .i64 0, .int .i64 0, .slice none 0 0, .slice none 0 0, .bool false]) ?_ 1 _ rfl; (with_reducible repeat (first | refine blk_drewN ?_ _ | refine blk_drew ?_ | refine blk_alloc ?_ _)); refine blk_put (cs := #[.int .i64 0, .int .i64 0, .int .i64 0, .int .i64 0, .int .i64 0, .int .i64 0, .slice none 0 0, .slice none 0 0, .bool false]) ?_ 0 _ rfl; (with_reducible repeat (first | refine blk_drewN ?_ _ | refine blk_drew ?_ | refine blk_alloc ?_ _)); exact BK628.out))⟩; have n4_ : Aside0 (w101.heap[gb630]? = some (.cells #[.int .i64 a0_0, .int .i64 a0_1, .int .i64 a0_2, .int .i64 a0_3, .int .i64 a0_4, .int .i64 a0_5, .slice Ao97 x631006_2.length co97, .slice Ao100 x631007_3.length co100, .bool a0_8] 29 (0, 0))) := ⟨(by rw [hw]; exact (by (with_reducible repeat (first | refine blk_drewN ?_ _ | refine blk_drew ?_ | refine blk_alloc ?_ _)); refine blk_far ?_ NB630_628.out _; (with_reducible repeat (first | refine blk_drewN ?_ _ | refine blk_drew ?_ | refine blk_alloc ?_ _)); refine blk_far ?_ NB630_628.out _; (with_reducible repeat (first | refine blk_drewN ?_ _ | refine blk_drew ?_ | refine blk_alloc ?_ _)); refine blk_far ?_ NB630_628.out _; (with_reducible repeat (first | refine blk_drewN ?_ _ | refine blk_drew ?_ | refine blk_alloc ?_ _)); refine blk_far ?_ NB630_628.out _; (with_reducible repeat (first | refine blk_drewN ?_ _ | refine blk_drew ?_ | refine blk_alloc ?_ _)); refine blk_far ?_ NB630_628.out _; (with_reducible repeat (first | refine blk_drewN ?_ _ | refine blk_drew ?_ | refine blk_alloc ?_ _)); refine blk_far ?_ NB630_628.out _; (with_reducible repeat (first | refine blk_drewN ?_ _ | refine blk_drew ?_ | refine blk_alloc ?_ _)); refine blk_far ?_ NB630_628.out _; (with_reducible repeat (first | refine blk_drewN ?_ _ | refine blk_drew ?_ | refine blk_alloc ?_ _)); refine blk_far ?_ NB630_628.out _; (with_reducible repeat (first | refine blk_drewN ?_ _ | refine blk_drew ?_ | refine blk_alloc ?_ _)); refine blk_far ?_ NB630_628.out _; (with_reducible repeat (first | refine blk_drewN ?_ _ | refine blk_drew ?_ | refine blk_alloc ?_ _)); exact BK630.out))⟩; have n5_ : Aside0 (Below w.heap.size w w101) := ⟨(by rw [hw]; exact lbt_)⟩; clear hw HO_631006 HO_631007 BK627 BK628 BK630 HB; have HO_631006 := n0_; have HO_631007 := n1_; have BK627 := n2_; have BK628 := n3_; have BK630 := n4_; have HB := n5_; clear n0_ n1_ n2_ n3_ n4_ n5_))
               refine bodyPost_ret (results_ct rfl _ _ gb628 29 #[.int .i64 a0_0, .int .i64 a0_1, .int .i64 a0_2, .int .i64 a0_3, .int .i64 a0_4, .int .i64 a0_5, .slice Ao97 x631006_2.length co97, .slice Ao100 x631007_3.length co100, .bool a0_8] (0, 0) _ rfl (kb_ BK628.out) Try.underlying29 rfl (by kernel_rfl)) rfl ?_
               exact ⟨_, _, by first | rfl | (simp [errW_none, errW_some] <;> rfl) | (simp [*, errW_none, errW_some] <;> rfl), by (with_reducible repeat (first | apply Kd.R_alloc | apply Kd.R_drewN | apply Kd.R_drew)); exact HO_631006.out, by (with_reducible repeat (first | apply Kd.R_alloc | apply Kd.R_drewN | apply Kd.R_drew)); exact HO_631007.out, by repeat (first | (with_reducible first | exact HB.out | apply below_alloc | apply pw_below_drewN | apply below_drew1 | refine below_set ?_ GE627.out | refine below_set ?_ GE628.out | refine below_set ?_ GE630.out) | exact HB.out)⟩
end Go.Proofs.Ytnjeeedndnfglaa.X
end
section
namespace Go.Proofs.Ytnjeeedndnfglaa.X
open Go.RowKit Go.Proofs.YtnjeeedndnfglaaW.PrintWords Go.Proofs.YtnjeeedndnfglaaW.PrintLast Go.Proofs.YtnjeeedndnfglaaW.PrintMore
attribute [local go_sem] max2_int min2_int max_two min_two max_three min_three max_four min_four   -- for this text's walks alone
set_option linter.unusedVariables false
set_option linter.unusedSimpArgs false
def althingref05_Decided.f (k : Nat) (a0_0 : Int) (a0_1 : Int) (a0_2 : Int) (a0_3 : Int) (a0_4 : Int) (a0_5 : Int) (l0_6 : List (S38)) (l0_7 : List (S40)) (a0_8 : Bool) (a1 : Bool) : Option (Int × Int × Int × Int × Int × Int × (List (S38)) × (List (S40)) × Bool × Int) := (althingref05_Right.f k a0_0 a0_1 a0_2 a0_3 a0_4 a0_5 l0_6 l0_7 a0_8).bind fun t647 => (if t647 = true then (if a0_0 = 1 then (some (2, a0_1, a0_2, a0_3, a0_4, a0_5, l0_6, l0_7, a1, 0)) else (some (0, 0, 0, 0, 0, 0, ([] : List (S38)), ([] : List (S40)), false, 1))) else (some (0, 0, 0, 0, 0, 0, ([] : List (S38)), ([] : List (S40)), false, 1)))
set_option maxHeartbeats 40000000 in
set_option maxRecDepth 100000 in
theorem althingref05_Decided.calls (k : Nat) (a0_0 : Int) (a0_1 : Int) (a0_2 : Int) (a0_3 : Int) (a0_4 : Int) (a0_5 : Int) (P0_6_ : Nat → Prop) (A0_6 : Option Addr) (c0_6 : Nat) (l0_6 : List (S38)) (P0_7_ : Nat → Prop) (A0_7 : Option Addr) (c0_7 : Nat) (l0_7 : List (S40)) (a0_8 : Bool) (a1 : Bool) (r1 : Int) (r2 : Int) (r3 : Int) (r4 : Int) (r5 : Int) (r6 : Int) (r7 : List (S38)) (r8 : List (S40)) (r9 : Bool) (r10 : Int) (w : World) (hs0_6 : Kd.V k38 38 w w.heap.size (fun k_ => P0_6_ k_) (.slice A0_6 l0_6.length c0_6) l0_6) (hs0_7 : Kd.V k40 40 w w.heap.size (fun k_ => P0_7_ k_) (.slice A0_7 l0_7.length c0_7) l0_7) (h : althingref05_Decided.f k a0_0 a0_1 a0_2 a0_3 a0_4 a0_5 l0_6 l0_7 a0_8 a1 = some (r1, r2, r3, r4, r5, r6, r7, r8, r9, r10)) :
 Calls Try.prog 22 #[.agg #[.int .i64 a0_0, .int .i64 a0_1, .int .i64 a0_2, .int .i64 a0_3, .int .i64 a0_4, .int .i64 a0_5, .slice A0_6 l0_6.length c0_6, .slice A0_7 l0_7.length c0_7, .bool a0_8], .bool a1] w fun e w' => ∃ v6_ v7_ : Value, e = .returned (.tuple #[.agg #[.int .i64 r1, .int .i64 r2, .int .i64 r3, .int .i64 r4, .int .i64 r5, .int .i64 r6, v6_, v7_, .bool r9], .int .i64 r10]) ∧ Kd.V k38 38 w' w.heap.size (fun k_ => ((P0_6_ k_ ∨ P0_7_ k_) ∨ w.heap.size ≤ k_)) v6_ r7 ∧ Kd.V k40 40 w' w.heap.size (fun k_ => ((P0_6_ k_ ∨ P0_7_ k_) ∨ w.heap.size ≤ k_)) v7_ r8 ∧ Below w.heap.size w w' := by
 have hu29 := Try.underlying29
 have HO0_6 := Aside0.mk (show Kd.V k38 38 w w.heap.size (fun k_ => ((P0_6_ k_ ∨ P0_7_ k_) ∨ w.heap.size ≤ k_)) (.slice A0_6 l0_6.length c0_6) l0_6 from Kd.V_mono hs0_6 (fun k_ hk => .inl (.inl hk)))
 have HO0_7 := Aside0.mk (show Kd.V k40 40 w w.heap.size (fun k_ => ((P0_6_ k_ ∨ P0_7_ k_) ∨ w.heap.size ≤ k_)) (.slice A0_7 l0_7.length c0_7) l0_7 from Kd.V_mono hs0_7 (fun k_ hk => .inl (.inr hk)))
 have HB := Aside0.mk (Below.refl w.heap.size w)
 have H : ((althingref05_Right.f k a0_0 a0_1 a0_2 a0_3 a0_4 a0_5 l0_6 l0_7 a0_8).bind fun t647 => (if t647 = true then (if a0_0 = 1 then (some (2, a0_1, a0_2, a0_3, a0_4, a0_5, l0_6, l0_7, a1, 0)) else (some (0, 0, 0, 0, 0, 0, ([] : List (S38)), ([] : List (S40)), false, 1))) else (some (0, 0, 0, 0, 0, 0, ([] : List (S38)), ([] : List (S40)), false, 1)))) = some (r1, r2, r3, r4, r5, r6, r7, r8, r9, r10) := h
 clear h
 obtain ⟨t647, A3, H⟩ := bs_ H
 by_cases c4 : t647 = true
 · subst c4
   rw [if_pos rfl] at H
   by_cases c5 : a0_0 = 1
   · rw [if_pos c5] at H
     have c5b0 : (a0_0 == 1) = true := beq_iff_eq.mpr c5
     have c5b1 : (a0_0 != 1) = false := bne_eq_false_iff_eq.mpr c5
     clear c5
     simp only [Option.some.injEq, Prod.mk.injEq] at H
     obtain ⟨rfl, rfl, rfl, rfl, rfl, rfl, rfl, rfl, rfl, rfl⟩ := H
     go_enter Try.func22, Try.ntmps22
     go_wp2_with (first | ((with_reducible refine gate_dst (N := 2) rfl ?_); refine bx_ 2 29 #[.int .i64 a0_0, .int .i64 a0_1, .int .i64 a0_2, .int .i64 a0_3, .int .i64 a0_4, .int .i64 a0_5, .slice A0_6 l0_6.length c0_6, .slice A0_7 l0_7.length c0_7, .bool a0_8] ?_; intro gb645 hg w6 hbox hb; have BK645 := Aside0.mk hbox; have GE645 := ge_ HB hg; replace HO0_6 := ve_ HO0_6 hg hb; replace HO0_7 := ve_ HO0_7 hg hb; replace HB := hs_ HB hb; clear hb hbox hg) | ((with_reducible refine gate_dst (N := 4) rfl ?_); refine bx_ 4 29 #[.int .i64 0, .int .i64 0, .int .i64 0, .int .i64 0, .int .i64 0, .int .i64 0, .slice none 0 0, .slice none 0 0, .bool false] ?_; intro gb646 hg w7 hbox hb; have BK646 := Aside0.mk hbox; have GE646 := ge_ HB hg; have NB645_646 := na_ hg BK645; have NB646_645 := nb_ hg BK645; replace HO0_6 := ve_ HO0_6 hg hb; replace HO0_7 := ve_ HO0_7 hg hb; replace BK645 := bb_ BK645 hb; replace HB := hs_ HB hb; clear hb hbox hg) | ((with_reducible refine gate_dst (N := 6) rfl ?_); (try (refine gate_guard (by rfl) ?_; dsimp only)); refine bl_ 6 BK645.out ⟨_, Try.underlying29, rfl⟩ ?_) | ((with_reducible refine gate_callee (f := 16) rfl ?_); refine gl_ (some 7) Try.func16 #[.agg #[.int .i64 a0_0, .int .i64 a0_1, .int .i64 a0_2, .int .i64 a0_3, .int .i64 a0_4, .int .i64 a0_5, .slice A0_6 l0_6.length c0_6, .slice A0_7 l0_7.length c0_7, .bool a0_8]] ?_; (with_reducible refine (althingref05_Right.calls k a0_0 a0_1 a0_2 a0_3 a0_4 a0_5 _ _ l0_6 _ _ l0_7 a0_8 true _ ?side1 ?side2 ?side3 ?side4 A3.out).mono ?_); (case side1 => repeat (first | exact (Kd.V_reads' HO0_6.out).2.2 | (with_reducible refine Kd.C_alloc ?_ _) | (with_reducible refine Kd.C_drewN ?_ _) | (with_reducible refine Kd.C_drew ?_))); (case side2 => exact (Kd.V_reads' HO0_6.out).2.1); (case side3 => repeat (first | exact (Kd.V_reads' HO0_7.out).2.2 | (with_reducible refine Kd.C_alloc ?_ _) | (with_reducible refine Kd.C_drewN ?_ _) | (with_reducible refine Kd.C_drew ?_))); (case side4 => exact (Kd.V_reads' HO0_7.out).2.1); rintro e w9 ⟨rfl, hb⟩; refine ⟨_, rfl, ?_⟩; replace HO0_6 := vb_ HO0_6 hb; replace HO0_7 := vb_ HO0_7 hb; replace BK645 := bb_ BK645 hb; replace BK646 := bb_ BK646 hb; replace HB := hs_ HB hb; (try clear hb); (try clear hk); refine ne2_ NB645_646 fun hnb10 hnc10 => ?_; refine blk9_ BK645.out fun hcz11_0 hcz11_1 hcz11_2 hcz11_3 hcz11_4 hcz11_5 hcz11_6 hcz11_7 hcz11_8 hfz11_0 hfz11_1 hfz11_2 hfz11_3 hfz11_4 hfz11_5 hfz11_6 hfz11_7 hfz11_8 => ?_; refine blk9_ BK646.out fun hcz12_0 hcz12_1 hcz12_2 hcz12_3 hcz12_4 hcz12_5 hcz12_6 hcz12_7 hcz12_8 hfz12_0 hfz12_1 hfz12_2 hfz12_3 hfz12_4 hfz12_5 hfz12_6 hfz12_7 hfz12_8 => ?_) | ((with_reducible refine gate_store (t := 29) (p := 4) rfl ?_); refine store_event (t := 29) (p := 4) (v := ?vo_w13) (w1 := (((((((((((w9.setCell ⟨gb645, 0, none⟩ (.int .i64 2)).setCell ⟨gb645, 8, none⟩ (.bool a1)).setCell ⟨gb646, 0, none⟩ (.int .i64 2)).setCell ⟨gb646, 1, none⟩ (.int .i64 a0_1)).setCell ⟨gb646, 2, none⟩ (.int .i64 a0_2)).setCell ⟨gb646, 3, none⟩ (.int .i64 a0_3)).setCell ⟨gb646, 4, none⟩ (.int .i64 a0_4)).setCell ⟨gb646, 5, none⟩ (.int .i64 a0_5)).setCell ⟨gb646, 6, none⟩ (.slice A0_6 l0_6.length c0_6)).setCell ⟨gb646, 7, none⟩ (.slice A0_7 l0_7.length c0_7)).setCell ⟨gb646, 8, none⟩ (.bool a1))) ?hg ?ho ?hn ?hr ?_; (case ho => rfl); (case hg => rfl); (case hn => rfl); (case hr => first | (go_simp; done) | (go_simp; rfl)); intro w13 hw; have n0_ : Aside0 (Kd.V k38 38 w13 w.heap.size (fun k_ => ((P0_6_ k_ ∨ P0_7_ k_) ∨ w.heap.size ≤ k_) ∧ k_ ≠ gb645 ∧ k_ ≠ gb646) (.slice A0_6 l0_6.length c0_6) l0_6) := ⟨(by rw [hw]; exact (by (with_reducible repeat (first | apply Kd.V_alloc | apply Kd.V_drewN | apply Kd.V_drew)); exact Kd.V_mono (Kd.V_far (p := ⟨gb646, 8, none⟩) (Kd.V_far (p := ⟨gb646, 7, none⟩) (Kd.V_far (p := ⟨gb646, 6, none⟩) (Kd.V_far (p := ⟨gb646, 5, none⟩) (Kd.V_far (p := ⟨gb646, 4, none⟩) (Kd.V_far (p := ⟨gb646, 3, none⟩) (Kd.V_far (p := ⟨gb646, 2, none⟩) (Kd.V_far (p := ⟨gb646, 1, none⟩) (Kd.V_far (p := ⟨gb646, 0, none⟩) (Kd.V_far (p := ⟨gb645, 8, none⟩) (Kd.V_far (p := ⟨gb645, 0, none⟩) (Kd.V_mono (Kd.V_mono HO0_6.out (fun k_ hk => (⟨hk, hk.1.2⟩ : _ ∧ k_ ≠ gb645))) (fun k_ hk => (⟨hk, hk.1.2⟩ : _ ∧ k_ ≠ gb646))) (fun _ hk => hk.1.2) (.int .i64 2)) (fun _ hk => hk.1.2) (.bool a1)) (fun _ hk => hk.2) (.int .i64 2)) (fun _ hk => hk.2) (.int .i64 a0_1)) (fun _ hk => hk.2) (.int .i64 a0_2)) (fun _ hk => hk.2) (.int .i64 a0_3)) (fun _ hk => hk.2) (.int .i64 a0_4)) (fun _ hk => hk.2) (.int .i64 a0_5)) (fun _ hk => hk.2) (.slice A0_6 l0_6.length c0_6)) (fun _ hk => hk.2) (.slice A0_7 l0_7.length c0_7)) (fun _ hk => hk.2) (.bool a1)) (fun _ hk => ⟨hk.1.1.1.1, ⟨hk.1.1.1.2, hk.1.1.2⟩⟩)))⟩; have n1_ : Aside0 (Kd.V k40 40 w13 w.heap.size (fun k_ => ((P0_6_ k_ ∨ P0_7_ k_) ∨ w.heap.size ≤ k_) ∧ k_ ≠ gb645 ∧ k_ ≠ gb646) (.slice A0_7 l0_7.length c0_7) l0_7) := ⟨(by rw [hw]; exact (by (with_reducible repeat (first | apply Kd.V_alloc | apply Kd.V_drewN | apply Kd.V_drew)); exact Kd.V_mono (Kd.V_far (p := ⟨gb646, 8, none⟩) (Kd.V_far (p := ⟨gb646, 7, none⟩) (Kd.V_far (p := ⟨gb646, 6, none⟩) (Kd.V_far (p := ⟨gb646, 5, none⟩) (Kd.V_far (p := ⟨gb646, 4, none⟩) (Kd.V_far (p := ⟨gb646, 3, none⟩) (Kd.V_far (p := ⟨gb646, 2, none⟩) (Kd.V_far (p := ⟨gb646, 1, none⟩) (Kd.V_far (p := ⟨gb646, 0, none⟩) (Kd.V_far (p := ⟨gb645, 8, none⟩) (Kd.V_far (p := ⟨gb645, 0, none⟩) (Kd.V_mono (Kd.V_mono HO0_7.out (fun k_ hk => (⟨hk, hk.1.2⟩ : _ ∧ k_ ≠ gb645))) (fun k_ hk => (⟨hk, hk.1.2⟩ : _ ∧ k_ ≠ gb646))) (fun _ hk => hk.1.2) (.int .i64 2)) (fun _ hk => hk.1.2) (.bool a1)) (fun _ hk => hk.2) (.int .i64 2)) (fun _ hk => hk.2) (.int .i64 a0_1)) (fun _ hk => hk.2) (.int .i64 a0_2)) (fun _ hk => hk.2) (.int .i64 a0_3)) (fun _ hk => hk.2) (.int .i64 a0_4)) (fun _ hk => hk.2) (.int .i64 a0_5)) (fun _ hk => hk.2) (.slice A0_6 l0_6.length c0_6)) (fun _ hk => hk.2) (.slice A0_7 l0_7.length c0_7)) (fun _ hk => hk.2) (.bool a1)) (fun _ hk => ⟨hk.1.1.1.1, ⟨hk.1.1.1.2, hk.1.1.2⟩⟩)))⟩; have n2_ : Aside0 (w13.heap[gb645]? = some (.cells #[.int .i64 2, .int .i64 a0_1, .int .i64 a0_2, .int .i64 a0_3, .int .i64 a0_4, .int .i64 a0_5, .slice A0_6 l0_6.length c0_6, .slice A0_7 l0_7.length c0_7, .bool a1] 29 (0, 0))) := ⟨(by rw [hw]; exact (by (with_reducible repeat (first | refine blk_drewN ?_ _ | refine blk_drew ?_ | refine blk_alloc ?_ _)); refine blk_far ?_ NB645_646.out _; (with_reducible repeat (first | refine blk_drewN ?_ _ | refine blk_drew ?_ | refine blk_alloc ?_ _)); refine blk_far ?_ NB645_646.out _; (with_reducible repeat (first | refine blk_drewN ?_ _ | refine blk_drew ?_ | refine blk_alloc ?_ _)); refine blk_far ?_ NB645_646.out _; (with_reducible repeat (first | refine blk_drewN ?_ _ | refine blk_drew ?_ | refine blk_alloc ?_ _)); refine blk_far ?_ NB645_646.out _; (with_reducible repeat (first | refine blk_drewN ?_ _ | refine blk_drew ?_ | refine blk_alloc ?_ _)); refine blk_far ?_ NB645_646.out _; (with_reducible repeat (first | refine blk_drewN ?_ _ | refine blk_drew ?_ | refine blk_alloc ?_ _)); refine blk_far ?_ NB645_646.out _; (with_reducible repeat (first | refine blk_drewN ?_ _ | refine blk_drew ?_ | refine blk_alloc ?_ _)); refine blk_far ?_ NB645_646.out _; (with_reducible repeat (first | refine blk_drewN ?_ _ | refine blk_drew ?_ | refine blk_alloc ?_ _)); refine blk_far ?_ NB645_646.out _; (with_reducible repeat (first | refine blk_drewN ?_ _ | refine blk_drew ?_ | refine blk_alloc ?_ _)); refine blk_far ?_ NB645_646.out _; (with_reducible repeat (first | refine blk_drewN ?_ _ | refine blk_drew ?_ | refine blk_alloc ?_ _)); refine blk_put (cs := #[.int .i64 2, .int .i64 a0_1, .int .i64 a0_2, .int .i64 a0_3, .int .i64 a0_4, .int .i64 a0_5, .slice A0_6 l0_6.length c0_6, .slice A0_7 l0_7.length c0_7, .bool a0_8]) ?_ 8 _ rfl; (with_reducible repeat (first | refine blk_drewN ?_ _ | refine blk_drew ?_ | refine blk_alloc ?_ _)); refine blk_put (cs := #[.int .i64 a0_0, .int .i64 a0_1, .int .i64 a0_2, .int .i64 a0_3, .int .i64 a0_4, .int .i64 a0_5, .slice A0_6 l0_6.length c0_6, .slice A0_7 l0_7.length c0_7, .bool a0_8]) ?_ 0 _ rfl; (with_reducible repeat (first | refine blk_drewN ?_ _ | refine blk_drew ?_ | refine blk_alloc ?_ _)); exact BK645.out))⟩; have n3_ : Aside0 (w13.heap[gb646]? = some (.cells #[.int .i64 2, .int .i64 a0_1, .int .i64 a0_2, .int .i64 a0_3, .int .i64 a0_4, .int .i64 a0_5, .slice A0_6 l0_6.length c0_6, .slice A0_7 l0_7.length c0_7, .bool a1] 29 (0, 0))) := ⟨(by rw [hw]; exact (by (with_reducible repeat (first | refine blk_drewN ?_ _ | refine blk_drew ?_ | refine blk_alloc ?_ _)); refine blk_put (cs := #[.int .i64 2, .int .i64 a0_1, .int .i64 a0_2, .int .i64 a0_3, .int .i64 a0_4, .int .i64 a0_5, .slice A0_6 l0_6.length c0_6, .slice A0_7 l0_7.length c0_7, .bool false]) ?_ 8 _ rfl; (with_reducible repeat (first | refine blk_drewN ?_ _ | refine blk_drew ?_ | refine blk_alloc ?_ _)); refine blk_put (cs := #[.int .i64 2, .int .i64 a0_1, .int .i64 a0_2, .int .i64 a0_3, .int .i64 a0_4, .int .i64 a0_5, .slice A0_6 l0_6.length c0_6, .slice none 0 0, .bool false]) ?_ 7 _ rfl; (with_reducible repeat (first | refine blk_drewN ?_ _ | refine blk_drew ?_ | refine blk_alloc ?_ _)); refine blk_put (cs := #[.int .i64 2, .int .i64 a0_1, .int .i64 a0_2, .int .i64 a0_3, .int .i64 a0_4, .int .i64 a0_5, .slice none 0 0, .slice none 0 0, .bool false]) ?_ 6 _ rfl; (with_reducible repeat (first | refine blk_drewN ?_ _ | refine blk_drew ?_ | refine blk_alloc ?_ _)); refine blk_put (cs := #[.int .i64 2, .int .i64 a0_1, .int .i64 a0_2, .int .i64 a0_3, .int .i64 a0_4, .int .i64 0, .slice none 0 0, .slice none 0 0, .bool false]) ?_ 5 _ rfl; (with_reducible repeat (first | refine blk_drewN ?_ _ | refine blk_drew ?_ | refine blk_alloc ?_ _)); refine blk_put (cs := #[.int .i64 2, .int .i64 a0_1, .int .i64 a0_2, .int .i64 a0_3, .int .i64 0, .int .i64 0, .slice none 0 0, .slice none 0 0, .bool false]) ?_ 4 _ rfl; (with_reducible repeat (first | refine blk_drewN ?_ _ | refine blk_drew ?_ | refine blk_alloc ?_ _)); refine blk_put (cs := #[.int .i64 2, .int .i64 a0_1, .int .i64 a0_2, .int .i64 0, .int .i64 0, .int .i64 0, .slice none 0 0, .slice none 0 0, .bool false]) ?_ 3 _ rfl; (with_reducible repeat (first | refine blk_drewN ?_ _ | refine blk_drew ?_ | refine blk_alloc ?_ _)); refine blk_put (cs := #[.int .i64 2, .int .i64 a0_1, .int .i64 0, .int .i64 0, .int .i64 0, .int .i64 0, .slice none 0 0, .slice none 0 0, .bool false]) ?_ 2 _ rfl; (with_reducible repeat (first | refine blk_drewN ?_ _ | refine blk_drew ?_ | refine blk_alloc ?_ _)); refine blk_put (cs := #[.int .i64 2, .int .i64 0, .int .i64 0, .int .i64 0, .int .i64 0, .int .i64 0, .slice none 0 0, .slice none 0 0, .bool false]) ?_ 1 _ rfl; (with_reducible repeat (first | refine blk_drewN ?_ _ | refine blk_drew ?_ | refine blk_alloc ?_ _)); refine blk_put (cs := #[.int .i64 0, .int .i64 0, .int .i64 0, .int .i64 0, .int .i64 0, .int .i64 0, .slice none 0 0, .slice none 0 0, .bool false]) ?_ 0 _ rfl; (with_reducible repeat (first | refine blk_drewN ?_ _ | refine blk_drew ?_ | refine blk_alloc ?_ _)); refine blk_far ?_ NB646_645.out _; (with_reducible repeat (first | refine blk_drewN ?_ _ | refine blk_drew ?_ | refine blk_alloc ?_ _)); refine blk_far ?_ NB646_645.out _; (with_reducible repeat (first | refine blk_drewN ?_ _ | refine blk_drew ?_ | refine blk_alloc ?_ _)); exact BK646.out))⟩; have n4_ : Aside0 (Below w.heap.size w w13) := ⟨(by rw [hw]; exact lbt_)⟩; clear hw HO0_6 HO0_7 BK645 BK646 HB; have HO0_6 := n0_; have HO0_7 := n1_; have BK645 := n2_; have BK646 := n3_; have HB := n4_; clear n0_ n1_ n2_ n3_ n4_))
     refine bodyPost_ret (results_ct rfl _ _ gb646 29 #[.int .i64 2, .int .i64 a0_1, .int .i64 a0_2, .int .i64 a0_3, .int .i64 a0_4, .int .i64 a0_5, .slice A0_6 l0_6.length c0_6, .slice A0_7 l0_7.length c0_7, .bool a1] (0, 0) _ rfl (kb_ BK646.out) Try.underlying29 rfl (by kernel_rfl)) rfl ?_
     exact ⟨_, _, by first | rfl | (simp [errW_none, errW_some] <;> rfl) | (simp [*, errW_none, errW_some] <;> rfl), by (with_reducible repeat (first | apply Kd.V_alloc | apply Kd.V_drewN | apply Kd.V_drew)); exact Kd.V_mono HO0_6.out (fun _ hk => hk.1), by (with_reducible repeat (first | apply Kd.V_alloc | apply Kd.V_drewN | apply Kd.V_drew)); exact Kd.V_mono HO0_7.out (fun _ hk => hk.1), by repeat (first | (with_reducible first | exact HB.out | apply below_alloc | apply pw_below_drewN | apply below_drew1 | refine below_set ?_ GE645.out | refine below_set ?_ GE646.out) | exact HB.out)⟩
   · rw [if_neg c5] at H
     have c5b0 : (a0_0 == 1) = false := beq_eq_false_iff_ne.mpr c5
     have c5b1 : (a0_0 != 1) = true := bne_iff_ne.mpr c5
     simp only [Option.some.injEq, Prod.mk.injEq] at H
     obtain ⟨rfl, rfl, rfl, rfl, rfl, rfl, rfl, rfl, rfl, rfl⟩ := H
     go_enter Try.func22, Try.ntmps22
     go_wp2_with (first | ((with_reducible refine gate_dst (N := 2) rfl ?_); refine bx_ 2 29 #[.int .i64 a0_0, .int .i64 a0_1, .int .i64 a0_2, .int .i64 a0_3, .int .i64 a0_4, .int .i64 a0_5, .slice A0_6 l0_6.length c0_6, .slice A0_7 l0_7.length c0_7, .bool a0_8] ?_; intro gb645 hg w14 hbox hb; have BK645 := Aside0.mk hbox; have GE645 := ge_ HB hg; replace HO0_6 := ve_ HO0_6 hg hb; replace HO0_7 := ve_ HO0_7 hg hb; replace HB := hs_ HB hb; clear hb hbox hg) | ((with_reducible refine gate_dst (N := 4) rfl ?_); refine bx_ 4 29 #[.int .i64 0, .int .i64 0, .int .i64 0, .int .i64 0, .int .i64 0, .int .i64 0, .slice none 0 0, .slice none 0 0, .bool false] ?_; intro gb646 hg w15 hbox hb; have BK646 := Aside0.mk hbox; have GE646 := ge_ HB hg; have NB645_646 := na_ hg BK645; have NB646_645 := nb_ hg BK645; replace HO0_6 := ve_ HO0_6 hg hb; replace HO0_7 := ve_ HO0_7 hg hb; replace BK645 := bb_ BK645 hb; replace HB := hs_ HB hb; clear hb hbox hg) | ((with_reducible refine gate_dst (N := 6) rfl ?_); (try (refine gate_guard (by rfl) ?_; dsimp only)); refine bl_ 6 BK645.out ⟨_, Try.underlying29, rfl⟩ ?_) | ((with_reducible refine gate_callee (f := 16) rfl ?_); refine gl_ (some 7) Try.func16 #[.agg #[.int .i64 a0_0, .int .i64 a0_1, .int .i64 a0_2, .int .i64 a0_3, .int .i64 a0_4, .int .i64 a0_5, .slice A0_6 l0_6.length c0_6, .slice A0_7 l0_7.length c0_7, .bool a0_8]] ?_; (with_reducible refine (althingref05_Right.calls k a0_0 a0_1 a0_2 a0_3 a0_4 a0_5 _ _ l0_6 _ _ l0_7 a0_8 true _ ?side1 ?side2 ?side3 ?side4 A3.out).mono ?_); (case side1 => repeat (first | exact (Kd.V_reads' HO0_6.out).2.2 | (with_reducible refine Kd.C_alloc ?_ _) | (with_reducible refine Kd.C_drewN ?_ _) | (with_reducible refine Kd.C_drew ?_))); (case side2 => exact (Kd.V_reads' HO0_6.out).2.1); (case side3 => repeat (first | exact (Kd.V_reads' HO0_7.out).2.2 | (with_reducible refine Kd.C_alloc ?_ _) | (with_reducible refine Kd.C_drewN ?_ _) | (with_reducible refine Kd.C_drew ?_))); (case side4 => exact (Kd.V_reads' HO0_7.out).2.1); rintro e w17 ⟨rfl, hb⟩; refine ⟨_, rfl, ?_⟩; replace HO0_6 := vb_ HO0_6 hb; replace HO0_7 := vb_ HO0_7 hb; replace BK645 := bb_ BK645 hb; replace BK646 := bb_ BK646 hb; replace HB := hs_ HB hb; (try clear hb); (try clear hk); refine ne2_ NB645_646 fun hnb18 hnc18 => ?_; refine blk9_ BK645.out fun hcz19_0 hcz19_1 hcz19_2 hcz19_3 hcz19_4 hcz19_5 hcz19_6 hcz19_7 hcz19_8 hfz19_0 hfz19_1 hfz19_2 hfz19_3 hfz19_4 hfz19_5 hfz19_6 hfz19_7 hfz19_8 => ?_; refine blk9_ BK646.out fun hcz20_0 hcz20_1 hcz20_2 hcz20_3 hcz20_4 hcz20_5 hcz20_6 hcz20_7 hcz20_8 hfz20_0 hfz20_1 hfz20_2 hfz20_3 hfz20_4 hfz20_5 hfz20_6 hfz20_7 hfz20_8 => ?_) | ((with_reducible refine gate_store (t := 29) (p := 4) rfl ?_); refine store_event (t := 29) (p := 4) (v := ?vo_w21) (w1 := (((((((((w17.setCell ⟨gb646, 0, none⟩ (.int .i64 0)).setCell ⟨gb646, 1, none⟩ (.int .i64 0)).setCell ⟨gb646, 2, none⟩ (.int .i64 0)).setCell ⟨gb646, 3, none⟩ (.int .i64 0)).setCell ⟨gb646, 4, none⟩ (.int .i64 0)).setCell ⟨gb646, 5, none⟩ (.int .i64 0)).setCell ⟨gb646, 6, none⟩ (.slice none 0 0)).setCell ⟨gb646, 7, none⟩ (.slice none 0 0)).setCell ⟨gb646, 8, none⟩ (.bool false))) ?hg ?ho ?hn ?hr ?_; (case ho => rfl); (case hg => rfl); (case hn => rfl); (case hr => first | (go_simp; done) | (go_simp; rfl)); intro w21 hw; have n0_ : Aside0 (Kd.V k38 38 w21 w.heap.size (fun k_ => ((P0_6_ k_ ∨ P0_7_ k_) ∨ w.heap.size ≤ k_) ∧ k_ ≠ gb645 ∧ k_ ≠ gb646) (.slice A0_6 l0_6.length c0_6) l0_6) := ⟨(by rw [hw]; exact (by (with_reducible repeat (first | apply Kd.V_alloc | apply Kd.V_drewN | apply Kd.V_drew)); exact Kd.V_mono (Kd.V_far (p := ⟨gb646, 8, none⟩) (Kd.V_far (p := ⟨gb646, 7, none⟩) (Kd.V_far (p := ⟨gb646, 6, none⟩) (Kd.V_far (p := ⟨gb646, 5, none⟩) (Kd.V_far (p := ⟨gb646, 4, none⟩) (Kd.V_far (p := ⟨gb646, 3, none⟩) (Kd.V_far (p := ⟨gb646, 2, none⟩) (Kd.V_far (p := ⟨gb646, 1, none⟩) (Kd.V_far (p := ⟨gb646, 0, none⟩) (Kd.V_mono HO0_6.out (fun k_ hk => (⟨hk, hk.2⟩ : _ ∧ k_ ≠ gb646))) (fun _ hk => hk.2) (.int .i64 0)) (fun _ hk => hk.2) (.int .i64 0)) (fun _ hk => hk.2) (.int .i64 0)) (fun _ hk => hk.2) (.int .i64 0)) (fun _ hk => hk.2) (.int .i64 0)) (fun _ hk => hk.2) (.int .i64 0)) (fun _ hk => hk.2) (.slice none 0 0)) (fun _ hk => hk.2) (.slice none 0 0)) (fun _ hk => hk.2) (.bool false)) (fun _ hk => ⟨hk.1.1.1, ⟨hk.1.1.2, hk.1.2⟩⟩)))⟩; have n1_ : Aside0 (Kd.V k40 40 w21 w.heap.size (fun k_ => ((P0_6_ k_ ∨ P0_7_ k_) ∨ w.heap.size ≤ k_) ∧ k_ ≠ gb645 ∧ k_ ≠ gb646) (.slice A0_7 l0_7.length c0_7) l0_7) := ⟨(by rw [hw]; exact (by (with_reducible repeat (first | apply Kd.V_alloc | apply Kd.V_drewN | apply Kd.V_drew)); exact Kd.V_mono (Kd.V_far (p := ⟨gb646, 8, none⟩) (Kd.V_far (p := ⟨gb646, 7, none⟩) (Kd.V_far (p := ⟨gb646, 6, none⟩) (Kd.V_far (p := ⟨gb646, 5, none⟩) (Kd.V_far (p := ⟨gb646, 4, none⟩) (Kd.V_far (p := ⟨gb646, 3, none⟩) (Kd.V_far (p := ⟨gb646, 2, none⟩) (Kd.V_far (p := ⟨gb646, 1, none⟩) (Kd.V_far (p := ⟨gb646, 0, none⟩) (Kd.V_mono HO0_7.out (fun k_ hk => (⟨hk, hk.2⟩ : _ ∧ k_ ≠ gb646))) (fun _ hk => hk.2) (.int .i64 0)) (fun _ hk => hk.2) (.int .i64 0)) (fun _ hk => hk.2) (.int .i64 0)) (fun _ hk => hk.2) (.int .i64 0)) (fun _ hk => hk.2) (.int .i64 0)) (fun _ hk => hk.2) (.int .i64 0)) (fun _ hk => hk.2) (.slice none 0 0)) (fun _ hk => hk.2) (.slice none 0 0)) (fun _ hk => hk.2) (.bool false)) (fun _ hk => ⟨hk.1.1.1, ⟨hk.1.1.2, hk.1.2⟩⟩)))⟩; have n2_ : Aside0 (w21.heap[gb645]? = some (.cells #[.int .i64 a0_0, .int .i64 a0_1, .int .i64 a0_2, .int .i64 a0_3, .int .i64 a0_4, .int .i64 a0_5, .slice A0_6 l0_6.length c0_6, .slice A0_7 l0_7.length c0_7, .bool a0_8] 29 (0, 0))) := ⟨(by rw [hw]; exact (by (with_reducible repeat (first | refine blk_drewN ?_ _ | refine blk_drew ?_ | refine blk_alloc ?_ _)); refine blk_far ?_ NB645_646.out _; (with_reducible repeat (first | refine blk_drewN ?_ _ | refine blk_drew ?_ | refine blk_alloc ?_ _)); refine blk_far ?_ NB645_646.out _; (with_reducible repeat (first | refine blk_drewN ?_ _ | refine blk_drew ?_ | refine blk_alloc ?_ _)); refine blk_far ?_ NB645_646.out _; (with_reducible repeat (first | refine blk_drewN ?_ _ | refine blk_drew ?_ | refine blk_alloc ?_ _)); refine blk_far ?_ NB645_646.out _; (with_reducible repeat (first | refine blk_drewN ?_ _ | refine blk_drew ?_ | refine blk_alloc ?_ _)); refine blk_far ?_ NB645_646.out _; (with_reducible repeat (first | refine blk_drewN ?_ _ | refine blk_drew ?_ | refine blk_alloc ?_ _)); refine blk_far ?_ NB645_646.out _; (with_reducible repeat (first | refine blk_drewN ?_ _ | refine blk_drew ?_ | refine blk_alloc ?_ _)); refine blk_far ?_ NB645_646.out _; (with_reducible repeat (first | refine blk_drewN ?_ _ | refine blk_drew ?_ | refine blk_alloc ?_ _)); refine blk_far ?_ NB645_646.out _; (with_reducible repeat (first | refine blk_drewN ?_ _ | refine blk_drew ?_ | refine blk_alloc ?_ _)); refine blk_far ?_ NB645_646.out _; (with_reducible repeat (first | refine blk_drewN ?_ _ | refine blk_drew ?_ | refine blk_alloc ?_ _)); exact BK645.out))⟩; have n3_ : Aside0 (w21.heap[gb646]? = some (.cells #[.int .i64 0, .int .i64 0, .int .i64 0, .int .i64 0, .int .i64 0, .int .i64 0, .slice none 0 0, .slice none 0 0, .bool false] 29 (0, 0))) := ⟨(by rw [hw]; exact (by (with_reducible repeat (first | refine blk_drewN ?_ _ | refine blk_drew ?_ | refine blk_alloc ?_ _)); refine blk_put (cs := #[.int .i64 0, .int .i64 0, .int .i64 0, .int .i64 0, .int .i64 0, .int .i64 0, .slice none 0 0, .slice none 0 0, .bool false]) ?_ 8 _ rfl; (with_reducible repeat (first | refine blk_drewN ?_ _ | refine blk_drew ?_ | refine blk_alloc ?_ _)); refine blk_put (cs := #[.int .i64 0, .int .i64 0, .int .i64 0, .int .i64 0, .int .i64 0, .int .i64 0, .slice none 0 0, .slice none 0 0, .bool false]) ?_ 7 _ rfl; (with_reducible repeat (first | refine blk_drewN ?_ _ | refine blk_drew ?_ | refine blk_alloc ?_ _)); refine blk_put (cs := #[.int .i64 0, .int .i64 0, .int .i64 0, .int .i64 0, .int .i64 0, .int .i64 0, .slice none 0 0, .slice none 0 0, .bool false]) ?_ 6 _ rfl; (with_reducible repeat (first | refine blk_drewN ?_ _ | refine blk_drew ?_ | refine blk_alloc ?_ _)); refine blk_put (cs := #[.int .i64 0, .int .i64 0, .int .i64 0, .int .i64 0, .int .i64 0, .int .i64 0, .slice none 0 0, .slice none 0 0, .bool false]) ?_ 5 _ rfl; (with_reducible repeat (first | refine blk_drewN ?_ _ | refine blk_drew ?_ | refine blk_alloc ?_ _)); refine blk_put (cs := #[.int .i64 0, .int .i64 0, .int .i64 0, .int .i64 0, .int .i64 0, .int .i64 0, .slice none 0 0, .slice none 0 0, .bool false]) ?_ 4 _ rfl; (with_reducible repeat (first | refine blk_drewN ?_ _ | refine blk_drew ?_ | refine blk_alloc ?_ _)); refine blk_put (cs := #[.int .i64 0, .int .i64 0, .int .i64 0, .int .i64 0, .int .i64 0, .int .i64 0, .slice none 0 0, .slice none 0 0, .bool false]) ?_ 3 _ rfl; (with_reducible repeat (first | refine blk_drewN ?_ _ | refine blk_drew ?_ | refine blk_alloc ?_ _)); refine blk_put (cs := #[.int .i64 0, .int .i64 0, .int .i64 0, .int .i64 0, .int .i64 0, .int .i64 0, .slice none 0 0, .slice none 0 0, .bool false]) ?_ 2 _ rfl; (with_reducible repeat (first | refine blk_drewN ?_ _ | refine blk_drew ?_ | refine blk_alloc ?_ _)); refine blk_put (cs := #[.int .i64 0, .int .i64 0, .int .i64 0, .int .i64 0, .int .i64 0, .int .i64 0, .slice none 0 0, .slice none 0 0, .bool false]) ?_ 1 _ rfl; (with_reducible repeat (first | refine blk_drewN ?_ _ | refine blk_drew ?_ | refine blk_alloc ?_ _)); refine blk_put (cs := #[.int .i64 0, .int .i64 0, .int .i64 0, .int .i64 0, .int .i64 0, .int .i64 0, .slice none 0 0, .slice none 0 0, .bool false]) ?_ 0 _ rfl; (with_reducible repeat (first | refine blk_drewN ?_ _ | refine blk_drew ?_ | refine blk_alloc ?_ _)); exact BK646.out))⟩; have n4_ : Aside0 (Below w.heap.size w w21) := ⟨(by rw [hw]; exact lbt_)⟩; clear hw HO0_6 HO0_7 BK645 BK646 HB; have HO0_6 := n0_; have HO0_7 := n1_; have BK645 := n2_; have BK646 := n3_; have HB := n4_; clear n0_ n1_ n2_ n3_ n4_))
     refine bodyPost_ret (results_ct rfl _ _ gb646 29 #[.int .i64 0, .int .i64 0, .int .i64 0, .int .i64 0, .int .i64 0, .int .i64 0, .slice none 0 0, .slice none 0 0, .bool false] (0, 0) _ rfl (kb_ BK646.out) Try.underlying29 rfl (by kernel_rfl)) rfl ?_
     exact ⟨_, _, by first | rfl | (simp [errW_none, errW_some] <;> rfl) | (simp [*, errW_none, errW_some] <;> rfl), (Kd.V_nil _ _ _ _ _), (Kd.V_nil _ _ _ _ _), by repeat (first | (with_reducible first | exact HB.out | apply below_alloc | apply pw_below_drewN | apply below_drew1 | refine below_set ?_ GE645.out | refine below_set ?_ GE646.out) | exact HB.out)⟩
 · replace c4 := Bool.eq_false_iff.mpr c4
   subst c4
   rw [if_neg (show ¬ (false = true) by decide)] at H
   simp only [Option.some.injEq, Prod.mk.injEq] at H
   obtain ⟨rfl, rfl, rfl, rfl, rfl, rfl, rfl, rfl, rfl, rfl⟩ := H
   go_enter Try.func22, Try.ntmps22
   go_wp2_with (first | ((with_reducible refine gate_dst (N := 2) rfl ?_); refine bx_ 2 29 #[.int .i64 a0_0, .int .i64 a0_1, .int .i64 a0_2, .int .i64 a0_3, .int .i64 a0_4, .int .i64 a0_5, .slice A0_6 l0_6.length c0_6, .slice A0_7 l0_7.length c0_7, .bool a0_8] ?_; intro gb645 hg w22 hbox hb; have BK645 := Aside0.mk hbox; have GE645 := ge_ HB hg; replace HO0_6 := ve_ HO0_6 hg hb; replace HO0_7 := ve_ HO0_7 hg hb; replace HB := hs_ HB hb; clear hb hbox hg) | ((with_reducible refine gate_dst (N := 4) rfl ?_); refine bx_ 4 29 #[.int .i64 0, .int .i64 0, .int .i64 0, .int .i64 0, .int .i64 0, .int .i64 0, .slice none 0 0, .slice none 0 0, .bool false] ?_; intro gb646 hg w23 hbox hb; have BK646 := Aside0.mk hbox; have GE646 := ge_ HB hg; have NB645_646 := na_ hg BK645; have NB646_645 := nb_ hg BK645; replace HO0_6 := ve_ HO0_6 hg hb; replace HO0_7 := ve_ HO0_7 hg hb; replace BK645 := bb_ BK645 hb; replace HB := hs_ HB hb; clear hb hbox hg) | ((with_reducible refine gate_dst (N := 6) rfl ?_); (try (refine gate_guard (by rfl) ?_; dsimp only)); refine bl_ 6 BK645.out ⟨_, Try.underlying29, rfl⟩ ?_) | ((with_reducible refine gate_callee (f := 16) rfl ?_); refine gl_ (some 7) Try.func16 #[.agg #[.int .i64 a0_0, .int .i64 a0_1, .int .i64 a0_2, .int .i64 a0_3, .int .i64 a0_4, .int .i64 a0_5, .slice A0_6 l0_6.length c0_6, .slice A0_7 l0_7.length c0_7, .bool a0_8]] ?_; (with_reducible refine (althingref05_Right.calls k a0_0 a0_1 a0_2 a0_3 a0_4 a0_5 _ _ l0_6 _ _ l0_7 a0_8 false _ ?side1 ?side2 ?side3 ?side4 A3.out).mono ?_); (case side1 => repeat (first | exact (Kd.V_reads' HO0_6.out).2.2 | (with_reducible refine Kd.C_alloc ?_ _) | (with_reducible refine Kd.C_drewN ?_ _) | (with_reducible refine Kd.C_drew ?_))); (case side2 => exact (Kd.V_reads' HO0_6.out).2.1); (case side3 => repeat (first | exact (Kd.V_reads' HO0_7.out).2.2 | (with_reducible refine Kd.C_alloc ?_ _) | (with_reducible refine Kd.C_drewN ?_ _) | (with_reducible refine Kd.C_drew ?_))); (case side4 => exact (Kd.V_reads' HO0_7.out).2.1); rintro e w25 ⟨rfl, hb⟩; refine ⟨_, rfl, ?_⟩; replace HO0_6 := vb_ HO0_6 hb; replace HO0_7 := vb_ HO0_7 hb; replace BK645 := bb_ BK645 hb; replace BK646 := bb_ BK646 hb; replace HB := hs_ HB hb; (try clear hb); (try clear hk); refine ne2_ NB646_645 fun hnb26 hnc26 => ?_; refine blk9_ BK646.out fun hcz27_0 hcz27_1 hcz27_2 hcz27_3 hcz27_4 hcz27_5 hcz27_6 hcz27_7 hcz27_8 hfz27_0 hfz27_1 hfz27_2 hfz27_3 hfz27_4 hfz27_5 hfz27_6 hfz27_7 hfz27_8 => ?_) | ((with_reducible refine gate_store (t := 29) (p := 4) rfl ?_); refine store_event (t := 29) (p := 4) (v := ?vo_w28) (w1 := (((((((((w25.setCell ⟨gb646, 0, none⟩ (.int .i64 0)).setCell ⟨gb646, 1, none⟩ (.int .i64 0)).setCell ⟨gb646, 2, none⟩ (.int .i64 0)).setCell ⟨gb646, 3, none⟩ (.int .i64 0)).setCell ⟨gb646, 4, none⟩ (.int .i64 0)).setCell ⟨gb646, 5, none⟩ (.int .i64 0)).setCell ⟨gb646, 6, none⟩ (.slice none 0 0)).setCell ⟨gb646, 7, none⟩ (.slice none 0 0)).setCell ⟨gb646, 8, none⟩ (.bool false))) ?hg ?ho ?hn ?hr ?_; (case ho => rfl); (case hg => rfl); (case hn => rfl); (case hr => first | (go_simp; done) | (go_simp; rfl)); intro w28 hw; have n0_ : Aside0 (Kd.V k38 38 w28 w.heap.size (fun k_ => ((P0_6_ k_ ∨ P0_7_ k_) ∨ w.heap.size ≤ k_) ∧ k_ ≠ gb645 ∧ k_ ≠ gb646) (.slice A0_6 l0_6.length c0_6) l0_6) := ⟨(by rw [hw]; exact (by (with_reducible repeat (first | apply Kd.V_alloc | apply Kd.V_drewN | apply Kd.V_drew)); exact Kd.V_mono (Kd.V_far (p := ⟨gb646, 8, none⟩) (Kd.V_far (p := ⟨gb646, 7, none⟩) (Kd.V_far (p := ⟨gb646, 6, none⟩) (Kd.V_far (p := ⟨gb646, 5, none⟩) (Kd.V_far (p := ⟨gb646, 4, none⟩) (Kd.V_far (p := ⟨gb646, 3, none⟩) (Kd.V_far (p := ⟨gb646, 2, none⟩) (Kd.V_far (p := ⟨gb646, 1, none⟩) (Kd.V_far (p := ⟨gb646, 0, none⟩) (Kd.V_mono HO0_6.out (fun k_ hk => (⟨hk, hk.2⟩ : _ ∧ k_ ≠ gb646))) (fun _ hk => hk.2) (.int .i64 0)) (fun _ hk => hk.2) (.int .i64 0)) (fun _ hk => hk.2) (.int .i64 0)) (fun _ hk => hk.2) (.int .i64 0)) (fun _ hk => hk.2) (.int .i64 0)) (fun _ hk => hk.2) (.int .i64 0)) (fun _ hk => hk.2) (.slice none 0 0)) (fun _ hk => hk.2) (.slice none 0 0)) (fun _ hk => hk.2) (.bool false)) (fun _ hk => ⟨hk.1.1.1, ⟨hk.1.1.2, hk.1.2⟩⟩)))⟩; have n1_ : Aside0 (Kd.V k40 40 w28 w.heap.size (fun k_ => ((P0_6_ k_ ∨ P0_7_ k_) ∨ w.heap.size ≤ k_) ∧ k_ ≠ gb645 ∧ k_ ≠ gb646) (.slice A0_7 l0_7.length c0_7) l0_7) := ⟨(by rw [hw]; exact (by (with_reducible repeat (first | apply Kd.V_alloc | apply Kd.V_drewN | apply Kd.V_drew)); exact Kd.V_mono (Kd.V_far (p := ⟨gb646, 8, none⟩) (Kd.V_far (p := ⟨gb646, 7, none⟩) (Kd.V_far (p := ⟨gb646, 6, none⟩) (Kd.V_far (p := ⟨gb646, 5, none⟩) (Kd.V_far (p := ⟨gb646, 4, none⟩) (Kd.V_far (p := ⟨gb646, 3, none⟩) (Kd.V_far (p := ⟨gb646, 2, none⟩) (Kd.V_far (p := ⟨gb646, 1, none⟩) (Kd.V_far (p := ⟨gb646, 0, none⟩) (Kd.V_mono HO0_7.out (fun k_ hk => (⟨hk, hk.2⟩ : _ ∧ k_ ≠ gb646))) (fun _ hk => hk.2) (.int .i64 0)) (fun _ hk => hk.2) (.int .i64 0)) (fun _ hk => hk.2) (.int .i64 0)) (fun _ hk => hk.2) (.int .i64 0)) (fun _ hk => hk.2) (.int .i64 0)) (fun _ hk => hk.2) (.int .i64 0)) (fun _ hk => hk.2) (.slice none 0 0)) (fun _ hk => hk.2) (.slice none 0 0)) (fun _ hk => hk.2) (.bool false)) (fun _ hk => ⟨hk.1.1.1, ⟨hk.1.1.2, hk.1.2⟩⟩)))⟩; have n2_ : Aside0 (w28.heap[gb645]? = some (.cells #[.int .i64 a0_0, .int .i64 a0_1, .int .i64 a0_2, .int .i64 a0_3, .int .i64 a0_4, .int .i64 a0_5, .slice A0_6 l0_6.length c0_6, .slice A0_7 l0_7.length c0_7, .bool a0_8] 29 (0, 0))) := ⟨(by rw [hw]; exact (by (with_reducible repeat (first | refine blk_drewN ?_ _ | refine blk_drew ?_ | refine blk_alloc ?_ _)); refine blk_far ?_ NB645_646.out _; (with_reducible repeat (first | refine blk_drewN ?_ _ | refine blk_drew ?_ | refine blk_alloc ?_ _)); refine blk_far ?_ NB645_646.out _; (with_reducible repeat (first | refine blk_drewN ?_ _ | refine blk_drew ?_ | refine blk_alloc ?_ _)); refine blk_far ?_ NB645_646.out _; (with_reducible repeat (first | refine blk_drewN ?_ _ | refine blk_drew ?_ | refine blk_alloc ?_ _)); refine blk_far ?_ NB645_646.out _; (with_reducible repeat (first | refine blk_drewN ?_ _ | refine blk_drew ?_ | refine blk_alloc ?_ _)); refine blk_far ?_ NB645_646.out _; (with_reducible repeat (first | refine blk_drewN ?_ _ | refine blk_drew ?_ | refine blk_alloc ?_ _)); refine blk_far ?_ NB645_646.out _; (with_reducible repeat (first | refine blk_drewN ?_ _ | refine blk_drew ?_ | refine blk_alloc ?_ _)); refine blk_far ?_ NB645_646.out _; (with_reducible repeat (first | refine blk_drewN ?_ _ | refine blk_drew ?_ | refine blk_alloc ?_ _)); refine blk_far ?_ NB645_646.out _; (with_reducible repeat (first | refine blk_drewN ?_ _ | refine blk_drew ?_ | refine blk_alloc ?_ _)); refine blk_far ?_ NB645_646.out _; (with_reducible repeat (first | refine blk_drewN ?_ _ | refine blk_drew ?_ | refine blk_alloc ?_ _)); exact BK645.out))⟩; have n3_ : Aside0 (w28.heap[gb646]? = some (.cells #[.int .i64 0, .int .i64 0, .int .i64 0, .int .i64 0, .int .i64 0, .int .i64 0, .slice none 0 0, .slice none 0 0, .bool false] 29 (0, 0))) := ⟨(by rw [hw]; exact (by (with_reducible repeat (first | refine blk_drewN ?_ _ | refine blk_drew ?_ | refine blk_alloc ?_ _)); refine blk_put (cs := #[.int .i64 0, .int .i64 0, .int .i64 0, .int .i64 0, .int .i64 0, .int .i64 0, .slice none 0 0, .slice none 0 0, .bool false]) ?_ 8 _ rfl; (with_reducible repeat (first | refine blk_drewN ?_ _ | refine blk_drew ?_ | refine blk_alloc ?_ _)); refine blk_put (cs := #[.int .i64 0, .int .i64 0, .int .i64 0, .int .i64 0, .int .i64 0, .int .i64 0, .slice none 0 0, .slice none 0 0, .bool false]) ?_ 7 _ rfl; (with_reducible repeat (first | refine blk_drewN ?_ _ | refine blk_drew ?_ | refine blk_alloc ?_ _)); refine blk_put (cs := #[.int .i64 0, .int .i64 0, .int .i64 0, .int .i64 0, .int .i64 0, .int .i64 0, .slice none 0 0, .slice none 0 0, .bool false]) ?_ 6 _ rfl; (with_reducible repeat (first | refine blk_drewN ?_ _ | refine blk_drew ?_ | refine blk_alloc ?_ _)); refine blk_put (cs := #[.int .i64 0, .int .i64 0, .int .i64 0, .int .i64 0, .int .i64 0, .int .i64 0, .slice none 0 0, .slice none 0 0, .bool false]) ?_ 5 _ rfl; (with_reducible repeat (first | refine blk_drewN ?_ _ | refine blk_drew ?_ | refine blk_alloc ?_ _)); refine blk_put (cs := #[.int .i64 0, .int .i64 0, .int .i64 0, .int .i64 0, .int .i64 0, .int .i64 0, .slice none 0 0, .slice none 0 0, .bool false]) ?_ 4 _ rfl; (with_reducible repeat (first | refine blk_drewN ?_ _ | refine blk_drew ?_ | refine blk_alloc ?_ _)); refine blk_put (cs := #[.int .i64 0, .int .i64 0, .int .i64 0, .int .i64 0, .int .i64 0, .int .i64 0, .slice none 0 0, .slice none 0 0, .bool false]) ?_ 3 _ rfl; (with_reducible repeat (first | refine blk_drewN ?_ _ | refine blk_drew ?_ | refine blk_alloc ?_ _)); refine blk_put (cs := #[.int .i64 0, .int .i64 0, .int .i64 0, .int .i64 0, .int .i64 0, .int .i64 0, .slice none 0 0, .slice none 0 0, .bool false]) ?_ 2 _ rfl; (with_reducible repeat (first | refine blk_drewN ?_ _ | refine blk_drew ?_ | refine blk_alloc ?_ _)); refine blk_put (cs := #[.int .i64 0, .int .i64 0, .int .i64 0, .int .i64 0, .int .i64 0, .int .i64 0, .slice none 0 0, .slice none 0 0, .bool false]) ?_ 1 _ rfl; (with_reducible repeat (first | refine blk_drewN ?_ _ | refine blk_drew ?_ | refine blk_alloc ?_ _)); refine blk_put (cs := #[.int .i64 0, .int .i64 0, .int .i64 0, .int .i64 0, .int .i64 0, .int .i64 0, .slice none 0 0, .slice none 0 0, .bool false]) ?_ 0 _ rfl; (with_reducible repeat (first | refine blk_drewN ?_ _ | refine blk_drew ?_ | refine blk_alloc ?_ _)); exact BK646.out))⟩; have n4_ : Aside0 (Below w.heap.size w w28) := ⟨(by rw [hw]; exact lbt_)⟩; clear hw HO0_6 HO0_7 BK645 BK646 HB; have HO0_6 := n0_; have HO0_7 := n1_; have BK645 := n2_; have BK646 := n3_; have HB := n4_; clear n0_ n1_ n2_ n3_ n4_))
   refine bodyPost_ret (results_ct rfl _ _ gb646 29 #[.int .i64 0, .int .i64 0, .int .i64 0, .int .i64 0, .int .i64 0, .int .i64 0, .slice none 0 0, .slice none 0 0, .bool false] (0, 0) _ rfl (kb_ BK646.out) Try.underlying29 rfl (by kernel_rfl)) rfl ?_
   exact ⟨_, _, by first | rfl | (simp [errW_none, errW_some] <;> rfl) | (simp [*, errW_none, errW_some] <;> rfl), (Kd.V_nil _ _ _ _ _), (Kd.V_nil _ _ _ _ _), by repeat (first | (with_reducible first | exact HB.out | apply below_alloc | apply pw_below_drewN | apply below_drew1 | refine below_set ?_ GE645.out | refine below_set ?_ GE646.out) | exact HB.out)⟩
end Go.Proofs.Ytnjeeedndnfglaa.X
end
section
namespace Go.Proofs.Ytnjeeedndnfglaa.X
open Go.RowKit Go.Proofs.YtnjeeedndnfglaaW.PrintWords Go.Proofs.YtnjeeedndnfglaaW.PrintLast Go.Proofs.YtnjeeedndnfglaaW.PrintMore
attribute [local go_sem] max2_int min2_int max_two min_two max_three min_three max_four min_four   -- for this text's walks alone
set_option linter.unusedVariables false
set_option linter.unusedSimpArgs false
def althinglaw05_CommandParts.f (k : Nat) (a0_0 : Int) (a0_1 : Int) (a0_2 : Int) (a0_3 : Int) (a0_4 : Int) (a0_5 : Int) (l0_6 : List (S38)) (l0_7 : List (S40)) (a0_8 : Bool) (a1 : Int) (a2 : Int) (a3 : Bool) : Option (Bool) := (althinglaw05_Few.f k (([(⟨a0_0, (⟨a0_1, a0_2⟩ : S23), (⟨a0_3, a0_4⟩ : S25), a0_5, l0_6, l0_7, a0_8⟩ : S29)] : List (S29)))).bind fun t652 => (if t652 = true then ((command_Part.f k a0_0 a0_1 a0_2 a0_3 a0_4 a0_5 l0_6 l0_7 a0_8 a1 a2).bind fun bt654 => ((althingref05_Part.f k a0_0 a0_1 a0_2 a0_3 a0_4 a0_5 l0_6 l0_7 a0_8 a1 a2).bind fun bt669 => ((command_Decided.f k a0_0 a0_1 a0_2 a0_3 a0_4 a0_5 l0_6 l0_7 a0_8 a3).bind fun bt684 => ((althingref05_Decided.f k a0_0 a0_1 a0_2 a0_3 a0_4 a0_5 l0_6 l0_7 a0_8 a3).bind fun bt699 => ((althingref05_Same.f k bt654.1 bt654.2.1 bt654.2.2.1 bt654.2.2.2.1 bt654.2.2.2.2.1 bt654.2.2.2.2.2.1 bt654.2.2.2.2.2.2.1 bt654.2.2.2.2.2.2.2.1 bt654.2.2.2.2.2.2.2.2.1 bt669.1 bt669.2.1 bt669.2.2.1 bt669.2.2.2.1 bt669.2.2.2.2.1 bt669.2.2.2.2.2.1 bt669.2.2.2.2.2.2.1 bt669.2.2.2.2.2.2.2.1 bt669.2.2.2.2.2.2.2.2.1).bind fun t714 => (if t714 = true then (if bt654.2.2.2.2.2.2.2.2.2 = bt669.2.2.2.2.2.2.2.2.2 then ((althingref05_Same.f k bt684.1 bt684.2.1 bt684.2.2.1 bt684.2.2.2.1 bt684.2.2.2.2.1 bt684.2.2.2.2.2.1 bt684.2.2.2.2.2.2.1 bt684.2.2.2.2.2.2.2.1 bt684.2.2.2.2.2.2.2.2.1 bt699.1 bt699.2.1 bt699.2.2.1 bt699.2.2.2.1 bt699.2.2.2.2.1 bt699.2.2.2.2.2.1 bt699.2.2.2.2.2.2.1 bt699.2.2.2.2.2.2.2.1 bt699.2.2.2.2.2.2.2.2.1).bind fun t715 => (if t715 = true then (if bt684.2.2.2.2.2.2.2.2.2 = bt699.2.2.2.2.2.2.2.2.2 then ((althinglaw05_awake.f k).bind fun t716 => (some t716)) else (none)) else (none))) else (none)) else (none))))))) else ((althinglaw05_awake.f k).bind fun t653 => (some t653)))
set_option maxHeartbeats 40000000 in
set_option maxRecDepth 100000 in
theorem althinglaw05_CommandParts.calls (k : Nat) (a0_0 : Int) (a0_1 : Int) (a0_2 : Int) (a0_3 : Int) (a0_4 : Int) (a0_5 : Int) (P0_6_ : Nat → Prop) (A0_6 : Option Addr) (c0_6 : Nat) (l0_6 : List (S38)) (P0_7_ : Nat → Prop) (A0_7 : Option Addr) (c0_7 : Nat) (l0_7 : List (S40)) (a0_8 : Bool) (a1 : Int) (a2 : Int) (a3 : Bool) (r : Bool) (w : World) (hs0_6 : Kd.V k38 38 w w.heap.size (fun k_ => P0_6_ k_) (.slice A0_6 l0_6.length c0_6) l0_6) (hs0_7 : Kd.V k40 40 w w.heap.size (fun k_ => P0_7_ k_) (.slice A0_7 l0_7.length c0_7) l0_7) (h : althinglaw05_CommandParts.f k a0_0 a0_1 a0_2 a0_3 a0_4 a0_5 l0_6 l0_7 a0_8 a1 a2 a3 = some r) :
 Calls Try.prog 7 #[.agg #[.int .i64 a0_0, .int .i64 a0_1, .int .i64 a0_2, .int .i64 a0_3, .int .i64 a0_4, .int .i64 a0_5, .slice A0_6 l0_6.length c0_6, .slice A0_7 l0_7.length c0_7, .bool a0_8], .int .i64 a1, .int .i64 a2, .bool a3] w fun e w' => e = .returned (.bool r) ∧ Below w.heap.size w w' := by
 have hu29 := Try.underlying29
 have HO0_6 := Aside0.mk (show Kd.V k38 38 w w.heap.size (fun k_ => ((P0_6_ k_ ∨ P0_7_ k_) ∨ w.heap.size ≤ k_)) (.slice A0_6 l0_6.length c0_6) l0_6 from Kd.V_mono hs0_6 (fun k_ hk => .inl (.inl hk)))
 have HO0_7 := Aside0.mk (show Kd.V k40 40 w w.heap.size (fun k_ => ((P0_6_ k_ ∨ P0_7_ k_) ∨ w.heap.size ≤ k_)) (.slice A0_7 l0_7.length c0_7) l0_7 from Kd.V_mono hs0_7 (fun k_ hk => .inl (.inr hk)))
 have HB := Aside0.mk (Below.refl w.heap.size w)
 have H : ((althinglaw05_Few.f k (([(⟨a0_0, (⟨a0_1, a0_2⟩ : S23), (⟨a0_3, a0_4⟩ : S25), a0_5, l0_6, l0_7, a0_8⟩ : S29)] : List (S29)))).bind fun t652 => (if t652 = true then ((command_Part.f k a0_0 a0_1 a0_2 a0_3 a0_4 a0_5 l0_6 l0_7 a0_8 a1 a2).bind fun bt654 => ((althingref05_Part.f k a0_0 a0_1 a0_2 a0_3 a0_4 a0_5 l0_6 l0_7 a0_8 a1 a2).bind fun bt669 => ((command_Decided.f k a0_0 a0_1 a0_2 a0_3 a0_4 a0_5 l0_6 l0_7 a0_8 a3).bind fun bt684 => ((althingref05_Decided.f k a0_0 a0_1 a0_2 a0_3 a0_4 a0_5 l0_6 l0_7 a0_8 a3).bind fun bt699 => ((althingref05_Same.f k bt654.1 bt654.2.1 bt654.2.2.1 bt654.2.2.2.1 bt654.2.2.2.2.1 bt654.2.2.2.2.2.1 bt654.2.2.2.2.2.2.1 bt654.2.2.2.2.2.2.2.1 bt654.2.2.2.2.2.2.2.2.1 bt669.1 bt669.2.1 bt669.2.2.1 bt669.2.2.2.1 bt669.2.2.2.2.1 bt669.2.2.2.2.2.1 bt669.2.2.2.2.2.2.1 bt669.2.2.2.2.2.2.2.1 bt669.2.2.2.2.2.2.2.2.1).bind fun t714 => (if t714 = true then (if bt654.2.2.2.2.2.2.2.2.2 = bt669.2.2.2.2.2.2.2.2.2 then ((althingref05_Same.f k bt684.1 bt684.2.1 bt684.2.2.1 bt684.2.2.2.1 bt684.2.2.2.2.1 bt684.2.2.2.2.2.1 bt684.2.2.2.2.2.2.1 bt684.2.2.2.2.2.2.2.1 bt684.2.2.2.2.2.2.2.2.1 bt699.1 bt699.2.1 bt699.2.2.1 bt699.2.2.2.1 bt699.2.2.2.2.1 bt699.2.2.2.2.2.1 bt699.2.2.2.2.2.2.1 bt699.2.2.2.2.2.2.2.1 bt699.2.2.2.2.2.2.2.2.1).bind fun t715 => (if t715 = true then (if bt684.2.2.2.2.2.2.2.2.2 = bt699.2.2.2.2.2.2.2.2.2 then ((althinglaw05_awake.f k).bind fun t716 => (some t716)) else (none)) else (none))) else (none)) else (none))))))) else ((althinglaw05_awake.f k).bind fun t653 => (some t653)))) = some r := h
 clear h
 obtain ⟨y649, hy649⟩ : ∃ y_ : List (S29), y_ = (([(⟨a0_0, (⟨a0_1, a0_2⟩ : S23), (⟨a0_3, a0_4⟩ : S25), a0_5, l0_6, l0_7, a0_8⟩ : S29)] : List (S29))) := ⟨_, rfl⟩
 replace H : ((althinglaw05_Few.f k y649).bind fun t652 => (if t652 = true then ((command_Part.f k a0_0 a0_1 a0_2 a0_3 a0_4 a0_5 l0_6 l0_7 a0_8 a1 a2).bind fun bt654 => ((althingref05_Part.f k a0_0 a0_1 a0_2 a0_3 a0_4 a0_5 l0_6 l0_7 a0_8 a1 a2).bind fun bt669 => ((command_Decided.f k a0_0 a0_1 a0_2 a0_3 a0_4 a0_5 l0_6 l0_7 a0_8 a3).bind fun bt684 => ((althingref05_Decided.f k a0_0 a0_1 a0_2 a0_3 a0_4 a0_5 l0_6 l0_7 a0_8 a3).bind fun bt699 => ((althingref05_Same.f k bt654.1 bt654.2.1 bt654.2.2.1 bt654.2.2.2.1 bt654.2.2.2.2.1 bt654.2.2.2.2.2.1 bt654.2.2.2.2.2.2.1 bt654.2.2.2.2.2.2.2.1 bt654.2.2.2.2.2.2.2.2.1 bt669.1 bt669.2.1 bt669.2.2.1 bt669.2.2.2.1 bt669.2.2.2.2.1 bt669.2.2.2.2.2.1 bt669.2.2.2.2.2.2.1 bt669.2.2.2.2.2.2.2.1 bt669.2.2.2.2.2.2.2.2.1).bind fun t714 => (if t714 = true then (if bt654.2.2.2.2.2.2.2.2.2 = bt669.2.2.2.2.2.2.2.2.2 then ((althingref05_Same.f k bt684.1 bt684.2.1 bt684.2.2.1 bt684.2.2.2.1 bt684.2.2.2.2.1 bt684.2.2.2.2.2.1 bt684.2.2.2.2.2.2.1 bt684.2.2.2.2.2.2.2.1 bt684.2.2.2.2.2.2.2.2.1 bt699.1 bt699.2.1 bt699.2.2.1 bt699.2.2.2.1 bt699.2.2.2.2.1 bt699.2.2.2.2.2.1 bt699.2.2.2.2.2.2.1 bt699.2.2.2.2.2.2.2.1 bt699.2.2.2.2.2.2.2.2.1).bind fun t715 => (if t715 = true then (if bt684.2.2.2.2.2.2.2.2.2 = bt699.2.2.2.2.2.2.2.2.2 then ((althinglaw05_awake.f k).bind fun t716 => (some t716)) else (none)) else (none))) else (none)) else (none))))))) else ((althinglaw05_awake.f k).bind fun t653 => (some t653)))) = some r := by first | (rw [hy649]; with_reducible exact H) | (have H2_ := (Option.bind_some _ _).symm.trans H; rw [hy649]; with_reducible exact H2_) | (have H2_ := (Option.bind_some _ _).symm.trans H; with_reducible exact H2_) | with_reducible exact H | (rw [hy649]; exact H) | exact H
 have Ny649 := Aside0.mk hy649
 clear hy649
 obtain ⟨t652, A5, H⟩ := bs_ H
 by_cases c6 : t652 = true
 · subst c6
   rw [if_pos rfl] at H
   replace H := Option.bind_eq_some_iff.mp H
   obtain ⟨⟨t654, t655, t656, t657, t658, t659, t660, t663, t666, t667⟩, A70, H⟩ := H
   replace H : ((althingref05_Part.f k a0_0 a0_1 a0_2 a0_3 a0_4 a0_5 l0_6 l0_7 a0_8 a1 a2).bind fun bt669 => ((command_Decided.f k a0_0 a0_1 a0_2 a0_3 a0_4 a0_5 l0_6 l0_7 a0_8 a3).bind fun bt684 => ((althingref05_Decided.f k a0_0 a0_1 a0_2 a0_3 a0_4 a0_5 l0_6 l0_7 a0_8 a3).bind fun bt699 => ((althingref05_Same.f k t654 t655 t656 t657 t658 t659 t660 t663 t666 bt669.1 bt669.2.1 bt669.2.2.1 bt669.2.2.2.1 bt669.2.2.2.2.1 bt669.2.2.2.2.2.1 bt669.2.2.2.2.2.2.1 bt669.2.2.2.2.2.2.2.1 bt669.2.2.2.2.2.2.2.2.1).bind fun t714 => (if t714 = true then (if t667 = bt669.2.2.2.2.2.2.2.2.2 then ((althingref05_Same.f k bt684.1 bt684.2.1 bt684.2.2.1 bt684.2.2.2.1 bt684.2.2.2.2.1 bt684.2.2.2.2.2.1 bt684.2.2.2.2.2.2.1 bt684.2.2.2.2.2.2.2.1 bt684.2.2.2.2.2.2.2.2.1 bt699.1 bt699.2.1 bt699.2.2.1 bt699.2.2.2.1 bt699.2.2.2.2.1 bt699.2.2.2.2.2.1 bt699.2.2.2.2.2.2.1 bt699.2.2.2.2.2.2.2.1 bt699.2.2.2.2.2.2.2.2.1).bind fun t715 => (if t715 = true then (if bt684.2.2.2.2.2.2.2.2.2 = bt699.2.2.2.2.2.2.2.2.2 then ((althinglaw05_awake.f k).bind fun t716 => (some t716)) else (none)) else (none))) else (none)) else (none)))))) = some r := H
   have A7 := Aside0.mk A70
   clear A70
   replace H := Option.bind_eq_some_iff.mp H
   obtain ⟨⟨t669, t670, t671, t672, t673, t674, t675, t678, t681, t682⟩, A80, H⟩ := H
   replace H : ((command_Decided.f k a0_0 a0_1 a0_2 a0_3 a0_4 a0_5 l0_6 l0_7 a0_8 a3).bind fun bt684 => ((althingref05_Decided.f k a0_0 a0_1 a0_2 a0_3 a0_4 a0_5 l0_6 l0_7 a0_8 a3).bind fun bt699 => ((althingref05_Same.f k t654 t655 t656 t657 t658 t659 t660 t663 t666 t669 t670 t671 t672 t673 t674 t675 t678 t681).bind fun t714 => (if t714 = true then (if t667 = t682 then ((althingref05_Same.f k bt684.1 bt684.2.1 bt684.2.2.1 bt684.2.2.2.1 bt684.2.2.2.2.1 bt684.2.2.2.2.2.1 bt684.2.2.2.2.2.2.1 bt684.2.2.2.2.2.2.2.1 bt684.2.2.2.2.2.2.2.2.1 bt699.1 bt699.2.1 bt699.2.2.1 bt699.2.2.2.1 bt699.2.2.2.2.1 bt699.2.2.2.2.2.1 bt699.2.2.2.2.2.2.1 bt699.2.2.2.2.2.2.2.1 bt699.2.2.2.2.2.2.2.2.1).bind fun t715 => (if t715 = true then (if bt684.2.2.2.2.2.2.2.2.2 = bt699.2.2.2.2.2.2.2.2.2 then ((althinglaw05_awake.f k).bind fun t716 => (some t716)) else (none)) else (none))) else (none)) else (none))))) = some r := H
   have A8 := Aside0.mk A80
   clear A80
   replace H := Option.bind_eq_some_iff.mp H
   obtain ⟨⟨t684, t685, t686, t687, t688, t689, t690, t693, t696, t697⟩, A90, H⟩ := H
   replace H : ((althingref05_Decided.f k a0_0 a0_1 a0_2 a0_3 a0_4 a0_5 l0_6 l0_7 a0_8 a3).bind fun bt699 => ((althingref05_Same.f k t654 t655 t656 t657 t658 t659 t660 t663 t666 t669 t670 t671 t672 t673 t674 t675 t678 t681).bind fun t714 => (if t714 = true then (if t667 = t682 then ((althingref05_Same.f k t684 t685 t686 t687 t688 t689 t690 t693 t696 bt699.1 bt699.2.1 bt699.2.2.1 bt699.2.2.2.1 bt699.2.2.2.2.1 bt699.2.2.2.2.2.1 bt699.2.2.2.2.2.2.1 bt699.2.2.2.2.2.2.2.1 bt699.2.2.2.2.2.2.2.2.1).bind fun t715 => (if t715 = true then (if t697 = bt699.2.2.2.2.2.2.2.2.2 then ((althinglaw05_awake.f k).bind fun t716 => (some t716)) else (none)) else (none))) else (none)) else (none)))) = some r := H
   have A9 := Aside0.mk A90
   clear A90
   replace H := Option.bind_eq_some_iff.mp H
   obtain ⟨⟨t699, t700, t701, t702, t703, t704, t705, t708, t711, t712⟩, A100, H⟩ := H
   replace H : ((althingref05_Same.f k t654 t655 t656 t657 t658 t659 t660 t663 t666 t669 t670 t671 t672 t673 t674 t675 t678 t681).bind fun t714 => (if t714 = true then (if t667 = t682 then ((althingref05_Same.f k t684 t685 t686 t687 t688 t689 t690 t693 t696 t699 t700 t701 t702 t703 t704 t705 t708 t711).bind fun t715 => (if t715 = true then (if t697 = t712 then ((althinglaw05_awake.f k).bind fun t716 => (some t716)) else (none)) else (none))) else (none)) else (none))) = some r := H
   have A10 := Aside0.mk A100
   clear A100
   obtain ⟨t714, A11, H⟩ := bs_ H
   by_cases c12 : t714 = true
   · subst c12
     rw [if_pos rfl] at H
     by_cases c13 : t667 = t682
     · rw [if_pos c13] at H
       have c13b0 : (t667 == t682) = true := beq_iff_eq.mpr c13
       have c13b1 : (t667 != t682) = false := bne_eq_false_iff_eq.mpr c13
       clear c13
       obtain ⟨t715, A14, H⟩ := bs_ H
       by_cases c15 : t715 = true
       · subst c15
         rw [if_pos rfl] at H
         by_cases c16 : t697 = t712
         · rw [if_pos c16] at H
           have c16b0 : (t697 == t712) = true := beq_iff_eq.mpr c16
           have c16b1 : (t697 != t712) = false := bne_eq_false_iff_eq.mpr c16
           clear c16
           obtain ⟨t716, A17, H⟩ := bs_ H
           obtain rfl := Option.some.inj H
           go_enter Try.func7, Try.ntmps7
           go_wp2_with (first | ((with_reducible refine gate_dst (N := 4) rfl ?_); refine bx_ 4 29 #[.int .i64 a0_0, .int .i64 a0_1, .int .i64 a0_2, .int .i64 a0_3, .int .i64 a0_4, .int .i64 a0_5, .slice A0_6 l0_6.length c0_6, .slice A0_7 l0_7.length c0_7, .bool a0_8] ?_; intro gb648 hg w18 hbox hb; have BK648 := Aside0.mk hbox; have GE648 := ge_ HB hg; replace HO0_6 := ve_ HO0_6 hg hb; replace HO0_7 := ve_ HO0_7 hg hb; replace HB := hs_ HB hb; clear hb hbox hg) | ((with_reducible refine gate_dst (N := 17) rfl ?_); (try (refine gate_guard (by rfl) ?_; dsimp only)); refine bl_ 17 BK648.out ⟨_, Try.underlying29, rfl⟩ ?_) | ((with_reducible refine gate_dst (N := 18) rfl ?_); refine Kd.N_lit k29 _ 29 ?hg (N' := 18) ?hd (xs := ([(⟨a0_0, (⟨a0_1, a0_2⟩ : S23), (⟨a0_3, a0_4⟩ : S25), a0_5, l0_6, l0_7, a0_8⟩ : S29)] : List (S29))) (inner := [.int .i64 a0_0, .int .i64 a0_1, .int .i64 a0_2, .int .i64 a0_3, .int .i64 a0_4, .int .i64 a0_5, .slice A0_6 l0_6.length c0_6, .slice A0_7 l0_7.length c0_7, .bool a0_8]) (ok := (fun k_ => ((P0_6_ k_ ∨ P0_7_ k_) ∨ w.heap.size ≤ k_) ∧ k_ ≠ gb648)) (okp := (fun k_ => ((P0_6_ k_ ∨ P0_7_ k_) ∨ w.heap.size ≤ k_) ∧ k_ ≠ gb648)) ?hr ?hp (fun _ hk => hk) ((show ∀ k_, w18.heap.size ≤ k_ → (fun k_ => ((P0_6_ k_ ∨ P0_7_ k_) ∨ w.heap.size ≤ k_) ∧ k_ ≠ gb648) k_ from fun k_ hk => ⟨(.inr (Nat.le_trans (below_size lbt_) hk)), Kd.freshB (g := gb648) (o := .cells #[.int .i64 a0_0, .int .i64 a0_1, .int .i64 a0_2, .int .i64 a0_3, .int .i64 a0_4, .int .i64 a0_5, .slice A0_6 l0_6.length c0_6, .slice A0_7 l0_7.length c0_7, .bool a0_8] 29 (0, 0)) (kb_ BK648.out) k_ hk⟩) _ (Nat.le_refl _)) (Below.refl _ _) (Nat.le_refl _) (by simp) ?_; (case hd => rfl); (case hg => rfl); (case hr => first | (go_simp; done) | (go_simp; rfl)); (case hp => exact (Reps.c9 (show Kd.FK k29 _ _ (⟨a0_0, (⟨a0_1, a0_2⟩ : S23), (⟨a0_3, a0_4⟩ : S25), a0_5, l0_6, l0_7, a0_8⟩ : S29) [.int .i64 a0_0, .int .i64 a0_1, .int .i64 a0_2, .int .i64 a0_3, .int .i64 a0_4, .int .i64 a0_5, .slice A0_6 l0_6.length c0_6, .slice A0_7 l0_7.length c0_7, .bool a0_8] from (k29_mkF _ _ (⟨a0_0, (⟨a0_1, a0_2⟩ : S23), (⟨a0_3, a0_4⟩ : S25), a0_5, l0_6, l0_7, a0_8⟩ : S29) (Kd.V_reads' (Kd.V_mono (ok' := (fun k_ => ((P0_6_ k_ ∨ P0_7_ k_) ∨ w.heap.size ≤ k_) ∧ k_ ≠ gb648)) (HO0_6.out) (fun k_ hk => ⟨hk.1, hk.2⟩))).2.1 (Kd.V_F (Kd.V_mono (ok' := (fun k_ => ((P0_6_ k_ ∨ P0_7_ k_) ∨ w.heap.size ≤ k_) ∧ k_ ≠ gb648)) (HO0_6.out) (fun k_ hk => ⟨hk.1, hk.2⟩))) (Kd.V_reads' (Kd.V_mono (ok' := (fun k_ => ((P0_6_ k_ ∨ P0_7_ k_) ∨ w.heap.size ≤ k_) ∧ k_ ≠ gb648)) (HO0_7.out) (fun k_ hk => ⟨hk.1, hk.2⟩))).2.1 (Kd.V_F (Kd.V_mono (ok' := (fun k_ => ((P0_6_ k_ ∨ P0_7_ k_) ∨ w.heap.size ≤ k_) ∧ k_ ≠ gb648)) (HO0_7.out) (fun k_ hk => ⟨hk.1, hk.2⟩))))) (Reps.none _ _))); intro v650 w20 ho21 hb hg_ hnew_; clear hg_ hnew_; (first | rw [← Ny649.out] at ho21 | (simp only [Int.reduceToNat] at ho21; rw [← Ny649.out] at ho21)); have HO651 := Aside0.mk (Kd.N_lower ho21 (below_size lbt_)); replace HO0_6 := Aside0.mk (Kd.V_elder' (kv_ HO0_6.out) (Kd.N_base ho21) hb); replace HO0_7 := Aside0.mk (Kd.V_elder' (kv_ HO0_7.out) (Kd.N_base ho21) hb); replace BK648 := bb_ BK648 hb; replace HB := hs_ HB hb; clear hb ho21; obtain ⟨Ao22, co22, eo22⟩ := Kd.N_slice HO651.out; subst eo22) | ((with_reducible refine gate_callee (f := 8) rfl ?_); refine gl_ (some 19) Try.func8 #[.slice Ao22 y649.length co22] ?_; (with_reducible refine (althinglaw05_Few.calls k _ _ y649 true _ ?side1 ?side2 A5.out).mono ?_); (case side1 => repeat (first | exact (Kd.N_reads' HO651.out).2.2 | (with_reducible refine Kd.C_alloc ?_ _) | (with_reducible refine Kd.C_drewN ?_ _) | (with_reducible refine Kd.C_drew ?_))); (case side2 => exact (Kd.N_reads' HO651.out).2.1); rintro e w23 ⟨rfl, hb⟩; refine ⟨_, rfl, ?_⟩; replace HO0_6 := vb_ HO0_6 hb; replace HO0_7 := vb_ HO0_7 hb; replace HO651 := nb2_ HO651 hb; replace BK648 := bb_ BK648 hb; replace HB := hs_ HB hb; (try clear hb); (try clear hk); (try clear hi)) | ((with_reducible refine gate_dst (N := 23) rfl ?_); (try (refine gate_guard (by rfl) ?_; dsimp only)); refine bl_ 23 BK648.out ⟨_, Try.underlying29, rfl⟩ ?_) | ((with_reducible refine gate_callee (f := 15) rfl ?_); refine gl_ (some 26) Try.func15 #[.agg #[.int .i64 a0_0, .int .i64 a0_1, .int .i64 a0_2, .int .i64 a0_3, .int .i64 a0_4, .int .i64 a0_5, .slice A0_6 l0_6.length c0_6, .slice A0_7 l0_7.length c0_7, .bool a0_8], .int .i64 a1, .int .i64 a2] ?_; (with_reducible refine (command_Part.calls k a0_0 a0_1 a0_2 a0_3 a0_4 a0_5 _ _ l0_6 _ _ l0_7 a0_8 a1 a2 t654 t655 t656 t657 t658 t659 t660 t663 t666 t667 _ ?side1 ?side2 ?side3 ?side4 A7.out).mono ?_); (case side1 => repeat (first | exact (Kd.V_reads' HO0_6.out).2.2 | (with_reducible refine Kd.C_alloc ?_ _) | (with_reducible refine Kd.C_drewN ?_ _) | (with_reducible refine Kd.C_drew ?_))); (case side2 => exact (Kd.V_reads' HO0_6.out).2.1); (case side3 => repeat (first | exact (Kd.V_reads' HO0_7.out).2.2 | (with_reducible refine Kd.C_alloc ?_ _) | (with_reducible refine Kd.C_drewN ?_ _) | (with_reducible refine Kd.C_drew ?_))); (case side4 => exact (Kd.V_reads' HO0_7.out).2.1); rintro e w25 ⟨v661, v664, rfl, ho0, ho1, hb⟩; refine ⟨_, rfl, ?_⟩; have HO662 := Aside0.mk (Kd.R_lower (Kd.R_newM (M := fun k_ => (w.heap.size ≤ k_)) ho0 (below_size lbt_) (fun k_ h_ => h_)) (below_size lbt_)); have HO665 := Aside0.mk (Kd.R_lower (Kd.R_newM (M := fun k_ => (w.heap.size ≤ k_)) ho1 (below_size lbt_) (fun k_ h_ => h_)) (below_size lbt_)); replace HO0_6 := Aside0.mk (Kd.V_mono (Kd.V_told (Kd.V_told (Kd.V_old (kv_ HO0_6.out) hb) (Kd.R_base ho0)) (Kd.R_base ho1)) (fun _ h_ => h_.1)); replace HO0_7 := Aside0.mk (Kd.V_mono (Kd.V_told (Kd.V_told (Kd.V_old (kv_ HO0_7.out) hb) (Kd.R_base ho0)) (Kd.R_base ho1)) (fun _ h_ => h_.1)); replace HO651 := Aside0.mk (Kd.N_mono (Kd.N_told (Kd.N_told (Kd.N_old (kn_ HO651.out) hb) (Kd.R_base ho0)) (Kd.R_base ho1)) (fun _ h_ => h_.1)); replace BK648 := bb_ BK648 hb; replace HB := hs_ HB hb; (try clear hb); (try clear hk); (try clear hi); (try clear ho0); (try clear ho1); obtain ⟨Ao26, co26, eo26⟩ := Kd.R_slice HO662.out; subst eo26; obtain ⟨Ao27, co27, eo27⟩ := Kd.R_slice HO665.out; subst eo27) | ((with_reducible refine gate_dst (N := 9) rfl ?_); refine alloc_store_event ?hg1 (N := 9) ?hd1 ?hg2 ?hd2 ?ho2 (cs0 := #[.int .i64 0, .int .i64 0, .int .i64 0, .int .i64 0, .int .i64 0, .int .i64 0, .slice none 0 0, .slice none 0 0, .bool false]) (cs := #[.int .i64 t654, .int .i64 t655, .int .i64 t656, .int .i64 t657, .int .i64 t658, .int .i64 t659, .slice Ao26 t660.length co26, .slice Ao27 t663.length co27, .bool t666]) (t := 29) (x := ?xxw28) ?hr ?hp ?hx ?hs ?h1 ?ht ?_; (case hg1 => rfl); (case hd1 => rfl); (case hg2 => rfl); (case hd2 => rfl); (case ho2 => rfl); (case hr => first | (go_simp; done) | (go_simp; rfl)); (case hp => rfl); (case hx => rfl); (case hs => rfl); (case h1 => rfl); (case ht => kernel_rfl); intro gb668 hg w28 hbox hb; have BK668 := Aside0.mk hbox; have GE668 := ge_ HB hg; replace HO0_6 := ve_ HO0_6 hg hb; replace HO0_7 := ve_ HO0_7 hg hb; replace HO651 := ne_ HO651 hg hb; replace HO662 := rb_ HO662 hb; replace HO665 := rb_ HO665 hb; replace BK648 := bb_ BK648 hb; replace HB := hs_ HB hb; clear hb hbox hg) | ((with_reducible refine gate_dst (N := 30) rfl ?_); (try (refine gate_guard (by rfl) ?_; dsimp only)); refine bl_ 30 BK648.out ⟨_, Try.underlying29, rfl⟩ ?_) | ((with_reducible refine gate_callee (f := 21) rfl ?_); refine gl_ (some 33) Try.func21 #[.agg #[.int .i64 a0_0, .int .i64 a0_1, .int .i64 a0_2, .int .i64 a0_3, .int .i64 a0_4, .int .i64 a0_5, .slice A0_6 l0_6.length c0_6, .slice A0_7 l0_7.length c0_7, .bool a0_8], .int .i64 a1, .int .i64 a2] ?_; (with_reducible refine (althingref05_Part.calls k a0_0 a0_1 a0_2 a0_3 a0_4 a0_5 _ _ l0_6 _ _ l0_7 a0_8 a1 a2 t669 t670 t671 t672 t673 t674 t675 t678 t681 t682 _ ?side1 ?side2 ?side3 ?side4 A8.out).mono ?_); (case side1 => repeat (first | exact (Kd.V_reads' HO0_6.out).2.2 | (with_reducible refine Kd.C_alloc ?_ _) | (with_reducible refine Kd.C_drewN ?_ _) | (with_reducible refine Kd.C_drew ?_))); (case side2 => exact (Kd.V_reads' HO0_6.out).2.1); (case side3 => repeat (first | exact (Kd.V_reads' HO0_7.out).2.2 | (with_reducible refine Kd.C_alloc ?_ _) | (with_reducible refine Kd.C_drewN ?_ _) | (with_reducible refine Kd.C_drew ?_))); (case side4 => exact (Kd.V_reads' HO0_7.out).2.1); rintro e w30 ⟨v676, v679, rfl, ho0, ho1, hb⟩; refine ⟨_, rfl, ?_⟩; have HO677 := Aside0.mk (Kd.R_lower (Kd.R_new' (Kd.R_newM (M := fun k_ => (w.heap.size ≤ k_)) ho0 (below_size lbt_) (fun k_ h_ => h_)) (Kd.R_lt (kr_ HO662.out))) (below_size lbt_)); have HO680 := Aside0.mk (Kd.R_lower (Kd.R_new' (Kd.R_newM (M := fun k_ => (w.heap.size ≤ k_)) ho1 (below_size lbt_) (fun k_ h_ => h_)) (Kd.R_lt (kr_ HO665.out))) (below_size lbt_)); replace HO0_6 := Aside0.mk (Kd.V_mono (Kd.V_told (Kd.V_told (Kd.V_old (kv_ HO0_6.out) hb) (Kd.R_base ho0)) (Kd.R_base ho1)) (fun _ h_ => h_.1)); replace HO0_7 := Aside0.mk (Kd.V_mono (Kd.V_told (Kd.V_told (Kd.V_old (kv_ HO0_7.out) hb) (Kd.R_base ho0)) (Kd.R_base ho1)) (fun _ h_ => h_.1)); replace HO651 := Aside0.mk (Kd.N_mono (Kd.N_told (Kd.N_told (Kd.N_old (kn_ HO651.out) hb) (Kd.R_base ho0)) (Kd.R_base ho1)) (fun _ h_ => h_.1)); replace HO662 := Aside0.mk (Kd.R_elder' (kr_ HO662.out) (Kd.R_base ho0) hb); replace HO665 := Aside0.mk (Kd.R_elder' (kr_ HO665.out) (Kd.R_base ho1) hb); replace BK648 := bb_ BK648 hb; replace BK668 := bb_ BK668 hb; replace HB := hs_ HB hb; (try clear hb); (try clear hk); (try clear hi); (try clear ho0); (try clear ho1); obtain ⟨Ao31, co31, eo31⟩ := Kd.R_slice HO677.out; subst eo31; obtain ⟨Ao32, co32, eo32⟩ := Kd.R_slice HO680.out; subst eo32) | ((with_reducible refine gate_dst (N := 11) rfl ?_); refine alloc_store_event ?hg1 (N := 11) ?hd1 ?hg2 ?hd2 ?ho2 (cs0 := #[.int .i64 0, .int .i64 0, .int .i64 0, .int .i64 0, .int .i64 0, .int .i64 0, .slice none 0 0, .slice none 0 0, .bool false]) (cs := #[.int .i64 t669, .int .i64 t670, .int .i64 t671, .int .i64 t672, .int .i64 t673, .int .i64 t674, .slice Ao31 t675.length co31, .slice Ao32 t678.length co32, .bool t681]) (t := 29) (x := ?xxw33) ?hr ?hp ?hx ?hs ?h1 ?ht ?_; (case hg1 => rfl); (case hd1 => rfl); (case hg2 => rfl); (case hd2 => rfl); (case ho2 => rfl); (case hr => first | (go_simp; done) | (go_simp; rfl)); (case hp => rfl); (case hx => rfl); (case hs => rfl); (case h1 => rfl); (case ht => kernel_rfl); intro gb683 hg w33 hbox hb; have BK683 := Aside0.mk hbox; have GE683 := ge_ HB hg; replace HO0_6 := ve_ HO0_6 hg hb; replace HO0_7 := ve_ HO0_7 hg hb; replace HO651 := ne_ HO651 hg hb; replace HO662 := rb_ HO662 hb; replace HO665 := rb_ HO665 hb; replace HO677 := rb_ HO677 hb; replace HO680 := rb_ HO680 hb; replace BK648 := bb_ BK648 hb; replace BK668 := bb_ BK668 hb; replace HB := hs_ HB hb; clear hb hbox hg) | ((with_reducible refine gate_dst (N := 37) rfl ?_); (try (refine gate_guard (by rfl) ?_; dsimp only)); refine bl_ 37 BK648.out ⟨_, Try.underlying29, rfl⟩ ?_) | ((with_reducible refine gate_callee (f := 12) rfl ?_); refine gl_ (some 39) Try.func12 #[.agg #[.int .i64 a0_0, .int .i64 a0_1, .int .i64 a0_2, .int .i64 a0_3, .int .i64 a0_4, .int .i64 a0_5, .slice A0_6 l0_6.length c0_6, .slice A0_7 l0_7.length c0_7, .bool a0_8], .bool a3] ?_; (with_reducible refine (command_Decided.calls k a0_0 a0_1 a0_2 a0_3 a0_4 a0_5 _ _ l0_6 _ _ l0_7 a0_8 a3 t684 t685 t686 t687 t688 t689 t690 t693 t696 t697 _ ?side1 ?side2 ?side3 ?side4 A9.out).mono ?_); (case side1 => repeat (first | exact (Kd.V_reads' HO0_6.out).2.2 | (with_reducible refine Kd.C_alloc ?_ _) | (with_reducible refine Kd.C_drewN ?_ _) | (with_reducible refine Kd.C_drew ?_))); (case side2 => exact (Kd.V_reads' HO0_6.out).2.1); (case side3 => repeat (first | exact (Kd.V_reads' HO0_7.out).2.2 | (with_reducible refine Kd.C_alloc ?_ _) | (with_reducible refine Kd.C_drewN ?_ _) | (with_reducible refine Kd.C_drew ?_))); (case side4 => exact (Kd.V_reads' HO0_7.out).2.1); rintro e w35 ⟨v691, v694, rfl, ho0, ho1, hb⟩; refine ⟨_, rfl, ?_⟩; have HO692 := Aside0.mk (Kd.R_lower (Kd.R_new' (Kd.R_new' (Kd.R_newM (M := fun k_ => (w.heap.size ≤ k_)) ho0 (below_size lbt_) (fun k_ h_ => h_)) (Kd.R_lt (kr_ HO662.out))) (Kd.R_lt (kr_ HO677.out))) (below_size lbt_)); have HO695 := Aside0.mk (Kd.R_lower (Kd.R_new' (Kd.R_new' (Kd.R_newM (M := fun k_ => (w.heap.size ≤ k_)) ho1 (below_size lbt_) (fun k_ h_ => h_)) (Kd.R_lt (kr_ HO665.out))) (Kd.R_lt (kr_ HO680.out))) (below_size lbt_)); replace HO0_6 := Aside0.mk (Kd.V_mono (Kd.V_told (Kd.V_told (Kd.V_old (kv_ HO0_6.out) hb) (Kd.R_base ho0)) (Kd.R_base ho1)) (fun _ h_ => h_.1)); replace HO0_7 := Aside0.mk (Kd.V_mono (Kd.V_told (Kd.V_told (Kd.V_old (kv_ HO0_7.out) hb) (Kd.R_base ho0)) (Kd.R_base ho1)) (fun _ h_ => h_.1)); replace HO651 := Aside0.mk (Kd.N_mono (Kd.N_told (Kd.N_told (Kd.N_old (kn_ HO651.out) hb) (Kd.R_base ho0)) (Kd.R_base ho1)) (fun _ h_ => h_.1)); replace HO662 := Aside0.mk (Kd.R_elder' (kr_ HO662.out) (Kd.R_base ho0) hb); replace HO665 := Aside0.mk (Kd.R_elder' (kr_ HO665.out) (Kd.R_base ho1) hb); replace HO677 := Aside0.mk (Kd.R_elder' (kr_ HO677.out) (Kd.R_base ho0) hb); replace HO680 := Aside0.mk (Kd.R_elder' (kr_ HO680.out) (Kd.R_base ho1) hb); replace BK648 := bb_ BK648 hb; replace BK668 := bb_ BK668 hb; replace BK683 := bb_ BK683 hb; replace HB := hs_ HB hb; (try clear hb); (try clear hk); (try clear hi); (try clear ho0); (try clear ho1); obtain ⟨Ao36, co36, eo36⟩ := Kd.R_slice HO692.out; subst eo36; obtain ⟨Ao37, co37, eo37⟩ := Kd.R_slice HO695.out; subst eo37) | ((with_reducible refine gate_dst (N := 13) rfl ?_); refine alloc_store_event ?hg1 (N := 13) ?hd1 ?hg2 ?hd2 ?ho2 (cs0 := #[.int .i64 0, .int .i64 0, .int .i64 0, .int .i64 0, .int .i64 0, .int .i64 0, .slice none 0 0, .slice none 0 0, .bool false]) (cs := #[.int .i64 t684, .int .i64 t685, .int .i64 t686, .int .i64 t687, .int .i64 t688, .int .i64 t689, .slice Ao36 t690.length co36, .slice Ao37 t693.length co37, .bool t696]) (t := 29) (x := ?xxw38) ?hr ?hp ?hx ?hs ?h1 ?ht ?_; (case hg1 => rfl); (case hd1 => rfl); (case hg2 => rfl); (case hd2 => rfl); (case ho2 => rfl); (case hr => first | (go_simp; done) | (go_simp; rfl)); (case hp => rfl); (case hx => rfl); (case hs => rfl); (case h1 => rfl); (case ht => kernel_rfl); intro gb698 hg w38 hbox hb; have BK698 := Aside0.mk hbox; have GE698 := ge_ HB hg; replace HO0_6 := ve_ HO0_6 hg hb; replace HO0_7 := ve_ HO0_7 hg hb; replace HO651 := ne_ HO651 hg hb; replace HO662 := rb_ HO662 hb; replace HO665 := rb_ HO665 hb; replace HO677 := rb_ HO677 hb; replace HO680 := rb_ HO680 hb; replace HO692 := rb_ HO692 hb; replace HO695 := rb_ HO695 hb; replace BK648 := bb_ BK648 hb; replace BK668 := bb_ BK668 hb; replace BK683 := bb_ BK683 hb; replace HB := hs_ HB hb; clear hb hbox hg) | ((with_reducible refine gate_dst (N := 43) rfl ?_); (try (refine gate_guard (by rfl) ?_; dsimp only)); refine bl_ 43 BK648.out ⟨_, Try.underlying29, rfl⟩ ?_) | ((with_reducible refine gate_callee (f := 22) rfl ?_); refine gl_ (some 45) Try.func22 #[.agg #[.int .i64 a0_0, .int .i64 a0_1, .int .i64 a0_2, .int .i64 a0_3, .int .i64 a0_4, .int .i64 a0_5, .slice A0_6 l0_6.length c0_6, .slice A0_7 l0_7.length c0_7, .bool a0_8], .bool a3] ?_; (with_reducible refine (althingref05_Decided.calls k a0_0 a0_1 a0_2 a0_3 a0_4 a0_5 (fun k_ => (((((((((((((P0_6_ k_ ∨ P0_7_ k_) ∨ w.heap.size ≤ k_) ∧ k_ ≠ gb648) ∧ some k_ ≠ (.slice Ao22 y649.length co22 : Value).ownBlock) ∧ some k_ ≠ (.slice Ao26 t660.length co26 : Value).ownBlock) ∧ some k_ ≠ (.slice Ao27 t663.length co27 : Value).ownBlock) ∧ k_ ≠ gb668) ∧ some k_ ≠ (.slice Ao31 t675.length co31 : Value).ownBlock) ∧ some k_ ≠ (.slice Ao32 t678.length co32 : Value).ownBlock) ∧ k_ ≠ gb683) ∧ some k_ ≠ (.slice Ao36 t690.length co36 : Value).ownBlock) ∧ some k_ ≠ (.slice Ao37 t693.length co37 : Value).ownBlock) ∧ k_ ≠ gb698)) _ _ l0_6 (fun k_ => (((((((((((((P0_6_ k_ ∨ P0_7_ k_) ∨ w.heap.size ≤ k_) ∧ k_ ≠ gb648) ∧ some k_ ≠ (.slice Ao22 y649.length co22 : Value).ownBlock) ∧ some k_ ≠ (.slice Ao26 t660.length co26 : Value).ownBlock) ∧ some k_ ≠ (.slice Ao27 t663.length co27 : Value).ownBlock) ∧ k_ ≠ gb668) ∧ some k_ ≠ (.slice Ao31 t675.length co31 : Value).ownBlock) ∧ some k_ ≠ (.slice Ao32 t678.length co32 : Value).ownBlock) ∧ k_ ≠ gb683) ∧ some k_ ≠ (.slice Ao36 t690.length co36 : Value).ownBlock) ∧ some k_ ≠ (.slice Ao37 t693.length co37 : Value).ownBlock) ∧ k_ ≠ gb698)) _ _ l0_7 a0_8 a3 t699 t700 t701 t702 t703 t704 t705 t708 t711 t712 _ ?side1 ?side2 A10.out).mono ?_); (case side1 => exact HO0_6.out); (case side2 => exact HO0_7.out); rintro e w40 ⟨v706, v709, rfl, ho0, ho1, hb⟩; refine ⟨_, rfl, ?_⟩; have HO707 := Aside0.mk (Kd.V_lower (Kd.V_mono (ok' := fun k_ => ((P0_6_ k_ ∨ P0_7_ k_) ∨ w.heap.size ≤ k_) ∧ some k_ ≠ (.slice Ao22 y649.length co22 : Value).ownBlock ∧ some k_ ≠ (.slice Ao26 t660.length co26 : Value).ownBlock ∧ some k_ ≠ (.slice Ao27 t663.length co27 : Value).ownBlock ∧ some k_ ≠ (.slice Ao31 t675.length co31 : Value).ownBlock ∧ some k_ ≠ (.slice Ao32 t678.length co32 : Value).ownBlock ∧ some k_ ≠ (.slice Ao36 t690.length co36 : Value).ownBlock ∧ some k_ ≠ (.slice Ao37 t693.length co37 : Value).ownBlock ∧ k_ ≠ gb648 ∧ k_ ≠ gb668 ∧ k_ ≠ gb683 ∧ k_ ≠ gb698) ho0 (fun k_ hk_ => ⟨Or.elim hk_ (fun hs_ => Or.elim hs_ (fun hs_ => hs_.1.1.1.1.1.1.1.1.1.1.1) (fun hs_ => hs_.1.1.1.1.1.1.1.1.1.1.1)) (fun hn_ => (.inr (Nat.le_trans (below_size lbt_) hn_))), Or.elim hk_ (fun hs_ => Or.elim hs_ (fun hs_ => hs_.1.1.1.1.1.1.1.1.1.2) (fun hs_ => hs_.1.1.1.1.1.1.1.1.1.2)) (fun hn_ => (Kd.fresh' (Kd.N_lt (kn_ HO651.out)) k_ hn_)), Or.elim hk_ (fun hs_ => Or.elim hs_ (fun hs_ => hs_.1.1.1.1.1.1.1.1.2) (fun hs_ => hs_.1.1.1.1.1.1.1.1.2)) (fun hn_ => (Kd.fresh' (Kd.R_lt (kr_ HO662.out)) k_ hn_)), Or.elim hk_ (fun hs_ => Or.elim hs_ (fun hs_ => hs_.1.1.1.1.1.1.1.2) (fun hs_ => hs_.1.1.1.1.1.1.1.2)) (fun hn_ => (Kd.fresh' (Kd.R_lt (kr_ HO665.out)) k_ hn_)), Or.elim hk_ (fun hs_ => Or.elim hs_ (fun hs_ => hs_.1.1.1.1.1.2) (fun hs_ => hs_.1.1.1.1.1.2)) (fun hn_ => (Kd.fresh' (Kd.R_lt (kr_ HO677.out)) k_ hn_)), Or.elim hk_ (fun hs_ => Or.elim hs_ (fun hs_ => hs_.1.1.1.1.2) (fun hs_ => hs_.1.1.1.1.2)) (fun hn_ => (Kd.fresh' (Kd.R_lt (kr_ HO680.out)) k_ hn_)), Or.elim hk_ (fun hs_ => Or.elim hs_ (fun hs_ => hs_.1.1.2) (fun hs_ => hs_.1.1.2)) (fun hn_ => (Kd.fresh' (Kd.R_lt (kr_ HO692.out)) k_ hn_)), Or.elim hk_ (fun hs_ => Or.elim hs_ (fun hs_ => hs_.1.2) (fun hs_ => hs_.1.2)) (fun hn_ => (Kd.fresh' (Kd.R_lt (kr_ HO695.out)) k_ hn_)), Or.elim hk_ (fun hs_ => Or.elim hs_ (fun hs_ => hs_.1.1.1.1.1.1.1.1.1.1.2) (fun hs_ => hs_.1.1.1.1.1.1.1.1.1.1.2)) (fun hn_ => (Kd.freshB (g := gb648) (o := .cells #[.int .i64 a0_0, .int .i64 a0_1, .int .i64 a0_2, .int .i64 a0_3, .int .i64 a0_4, .int .i64 a0_5, .slice A0_6 l0_6.length c0_6, .slice A0_7 l0_7.length c0_7, .bool a0_8] 29 (0, 0)) (kb_ BK648.out) k_ hn_)), Or.elim hk_ (fun hs_ => Or.elim hs_ (fun hs_ => hs_.1.1.1.1.1.1.2) (fun hs_ => hs_.1.1.1.1.1.1.2)) (fun hn_ => (Kd.freshB (g := gb668) (o := .cells #[.int .i64 t654, .int .i64 t655, .int .i64 t656, .int .i64 t657, .int .i64 t658, .int .i64 t659, .slice Ao26 t660.length co26, .slice Ao27 t663.length co27, .bool t666] 29 (0, 0)) (kb_ BK668.out) k_ hn_)), Or.elim hk_ (fun hs_ => Or.elim hs_ (fun hs_ => hs_.1.1.1.2) (fun hs_ => hs_.1.1.1.2)) (fun hn_ => (Kd.freshB (g := gb683) (o := .cells #[.int .i64 t669, .int .i64 t670, .int .i64 t671, .int .i64 t672, .int .i64 t673, .int .i64 t674, .slice Ao31 t675.length co31, .slice Ao32 t678.length co32, .bool t681] 29 (0, 0)) (kb_ BK683.out) k_ hn_)), Or.elim hk_ (fun hs_ => Or.elim hs_ (fun hs_ => hs_.2) (fun hs_ => hs_.2)) (fun hn_ => (Kd.freshB (g := gb698) (o := .cells #[.int .i64 t684, .int .i64 t685, .int .i64 t686, .int .i64 t687, .int .i64 t688, .int .i64 t689, .slice Ao36 t690.length co36, .slice Ao37 t693.length co37, .bool t696] 29 (0, 0)) (kb_ BK698.out) k_ hn_))⟩)) (below_size lbt_)); have HO710 := Aside0.mk (Kd.V_lower (Kd.V_mono (ok' := fun k_ => ((P0_6_ k_ ∨ P0_7_ k_) ∨ w.heap.size ≤ k_) ∧ some k_ ≠ (.slice Ao22 y649.length co22 : Value).ownBlock ∧ some k_ ≠ (.slice Ao26 t660.length co26 : Value).ownBlock ∧ some k_ ≠ (.slice Ao27 t663.length co27 : Value).ownBlock ∧ some k_ ≠ (.slice Ao31 t675.length co31 : Value).ownBlock ∧ some k_ ≠ (.slice Ao32 t678.length co32 : Value).ownBlock ∧ some k_ ≠ (.slice Ao36 t690.length co36 : Value).ownBlock ∧ some k_ ≠ (.slice Ao37 t693.length co37 : Value).ownBlock ∧ k_ ≠ gb648 ∧ k_ ≠ gb668 ∧ k_ ≠ gb683 ∧ k_ ≠ gb698) ho1 (fun k_ hk_ => ⟨Or.elim hk_ (fun hs_ => Or.elim hs_ (fun hs_ => hs_.1.1.1.1.1.1.1.1.1.1.1) (fun hs_ => hs_.1.1.1.1.1.1.1.1.1.1.1)) (fun hn_ => (.inr (Nat.le_trans (below_size lbt_) hn_))), Or.elim hk_ (fun hs_ => Or.elim hs_ (fun hs_ => hs_.1.1.1.1.1.1.1.1.1.2) (fun hs_ => hs_.1.1.1.1.1.1.1.1.1.2)) (fun hn_ => (Kd.fresh' (Kd.N_lt (kn_ HO651.out)) k_ hn_)), Or.elim hk_ (fun hs_ => Or.elim hs_ (fun hs_ => hs_.1.1.1.1.1.1.1.1.2) (fun hs_ => hs_.1.1.1.1.1.1.1.1.2)) (fun hn_ => (Kd.fresh' (Kd.R_lt (kr_ HO662.out)) k_ hn_)), Or.elim hk_ (fun hs_ => Or.elim hs_ (fun hs_ => hs_.1.1.1.1.1.1.1.2) (fun hs_ => hs_.1.1.1.1.1.1.1.2)) (fun hn_ => (Kd.fresh' (Kd.R_lt (kr_ HO665.out)) k_ hn_)), Or.elim hk_ (fun hs_ => Or.elim hs_ (fun hs_ => hs_.1.1.1.1.1.2) (fun hs_ => hs_.1.1.1.1.1.2)) (fun hn_ => (Kd.fresh' (Kd.R_lt (kr_ HO677.out)) k_ hn_)), Or.elim hk_ (fun hs_ => Or.elim hs_ (fun hs_ => hs_.1.1.1.1.2) (fun hs_ => hs_.1.1.1.1.2)) (fun hn_ => (Kd.fresh' (Kd.R_lt (kr_ HO680.out)) k_ hn_)), Or.elim hk_ (fun hs_ => Or.elim hs_ (fun hs_ => hs_.1.1.2) (fun hs_ => hs_.1.1.2)) (fun hn_ => (Kd.fresh' (Kd.R_lt (kr_ HO692.out)) k_ hn_)), Or.elim hk_ (fun hs_ => Or.elim hs_ (fun hs_ => hs_.1.2) (fun hs_ => hs_.1.2)) (fun hn_ => (Kd.fresh' (Kd.R_lt (kr_ HO695.out)) k_ hn_)), Or.elim hk_ (fun hs_ => Or.elim hs_ (fun hs_ => hs_.1.1.1.1.1.1.1.1.1.1.2) (fun hs_ => hs_.1.1.1.1.1.1.1.1.1.1.2)) (fun hn_ => (Kd.freshB (g := gb648) (o := .cells #[.int .i64 a0_0, .int .i64 a0_1, .int .i64 a0_2, .int .i64 a0_3, .int .i64 a0_4, .int .i64 a0_5, .slice A0_6 l0_6.length c0_6, .slice A0_7 l0_7.length c0_7, .bool a0_8] 29 (0, 0)) (kb_ BK648.out) k_ hn_)), Or.elim hk_ (fun hs_ => Or.elim hs_ (fun hs_ => hs_.1.1.1.1.1.1.2) (fun hs_ => hs_.1.1.1.1.1.1.2)) (fun hn_ => (Kd.freshB (g := gb668) (o := .cells #[.int .i64 t654, .int .i64 t655, .int .i64 t656, .int .i64 t657, .int .i64 t658, .int .i64 t659, .slice Ao26 t660.length co26, .slice Ao27 t663.length co27, .bool t666] 29 (0, 0)) (kb_ BK668.out) k_ hn_)), Or.elim hk_ (fun hs_ => Or.elim hs_ (fun hs_ => hs_.1.1.1.2) (fun hs_ => hs_.1.1.1.2)) (fun hn_ => (Kd.freshB (g := gb683) (o := .cells #[.int .i64 t669, .int .i64 t670, .int .i64 t671, .int .i64 t672, .int .i64 t673, .int .i64 t674, .slice Ao31 t675.length co31, .slice Ao32 t678.length co32, .bool t681] 29 (0, 0)) (kb_ BK683.out) k_ hn_)), Or.elim hk_ (fun hs_ => Or.elim hs_ (fun hs_ => hs_.2) (fun hs_ => hs_.2)) (fun hn_ => (Kd.freshB (g := gb698) (o := .cells #[.int .i64 t684, .int .i64 t685, .int .i64 t686, .int .i64 t687, .int .i64 t688, .int .i64 t689, .slice Ao36 t690.length co36, .slice Ao37 t693.length co37, .bool t696] 29 (0, 0)) (kb_ BK698.out) k_ hn_))⟩)) (below_size lbt_)); replace HO0_6 := vb_ HO0_6 hb; replace HO0_7 := vb_ HO0_7 hb; replace HO651 := nb2_ HO651 hb; replace HO662 := rb_ HO662 hb; replace HO665 := rb_ HO665 hb; replace HO677 := rb_ HO677 hb; replace HO680 := rb_ HO680 hb; replace HO692 := rb_ HO692 hb; replace HO695 := rb_ HO695 hb; replace BK648 := bb_ BK648 hb; replace BK668 := bb_ BK668 hb; replace BK683 := bb_ BK683 hb; replace BK698 := bb_ BK698 hb; replace HB := hs_ HB hb; (try clear hb); (try clear hk); (try clear hi); (try clear ho0); (try clear ho1); obtain ⟨Ao41, co41, eo41⟩ := Kd.V_slice HO707.out; subst eo41; obtain ⟨Ao42, co42, eo42⟩ := Kd.V_slice HO710.out; subst eo42) | ((with_reducible refine gate_dst (N := 15) rfl ?_); refine alloc_store_event ?hg1 (N := 15) ?hd1 ?hg2 ?hd2 ?ho2 (cs0 := #[.int .i64 0, .int .i64 0, .int .i64 0, .int .i64 0, .int .i64 0, .int .i64 0, .slice none 0 0, .slice none 0 0, .bool false]) (cs := #[.int .i64 t699, .int .i64 t700, .int .i64 t701, .int .i64 t702, .int .i64 t703, .int .i64 t704, .slice Ao41 t705.length co41, .slice Ao42 t708.length co42, .bool t711]) (t := 29) (x := ?xxw43) ?hr ?hp ?hx ?hs ?h1 ?ht ?_; (case hg1 => rfl); (case hd1 => rfl); (case hg2 => rfl); (case hd2 => rfl); (case ho2 => rfl); (case hr => first | (go_simp; done) | (go_simp; rfl)); (case hp => rfl); (case hx => rfl); (case hs => rfl); (case h1 => rfl); (case ht => kernel_rfl); intro gb713 hg w43 hbox hb; have BK713 := Aside0.mk hbox; have GE713 := ge_ HB hg; replace HO0_6 := ve_ HO0_6 hg hb; replace HO0_7 := ve_ HO0_7 hg hb; replace HO651 := ne_ HO651 hg hb; replace HO662 := rb_ HO662 hb; replace HO665 := rb_ HO665 hb; replace HO677 := rb_ HO677 hb; replace HO680 := rb_ HO680 hb; replace HO692 := rb_ HO692 hb; replace HO695 := rb_ HO695 hb; replace HO707 := ve_ HO707 hg hb; replace HO710 := ve_ HO710 hg hb; replace BK648 := bb_ BK648 hb; replace BK668 := bb_ BK668 hb; replace BK683 := bb_ BK683 hb; replace BK698 := bb_ BK698 hb; replace HB := hs_ HB hb; clear hb hbox hg) | ((with_reducible refine gate_dst (N := 48) rfl ?_); (try (refine gate_guard (by rfl) ?_; dsimp only)); refine bl_ 48 BK668.out ⟨_, Try.underlying29, rfl⟩ ?_) | ((with_reducible refine gate_dst (N := 49) rfl ?_); (try (refine gate_guard (by rfl) ?_; dsimp only)); refine bl_ 49 BK683.out ⟨_, Try.underlying29, rfl⟩ ?_) | ((with_reducible refine gate_callee (f := 11) rfl ?_); refine gl_ (some 50) Try.func11 #[.agg #[.int .i64 t654, .int .i64 t655, .int .i64 t656, .int .i64 t657, .int .i64 t658, .int .i64 t659, .slice Ao26 t660.length co26, .slice Ao27 t663.length co27, .bool t666], .agg #[.int .i64 t669, .int .i64 t670, .int .i64 t671, .int .i64 t672, .int .i64 t673, .int .i64 t674, .slice Ao31 t675.length co31, .slice Ao32 t678.length co32, .bool t681]] ?_; (with_reducible refine (althingref05_Same.calls k t654 t655 t656 t657 t658 t659 _ _ t660 _ _ t663 t666 t669 t670 t671 t672 t673 t674 _ _ t675 _ _ t678 t681 true _ ?side1 ?side2 ?side3 ?side4 ?side5 ?side6 ?side7 ?side8 A11.out).mono ?_); (case side1 => repeat (first | exact (Kd.R_reads' HO662.out).2.2 | (with_reducible refine Kd.C_alloc ?_ _) | (with_reducible refine Kd.C_drewN ?_ _) | (with_reducible refine Kd.C_drew ?_))); (case side2 => exact (Kd.R_reads' HO662.out).2.1); (case side3 => repeat (first | exact (Kd.R_reads' HO665.out).2.2 | (with_reducible refine Kd.C_alloc ?_ _) | (with_reducible refine Kd.C_drewN ?_ _) | (with_reducible refine Kd.C_drew ?_))); (case side4 => exact (Kd.R_reads' HO665.out).2.1); (case side5 => repeat (first | exact (Kd.R_reads' HO677.out).2.2 | (with_reducible refine Kd.C_alloc ?_ _) | (with_reducible refine Kd.C_drewN ?_ _) | (with_reducible refine Kd.C_drew ?_))); (case side6 => exact (Kd.R_reads' HO677.out).2.1); (case side7 => repeat (first | exact (Kd.R_reads' HO680.out).2.2 | (with_reducible refine Kd.C_alloc ?_ _) | (with_reducible refine Kd.C_drewN ?_ _) | (with_reducible refine Kd.C_drew ?_))); (case side8 => exact (Kd.R_reads' HO680.out).2.1); rintro e w46 ⟨rfl, hb⟩; refine ⟨_, rfl, ?_⟩; replace HO0_6 := vb_ HO0_6 hb; replace HO0_7 := vb_ HO0_7 hb; replace HO651 := nb2_ HO651 hb; replace HO662 := rb_ HO662 hb; replace HO665 := rb_ HO665 hb; replace HO677 := rb_ HO677 hb; replace HO680 := rb_ HO680 hb; replace HO692 := rb_ HO692 hb; replace HO695 := rb_ HO695 hb; replace HO707 := vb_ HO707 hb; replace HO710 := vb_ HO710 hb; replace BK648 := bb_ BK648 hb; replace BK668 := bb_ BK668 hb; replace BK683 := bb_ BK683 hb; replace BK698 := bb_ BK698 hb; replace BK713 := bb_ BK713 hb; replace HB := hs_ HB hb; (try clear hb); (try clear hk); (try clear hi)) | ((with_reducible refine gate_dst (N := 57) rfl ?_); (try (refine gate_guard (by rfl) ?_; dsimp only)); refine bl_ 57 BK698.out ⟨_, Try.underlying29, rfl⟩ ?_) | ((with_reducible refine gate_dst (N := 58) rfl ?_); (try (refine gate_guard (by rfl) ?_; dsimp only)); refine bl_ 58 BK713.out ⟨_, Try.underlying29, rfl⟩ ?_) | (go_at_call 11; (with_reducible refine (althingref05_Same.calls k t684 t685 t686 t687 t688 t689 _ _ t690 _ _ t693 t696 t699 t700 t701 t702 t703 t704 _ _ t705 _ _ t708 t711 true _ ?side1 ?side2 ?side3 ?side4 ?side5 ?side6 ?side7 ?side8 A14.out).mono ?_); (case side1 => repeat (first | exact (Kd.R_reads' HO692.out).2.2 | (with_reducible refine Kd.C_alloc ?_ _) | (with_reducible refine Kd.C_drewN ?_ _) | (with_reducible refine Kd.C_drew ?_))); (case side2 => exact (Kd.R_reads' HO692.out).2.1); (case side3 => repeat (first | exact (Kd.R_reads' HO695.out).2.2 | (with_reducible refine Kd.C_alloc ?_ _) | (with_reducible refine Kd.C_drewN ?_ _) | (with_reducible refine Kd.C_drew ?_))); (case side4 => exact (Kd.R_reads' HO695.out).2.1); (case side5 => repeat (first | exact (Kd.V_reads' HO707.out).2.2 | (with_reducible refine Kd.C_alloc ?_ _) | (with_reducible refine Kd.C_drewN ?_ _) | (with_reducible refine Kd.C_drew ?_))); (case side6 => exact (Kd.V_reads' HO707.out).2.1); (case side7 => repeat (first | exact (Kd.V_reads' HO710.out).2.2 | (with_reducible refine Kd.C_alloc ?_ _) | (with_reducible refine Kd.C_drewN ?_ _) | (with_reducible refine Kd.C_drew ?_))); (case side8 => exact (Kd.V_reads' HO710.out).2.1); rintro e w49 ⟨rfl, hb⟩; replace HO0_6 := vb_ HO0_6 hb; replace HO0_7 := vb_ HO0_7 hb; replace HO651 := nb2_ HO651 hb; replace HO662 := rb_ HO662 hb; replace HO665 := rb_ HO665 hb; replace HO677 := rb_ HO677 hb; replace HO680 := rb_ HO680 hb; replace HO692 := rb_ HO692 hb; replace HO695 := rb_ HO695 hb; replace HO707 := vb_ HO707 hb; replace HO710 := vb_ HO710 hb; replace BK648 := bb_ BK648 hb; replace BK668 := bb_ BK668 hb; replace BK683 := bb_ BK683 hb; replace BK698 := bb_ BK698 hb; replace BK713 := bb_ BK713 hb; replace HB := hs_ HB hb; (try clear hb); (try clear hk); (try clear hi)) | ((with_reducible refine gate_dst (N := 67) rfl ?_); (try (refine gate_guard (by rfl) ?_; dsimp only)); refine goesL_ (some 67) rfl rfl Try.func9 (by kernel_rfl) rfl #[] rfl (by (try simp only [List.map_toArray, List.map_cons, List.map_nil]); first | done | rfl) ?_; (with_reducible refine (althinglaw05_awake.calls k  t716 _ A17.out).mono ?_); rintro e w50 ⟨rfl, hb⟩; refine ⟨_, rfl, ?_⟩; replace HO0_6 := vb_ HO0_6 hb; replace HO0_7 := vb_ HO0_7 hb; replace HO651 := nb2_ HO651 hb; replace HO662 := rb_ HO662 hb; replace HO665 := rb_ HO665 hb; replace HO677 := rb_ HO677 hb; replace HO680 := rb_ HO680 hb; replace HO692 := rb_ HO692 hb; replace HO695 := rb_ HO695 hb; replace HO707 := vb_ HO707 hb; replace HO710 := vb_ HO710 hb; replace BK648 := bb_ BK648 hb; replace BK668 := bb_ BK668 hb; replace BK683 := bb_ BK683 hb; replace BK698 := bb_ BK698 hb; replace BK713 := bb_ BK713 hb; replace HB := hs_ HB hb; (try clear hb); (try clear hk); (try clear hi)))
           go_ret
           exact ⟨by first | rfl | (simp [errW_none, errW_some] <;> rfl) | (simp [*, errW_none, errW_some] <;> rfl), by repeat (first | (with_reducible first | exact HB.out | apply below_alloc | apply pw_below_drewN | apply below_drew1 | refine below_set ?_ GE648.out | refine below_set ?_ GE668.out | refine below_set ?_ GE683.out | refine below_set ?_ GE698.out | refine below_set ?_ GE713.out) | exact HB.out)⟩
         · rw [if_neg c16] at H
           exact absurd H (by simp)
       · replace c15 := Bool.eq_false_iff.mpr c15
         subst c15
         rw [if_neg (show ¬ (false = true) by decide)] at H
         exact absurd H (by simp)
     · rw [if_neg c13] at H
       exact absurd H (by simp)
   · replace c12 := Bool.eq_false_iff.mpr c12
     subst c12
     rw [if_neg (show ¬ (false = true) by decide)] at H
     exact absurd H (by simp)
 · replace c6 := Bool.eq_false_iff.mpr c6
   subst c6
   rw [if_neg (show ¬ (false = true) by decide)] at H
   obtain ⟨t653, A51, H⟩ := bs_ H
   obtain rfl := Option.some.inj H
   go_enter Try.func7, Try.ntmps7
   go_wp2_with (first | ((with_reducible refine gate_dst (N := 4) rfl ?_); refine bx_ 4 29 #[.int .i64 a0_0, .int .i64 a0_1, .int .i64 a0_2, .int .i64 a0_3, .int .i64 a0_4, .int .i64 a0_5, .slice A0_6 l0_6.length c0_6, .slice A0_7 l0_7.length c0_7, .bool a0_8] ?_; intro gb648 hg w52 hbox hb; have BK648 := Aside0.mk hbox; have GE648 := ge_ HB hg; replace HO0_6 := ve_ HO0_6 hg hb; replace HO0_7 := ve_ HO0_7 hg hb; replace HB := hs_ HB hb; clear hb hbox hg) | ((with_reducible refine gate_dst (N := 17) rfl ?_); (try (refine gate_guard (by rfl) ?_; dsimp only)); refine bl_ 17 BK648.out ⟨_, Try.underlying29, rfl⟩ ?_) | ((with_reducible refine gate_dst (N := 18) rfl ?_); refine Kd.N_lit k29 _ 29 ?hg (N' := 18) ?hd (xs := ([(⟨a0_0, (⟨a0_1, a0_2⟩ : S23), (⟨a0_3, a0_4⟩ : S25), a0_5, l0_6, l0_7, a0_8⟩ : S29)] : List (S29))) (inner := [.int .i64 a0_0, .int .i64 a0_1, .int .i64 a0_2, .int .i64 a0_3, .int .i64 a0_4, .int .i64 a0_5, .slice A0_6 l0_6.length c0_6, .slice A0_7 l0_7.length c0_7, .bool a0_8]) (ok := (fun k_ => ((P0_6_ k_ ∨ P0_7_ k_) ∨ w.heap.size ≤ k_) ∧ k_ ≠ gb648)) (okp := (fun k_ => ((P0_6_ k_ ∨ P0_7_ k_) ∨ w.heap.size ≤ k_) ∧ k_ ≠ gb648)) ?hr ?hp (fun _ hk => hk) ((show ∀ k_, w52.heap.size ≤ k_ → (fun k_ => ((P0_6_ k_ ∨ P0_7_ k_) ∨ w.heap.size ≤ k_) ∧ k_ ≠ gb648) k_ from fun k_ hk => ⟨(.inr (Nat.le_trans (below_size lbt_) hk)), Kd.freshB (g := gb648) (o := .cells #[.int .i64 a0_0, .int .i64 a0_1, .int .i64 a0_2, .int .i64 a0_3, .int .i64 a0_4, .int .i64 a0_5, .slice A0_6 l0_6.length c0_6, .slice A0_7 l0_7.length c0_7, .bool a0_8] 29 (0, 0)) (kb_ BK648.out) k_ hk⟩) _ (Nat.le_refl _)) (Below.refl _ _) (Nat.le_refl _) (by simp) ?_; (case hd => rfl); (case hg => rfl); (case hr => first | (go_simp; done) | (go_simp; rfl)); (case hp => exact (Reps.c9 (show Kd.FK k29 _ _ (⟨a0_0, (⟨a0_1, a0_2⟩ : S23), (⟨a0_3, a0_4⟩ : S25), a0_5, l0_6, l0_7, a0_8⟩ : S29) [.int .i64 a0_0, .int .i64 a0_1, .int .i64 a0_2, .int .i64 a0_3, .int .i64 a0_4, .int .i64 a0_5, .slice A0_6 l0_6.length c0_6, .slice A0_7 l0_7.length c0_7, .bool a0_8] from (k29_mkF _ _ (⟨a0_0, (⟨a0_1, a0_2⟩ : S23), (⟨a0_3, a0_4⟩ : S25), a0_5, l0_6, l0_7, a0_8⟩ : S29) (Kd.V_reads' (Kd.V_mono (ok' := (fun k_ => ((P0_6_ k_ ∨ P0_7_ k_) ∨ w.heap.size ≤ k_) ∧ k_ ≠ gb648)) (HO0_6.out) (fun k_ hk => ⟨hk.1, hk.2⟩))).2.1 (Kd.V_F (Kd.V_mono (ok' := (fun k_ => ((P0_6_ k_ ∨ P0_7_ k_) ∨ w.heap.size ≤ k_) ∧ k_ ≠ gb648)) (HO0_6.out) (fun k_ hk => ⟨hk.1, hk.2⟩))) (Kd.V_reads' (Kd.V_mono (ok' := (fun k_ => ((P0_6_ k_ ∨ P0_7_ k_) ∨ w.heap.size ≤ k_) ∧ k_ ≠ gb648)) (HO0_7.out) (fun k_ hk => ⟨hk.1, hk.2⟩))).2.1 (Kd.V_F (Kd.V_mono (ok' := (fun k_ => ((P0_6_ k_ ∨ P0_7_ k_) ∨ w.heap.size ≤ k_) ∧ k_ ≠ gb648)) (HO0_7.out) (fun k_ hk => ⟨hk.1, hk.2⟩))))) (Reps.none _ _))); intro v650 w54 ho55 hb hg_ hnew_; clear hg_ hnew_; (first | rw [← Ny649.out] at ho55 | (simp only [Int.reduceToNat] at ho55; rw [← Ny649.out] at ho55)); have HO651 := Aside0.mk (Kd.N_lower ho55 (below_size lbt_)); replace HO0_6 := Aside0.mk (Kd.V_elder' (kv_ HO0_6.out) (Kd.N_base ho55) hb); replace HO0_7 := Aside0.mk (Kd.V_elder' (kv_ HO0_7.out) (Kd.N_base ho55) hb); replace BK648 := bb_ BK648 hb; replace HB := hs_ HB hb; clear hb ho55; obtain ⟨Ao56, co56, eo56⟩ := Kd.N_slice HO651.out; subst eo56) | ((with_reducible refine gate_callee (f := 8) rfl ?_); refine gl_ (some 19) Try.func8 #[.slice Ao56 y649.length co56] ?_; (with_reducible refine (althinglaw05_Few.calls k _ _ y649 false _ ?side1 ?side2 A5.out).mono ?_); (case side1 => repeat (first | exact (Kd.N_reads' HO651.out).2.2 | (with_reducible refine Kd.C_alloc ?_ _) | (with_reducible refine Kd.C_drewN ?_ _) | (with_reducible refine Kd.C_drew ?_))); (case side2 => exact (Kd.N_reads' HO651.out).2.1); rintro e w57 ⟨rfl, hb⟩; refine ⟨_, rfl, ?_⟩; replace HO0_6 := vb_ HO0_6 hb; replace HO0_7 := vb_ HO0_7 hb; replace HO651 := nb2_ HO651 hb; replace BK648 := bb_ BK648 hb; replace HB := hs_ HB hb; (try clear hb); (try clear hk); (try clear hi)) | ((with_reducible refine gate_callee (f := 9) rfl ?_); refine gl_ (some 21) Try.func9 #[] ?_; (with_reducible refine (althinglaw05_awake.calls k  t653 _ A51.out).mono ?_); rintro e w58 ⟨rfl, hb⟩; refine ⟨_, rfl, ?_⟩; replace HO0_6 := vb_ HO0_6 hb; replace HO0_7 := vb_ HO0_7 hb; replace HO651 := nb2_ HO651 hb; replace BK648 := bb_ BK648 hb; replace HB := hs_ HB hb; (try clear hb); (try clear hk); (try clear hi)))
   go_ret
   exact ⟨by first | rfl | (simp [errW_none, errW_some] <;> rfl) | (simp [*, errW_none, errW_some] <;> rfl), by repeat (first | (with_reducible first | exact HB.out | apply below_alloc | apply pw_below_drewN | apply below_drew1 | refine below_set ?_ GE648.out) | exact HB.out)⟩
end Go.Proofs.Ytnjeeedndnfglaa.X
end
section
namespace Go.Proofs.Ytnjeeedndnfglaa.Strs
open Go.RowKit Go.Proofs.YtnjeeedndnfglaaW.PrintWords Go.Proofs.YtnjeeedndnfglaaW.PrintLast Go.Proofs.YtnjeeedndnfglaaW.PrintMore Go.Proofs.Ytnjeeedndnfglaa.X
set_option linter.unusedSimpArgs false
set_option linter.unusedVariables false
theorem Ev.const {α : Type} {g : Option α} {r : α} (h : g = some r) : Ev (fun _ => g) r := ⟨0, fun _ _ => h⟩
theorem w1 (i : Nat) (h : i ≤ 100000000) : wrap64 ((i : Int) + 1) = ((i + 1 : Nat) : Int) := by unfold wrap64; omega
theorem few_big {l : List ByteArray} (h : few l) : big l := ⟨by have := h.1; omega, fun x hx => by have := h.2 x hx; omega⟩
theorem join_f {a b : List ByteArray} (ha : big a) (hb : big b) : keys_Join.f a b = some (joinB a b) := by unfold keys_Join.f; rw [if_pos ⟨ha, hb⟩]
theorem less_blt (x y : ByteArray) : Op.bytesLess x.toList y.toList = true ↔ blt x y := by
  rw [toList_eq, toList_eq, bytesLess_eq, decide_eq_true_eq]
  exact Iff.rfl
end Go.Proofs.Ytnjeeedndnfglaa.Strs
end
section
namespace Go.Proofs.Ytnjeeedndnfglaa.Strs
open Go.RowKit Go.Proofs.Ytnjeeedndnfglaa.Keys Go.Proofs.YtnjeeedndnfglaaW.PrintWords Go.Proofs.YtnjeeedndnfglaaW.PrintLast Go.Proofs.YtnjeeedndnfglaaW.PrintMore Go.Proofs.Ytnjeeedndnfglaa.X
set_option linter.unusedSimpArgs false
set_option linter.unusedVariables false
theorem Ev.scan {F : Nat → Int → Option Bool} (n : Nat) (ok : Nat → Bool) (fin : Bool)
    (h1 : ∀ i, i < n → ok i = true → ∀ r, Ev (fun k => F k ((i + 1 : Nat) : Int)) r → Ev (fun k => F k (i : Int)) r)
    (h2 : ∀ i, i < n → ok i = false → Ev (fun k => F k (i : Int)) false) (h3 : Ev (fun k => F k (n : Int)) fin) : Ev (fun k => F k 0) ((List.range n).all ok && fin) := by
  have h : ∀ d i, i + d = n → Ev (fun k => F k (i : Int)) ((List.range' i d).all ok && fin) := by
    intro d
    induction d with
    | zero =>
      intro i hi
      obtain rfl : i = n := by omega
      simpa using h3
    | succ d ih =>
      intro i hi
      rw [List.range'_succ, List.all_cons]
      cases hk : ok i with
      | true => simpa using h1 i (by omega) hk _ (ih (i + 1) (by omega))
      | false => simpa using h2 i (by omega) hk
  have := h n 0 (by omega)
  rwa [← List.range_eq_range'] at this
def okAt (l : List ByteArray) (i : Nat) : Bool := okKey (l.getD i ByteArray.empty) && (decide (i = 0) || decide (blt (l.getD (i - 1) ByteArray.empty) (l.getD i ByteArray.empty)))
def rightsB (l : List ByteArray) : Bool := (List.range l.length).all (okAt l) && decide (l.length ≤ 8)
theorem getD_at (l : List ByteArray) (i : Nat) (h : i < l.length) : l.getD i ByteArray.empty = l[i] := by simp [List.getD_eq_getElem?_getD, h]
theorem rightsB_iff (l : List ByteArray) : rightsB l = true ↔ (∀ x ∈ l, okKey x = true) ∧ l.Pairwise blt ∧ l.length ≤ 8 := by
  unfold rightsB
  rw [Bool.and_eq_true, List.all_eq_true, decide_eq_true_eq]
  constructor
  · rintro ⟨h, h8⟩
    have h' : ∀ i, i < l.length → okAt l i = true := fun i hi => h i (by simpa using hi)
    refine ⟨fun x hx => ?_, ?_, h8⟩
    · obtain ⟨i, hi, rfl⟩ := List.getElem_of_mem hx
      have := h' i hi
      unfold okAt at this
      rw [Bool.and_eq_true, getD_at l i hi] at this
      exact this.1
    · have hadj : ∀ i, (hi : i + 1 < l.length) → blt l[i] l[i + 1] := fun i hi => by
        have := h' (i + 1) hi
        unfold okAt at this
        rw [Bool.and_eq_true, getD_at l (i + 1) hi, show i + 1 - 1 = i by omega, getD_at l i (by omega), Bool.or_eq_true, decide_eq_true_eq, decide_eq_true_eq] at this
        rcases this.2 with h0 | h0
        · omega
        · exact h0
      rw [List.pairwise_iff_getElem]
      intro i j hi hj hij
      obtain ⟨d, rfl⟩ : ∃ d, j = i + 1 + d := ⟨j - i - 1, by omega⟩
      clear hij
      induction d with
      | zero => exact hadj i hj
      | succ d ih => exact blt_trans _ _ _ (ih (by omega)) (hadj (i + 1 + d) hj)
  · rintro ⟨hok, hp, h8⟩
    refine ⟨fun i hi => ?_, h8⟩
    have hil : i < l.length := by simpa using hi
    unfold okAt
    rw [Bool.and_eq_true, getD_at l i hil, Bool.or_eq_true, decide_eq_true_eq, decide_eq_true_eq]
    refine ⟨hok _ (List.getElem_mem hil), ?_⟩
    by_cases h0 : i = 0
    · exact .inl h0
    · right
      rw [getD_at l (i - 1) (by omega)]
      exact (List.pairwise_iff_getElem.1 hp) (i - 1) i (by omega) hil (by omega)
theorem right_f (x : ByteArray) : keys_Right.f x = some (okKey x) := by
  unfold keys_Right.f okKey
  by_cases h : (x.size : Int) ≥ 1
  · rw [if_pos h]; congr 1; rw [decide_eq_decide]; omega
  · rw [if_neg h]; congr 1; symm; rw [decide_eq_false_iff_not]; omega
theorem rd_getD (l : List ByteArray) (i : Nat) : rdOf ByteArray.empty l (i : Int) = l.getD i ByteArray.empty := by unfold rdOf; rw [Int.toNat_natCast]
theorem wm1 (i : Nat) (h : i ≤ 100000000) (h0 : i ≠ 0) : wrap64 ((i : Int) - 1) = ((i - 1 : Nat) : Int) := by unfold wrap64; omega
theorem rights_is (l : List ByteArray) (hl : l.length ≤ 2000) : Ev (fun k => keys_Rights.f k l) (rightsB l) := by
  refine Ev.scan (F := fun k i => keys_Rights.l0 k l l (l.length : Int) i) l.length (okAt l) _ (fun i hi hok r hr => ?_) (fun i hi hok => ?_) ?_
  · refine Ev.step (fun k => ?_) hr
    simp only [keys_Rights.l0]
    unfold okAt at hok
    rw [Bool.and_eq_true] at hok
    rw [if_pos (by omega), if_pos (by omega), if_pos (by omega), right_f, Option.bind_some, rd_getD, hok.1, if_pos rfl]
    by_cases h0 : i = 0
    · rw [if_neg (by omega), w1 i (by omega)]
    · have hb : blt (l.getD (i - 1) ByteArray.empty) (l.getD i ByteArray.empty) := by simpa [h0] using hok.2
      rw [if_pos (by omega), wm1 i (by omega) h0, if_pos (by omega), if_pos (by omega), rd_getD, if_pos ((less_blt _ _).2 hb), w1 i (by omega)]
  · refine Ev.step (f := fun _ => some false) (fun k => ?_) (Ev.const rfl)
    simp only [keys_Rights.l0]
    unfold okAt at hok
    rw [if_pos (by omega), if_pos (by omega), if_pos (by omega), right_f, Option.bind_some, rd_getD]
    cases ho : okKey (l.getD i ByteArray.empty) with
    | false => rw [if_neg (by simp)]
    | true =>
      rw [ho, Bool.true_and, Bool.or_eq_false_iff, decide_eq_false_iff_not, decide_eq_false_iff_not] at hok
      rw [if_pos rfl, if_pos (by omega), wm1 i (by omega) hok.1, if_pos (by omega), if_pos (by omega), rd_getD, if_neg (fun e => hok.2 ((less_blt _ _).1 e))]
  · refine Ev.step (f := fun _ => some (decide ((l.length : Int) ≤ 8))) (fun k => ?_) (Ev.const ?_)
    · simp only [keys_Rights.l0]
      rw [if_neg (by omega)]
    · congr 1; rw [decide_eq_decide]; omega
end Go.Proofs.Ytnjeeedndnfglaa.Strs
end
section
namespace Go.Proofs.Ytnjeeedndnfglaa.Strs
open Go.RowKit Go.Proofs.Ytnjeeedndnfglaa.Keys Go.Proofs.YtnjeeedndnfglaaW.PrintWords Go.Proofs.YtnjeeedndnfglaaW.PrintLast Go.Proofs.YtnjeeedndnfglaaW.PrintMore Go.Proofs.Ytnjeeedndnfglaa.X
set_option linter.unusedSimpArgs false
set_option linter.unusedVariables false
theorem Ev.bindT {β : Type} {g : Nat → Option Bool} {f1 f2 : Nat → Option β} {r : β} (h : Ev g true) (k : Ev f1 r) : Ev (fun n => (g n).bind fun t => if t = true then f1 n else f2 n) r := Ev.bind h (Ev.congr (fun _ => if_pos rfl) k)
theorem Ev.bindF {β : Type} {g : Nat → Option Bool} {f1 f2 : Nat → Option β} {r : β} (h : Ev g false) (k : Ev f2 r) : Ev (fun n => (g n).bind fun t => if t = true then f1 n else f2 n) r := Ev.bind h (Ev.congr (fun _ => if_neg (by simp)) k)
abbrev Rd := S38
abbrev Wr := S40
abbrev Cm := S29
def rk (r : List Rd) : List ByteArray := r.map (·.f0)
def wk (w : List Wr) : List ByteArray := w.map (·.f0)
theorem rdR (r : List Rd) (i : Nat) (h : i < r.length) : rd_T38 r (i : Int) = r[i] := by unfold rd_T38; rw [Int.toNat_natCast]; simp [List.getD_eq_getElem?_getD, h]
theorem rdW (w : List Wr) (i : Nat) (h : i < w.length) : rd_T40 w (i : Int) = w[i] := by unfold rd_T40; rw [Int.toNat_natCast]; simp [List.getD_eq_getElem?_getD, h]
theorem rdC (l : List Cm) (i : Nat) (h : i < l.length) : rd_T29 l (i : Int) = l[i] := by unfold rd_T29; rw [Int.toNat_natCast]; simp [List.getD_eq_getElem?_getD, h]
def small (r : List Rd) (w : List Wr) : Prop := r.length ≤ 20 ∧ w.length ≤ 20 ∧ (∀ x ∈ r, x.f0.size ≤ 100) ∧ ∀ x ∈ w, x.f0.size ≤ 100 ∧ x.f1.size ≤ 100
theorem small_nil : small [] [] := ⟨by simp, by simp, by simp, by simp⟩
theorem rk_few {r : List Rd} {w : List Wr} (h : small r w) : few (rk r) := ⟨by unfold rk; rw [List.length_map]; have := h.1; omega, fun x hx => by
  unfold rk at hx
  obtain ⟨y, hy, rfl⟩ := List.mem_map.1 hx
  exact h.2.2.1 y hy⟩
theorem wk_few {r : List Rd} {w : List Wr} (h : small r w) : few (wk w) := ⟨by unfold wk; rw [List.length_map]; have := h.2.1; omega, fun x hx => by
  unfold wk at hx
  obtain ⟨y, hy, rfl⟩ := List.mem_map.1 hx
  exact (h.2.2.2 y hy).1⟩
theorem read_l0 (r : List Rd) (hl : r.length ≤ 2000) : ∀ d i, i + d = r.length → Ev (fun k => command_read.l0 k (rk (r.take i)) r (r.length : Int) (i : Int)) (rk r)
  | 0, i, h => by
    refine Ev.step (f := fun _ => some (rk (r.take i))) (fun k => ?_) (Ev.const ?_)
    · simp only [command_read.l0]; rw [if_neg (by omega)]
    · rw [show i = r.length by omega, List.take_length]
  | d + 1, i, h => by
    have hi : i < r.length := by omega
    refine Ev.step (fun k => ?_) (read_l0 r hl d (i + 1) (by omega))
    simp only [command_read.l0]
    rw [if_pos (by omega), if_pos (by omega), if_pos (by omega), if_pos (by unfold rk; rw [List.length_map, List.length_take]; omega), rdR r i hi, w1 i (by omega), List.take_succ_eq_append_getElem hi]
    unfold rk
    rw [List.map_append]; rfl
theorem written_l0 (r : List Wr) (hl : r.length ≤ 2000) : ∀ d i, i + d = r.length → Ev (fun k => command_written.l0 k (wk (r.take i)) r (r.length : Int) (i : Int)) (wk r)
  | 0, i, h => by
    refine Ev.step (f := fun _ => some (wk (r.take i))) (fun k => ?_) (Ev.const ?_)
    · simp only [command_written.l0]; rw [if_neg (by omega)]
    · rw [show i = r.length by omega, List.take_length]
  | d + 1, i, h => by
    have hi : i < r.length := by omega
    refine Ev.step (fun k => ?_) (written_l0 r hl d (i + 1) (by omega))
    simp only [command_written.l0]
    rw [if_pos (by omega), if_pos (by omega), if_pos (by omega), if_pos (by unfold wk; rw [List.length_map, List.length_take]; omega), rdW r i hi, w1 i (by omega), List.take_succ_eq_append_getElem hi]
    unfold wk
    rw [List.map_append]; rfl
section
variable (a b c d e s : Int) (r : List Rd) (w : List Wr) (m : Bool) (a' b' c' d' e' s' : Int) (r' : List Rd) (w' : List Wr) (m' : Bool)
theorem read_is (hl : r.length ≤ 2000) : Ev (fun k => command_read.f k a b c d e s r w m) (rk r) := read_l0 r hl r.length 0 (by omega)
theorem written_is (hl : w.length ≤ 2000) : Ev (fun k => command_written.f k a b c d e s r w m) (wk w) := written_l0 w hl w.length 0 (by omega)
def keysB : List ByteArray := joinB (rk r) (wk w)
theorem keys_is (h : small r w) : Ev (fun k => command_Keys.f k a b c d e s r w m) (keysB r w) := by
  refine Ev.bind (read_is a b c d e s r w m (by have := h.1; omega)) (Ev.bind (written_is a b c d e s r w m (by have := h.2.1; omega)) (Ev.bind (Ev.const (join_f (few_big (rk_few h)) (few_big (wk_few h)))) (Ev.const rfl)))
def interB (a b c : Int) (r : List Rd) (w : List Wr) (a' b' c' : Int) (r' : List Rd) (w' : List Wr) : Bool := !(decide (a = 0) || decide (a' = 0)) && ((b == b' && (c == c')) || meetB (keysB r w) (keysB r' w'))
theorem inter_j0 (h : small r w) (h' : small r' w') (x : Bool) : Ev (fun k => command_Interfere.j0 k x a b c d e s r w m a' b' c' d' e' s' r' w' m') (!x && ((b == b' && (c == c')) || meetB (keysB r w) (keysB r' w'))) := by
  cases x with
  | true =>
    refine Ev.step (f := fun _ => some false) (fun k => ?_) (Ev.const rfl)
    simp only [command_Interfere.j0]; rw [if_pos trivial]
  | false =>
    cases hx : (b == b' && (c == c')) with
    | true =>
      refine Ev.step (f := fun _ => some true) (fun k => ?_) (Ev.const rfl)
      simp only [command_Interfere.j0]; rw [if_neg (by simp), if_pos hx]
    | false =>
      have hM : Ev (fun k => (command_Keys.f k a b c d e s r w m).bind fun t130 => (command_Keys.f k a' b' c' d' e' s' r' w' m').bind fun t133 => (keys_Meet.f t130 t133).bind fun t136 => some t136) (meetB (keysB r w) (keysB r' w')) := Ev.bind (keys_is a b c d e s r w m h) (Ev.bind (keys_is a' b' c' d' e' s' r' w' m' h') (Ev.const rfl))
      rw [Bool.not_false, Bool.true_and, Bool.false_or]
      refine Ev.step (fun k => ?_) hM
      simp only [command_Interfere.j0]; rw [if_neg (by simp), if_neg (by simp [hx])]
theorem inter_is (h : small r w) (h' : small r' w') : Ev (fun k => command_Interfere.f k a b c d e s r w m a' b' c' d' e' s' r' w' m') (interB a b c r w a' b' c' r' w') := by
  unfold interB command_Interfere.f
  by_cases ha : a = 0
  · simp only [ha, ↓reduceIte, decide_true, Bool.true_or]
    exact inter_j0 0 b c d e s r w m a' b' c' d' e' s' r' w' m' h h' true
  · simp only [ha, ↓reduceIte, decide_false, Bool.false_or]
    exact inter_j0 a b c d e s r w m a' b' c' d' e' s' r' w' m' h h' (a' == 0)
end
theorem eqR_l0 (r : List Rd) (hl : r.length ≤ 2000) : ∀ d i, i + d = r.length → Ev (fun k => api_Read.l0 k r r (r.length : Int) (i : Int)) true
  | 0, i, h => by
    refine Ev.step (f := fun _ => some true) (fun k => ?_) (Ev.const rfl)
    simp only [api_Read.l0]; rw [if_neg (by omega)]
  | d + 1, i, h => by
    refine Ev.step (fun k => ?_) (eqR_l0 r hl d (i + 1) (by omega))
    simp only [api_Read.l0]
    rw [if_pos (by omega), if_pos (by omega), if_pos (by omega), if_pos (by omega), if_neg (by simp), w1 i (by omega)]
theorem eqW_l0 (r : List Wr) (hl : r.length ≤ 2000) : ∀ d i, i + d = r.length → Ev (fun k => api_Write.l0 k r r (r.length : Int) (i : Int)) true
  | 0, i, h => by
    refine Ev.step (f := fun _ => some true) (fun k => ?_) (Ev.const rfl)
    simp only [api_Write.l0]; rw [if_neg (by omega)]
  | d + 1, i, h => by
    refine Ev.step (fun k => ?_) (eqW_l0 r hl d (i + 1) (by omega))
    simp only [api_Write.l0]
    rw [if_pos (by omega), if_pos (by omega), if_pos (by omega), if_pos (by omega), if_neg (by simp), w1 i (by omega)]
theorem eqR_self (r : List Rd) (hl : r.length ≤ 2000) : Ev (fun k => api_Read.f k r r) true := Ev.congr (f := fun k => api_Read.l0 k r r (r.length : Int) ((0 : Nat) : Int)) (fun k => by unfold api_Read.f; rw [if_pos rfl]; rfl) (eqR_l0 r hl r.length 0 (by omega))
theorem eqW_self (r : List Wr) (hl : r.length ≤ 2000) : Ev (fun k => api_Write.f k r r) true := Ev.congr (f := fun k => api_Write.l0 k r r (r.length : Int) ((0 : Nat) : Int)) (fun k => by unfold api_Write.f; rw [if_pos rfl]; rfl) (eqW_l0 r hl r.length 0 (by omega))
theorem eqR_nil (r : List Rd) (hl : r.length ≤ 2000) : Ev (fun k => api_Read.f k r []) (decide (r = [])) := by
  cases r with
  | nil => exact eqR_self [] (by simp)
  | cons x l => exact Ev.congr (f := fun _ => some false) (fun k => by unfold api_Read.f; rw [if_neg (by simp; omega)]) (Ev.const (by simp))
theorem eqW_nil (r : List Wr) (hl : r.length ≤ 2000) : Ev (fun k => api_Write.f k r []) (decide (r = [])) := by
  cases r with
  | nil => exact eqW_self [] (by simp)
  | cons x l => exact Ev.congr (f := fun _ => some false) (fun k => by unfold api_Write.f; rw [if_neg (by simp; omega)]) (Ev.const (by simp))
section
variable (a b c d e s : Int) (r : List Rd) (w : List Wr) (m : Bool)
theorem same_self (h : small r w) : Ev (fun k => command_Same.f k a b c d e s r w m a b c d e s r w m) true := by
  unfold command_Same.f
  simp only [BEq.rfl, Bool.and_self, ↓reduceIte]
  exact Ev.bindT (eqR_self r (by have := h.1; omega)) (Ev.bind (eqW_self w (by have := h.2.1; omega)) (Ev.const rfl))
def zeroB : Bool := (b == 0 && (c == 0)) && (d == 0 && (e == 0)) && decide (s = 0) && !m && decide (r = []) && decide (w = [])
theorem same_zero (h : small r w) : Ev (fun k => command_Same.f k 0 b c d e s r w m 0 0 0 0 0 0 [] [] false) (zeroB b c d e s r w m) := by
  unfold zeroB command_Same.f
  cases h1 : (b == 0 && (c == 0)) with
  | false => simp only [Bool.false_eq_true, ↓reduceIte, Bool.false_and]; exact Ev.const rfl
  | true =>
    cases h2 : (d == 0 && (e == 0)) with
    | false => simp only [Bool.false_eq_true, ↓reduceIte, Bool.false_and, Bool.and_false]; exact Ev.const rfl
    | true =>
      by_cases h3 : s = 0
      · cases m with
        | true => simp only [h3, ↓reduceIte, Bool.true_and, decide_true, Bool.not_true, Bool.false_and]; exact Ev.const (by simp)
        | false =>
          simp only [h3, ↓reduceIte, Bool.true_and, decide_true, Bool.not_false, BEq.rfl]
          cases h4 : decide (r = []) with
          | false => exact Ev.bindF (h4 ▸ eqR_nil r (by have := h.1; omega)) (Ev.const rfl)
          | true => exact Ev.bindT (h4 ▸ eqR_nil r (by have := h.1; omega)) (Ev.bind (eqW_nil w (by have := h.2.1; omega)) (Ev.const (by simp)))
      · simp only [h3, ↓reduceIte, decide_false, Bool.and_false, Bool.false_and]; exact Ev.const rfl
def txnB (b c : Int) : Bool := decide (0 ≤ b ∧ b ≤ 3) && decide (1 ≤ c ∧ c ≤ 1099511627776)
theorem stamp_RightTxn_val (b c : Int) : stamp_RightTxn.f b c = some (txnB b c) := by
  unfold stamp_RightTxn.f stamp_within_int.f txnB
  by_cases h1 : b ≥ 0 <;> by_cases h2 : b ≤ 3 <;> by_cases h3 : c ≥ 1 <;> by_cases h4 : c ≤ 1099511627776 <;> simp [h1, h2, h3, h4] <;> omega
def oldB (d e : Int) (x : Rd) : Bool := stampB x.f1.f0 x.f1.f1 && decide (ordI x.f1.f0 x.f1.f1 d e < 0)
def okR (d e : Int) (r : List Rd) (i : Nat) : Bool := oldB d e (rd_T38 r (i : Int))
def okW (w : List Wr) (i : Nat) : Bool := decide ((rd_T40 w (i : Int)).f1.size ≤ 8)
def tailB : Bool := (List.range r.length).all (okR d e r) && ((List.range w.length).all (okW w) && (rightsB (rk r) && rightsB (wk w)))
def preB : Bool := txnB b c && stampB d e && decide (1 ≤ d) && decide (e = b) && decide (1 ≤ s) && decide (s ≤ 15) && decide (r.length + w.length ≠ 0) && !(m && (a == 1))
def rightB : Bool := if a = 0 then zeroB b c d e s r w m else if a = 1 ∨ a = 2 then preB a b c d e s r w m && tailB d e r w else false
theorem right_l1 (h : small r w) : Ev (fun k => command_Right.l1 k w (w.length : Int) 0 a b c d e s r w m) ((List.range w.length).all (okW w) && (rightsB (rk r) && rightsB (wk w))) := by
  have hw := h.2.1
  have hr := h.1
  refine Ev.scan (F := fun k i => command_Right.l1 k w (w.length : Int) i a b c d e s r w m) w.length (okW w) _ (fun i hi hok q hq => ?_) (fun i hi hok => ?_) ?_
  · unfold okW at hok
    rw [decide_eq_true_eq] at hok
    refine Ev.step (fun k => ?_) hq
    simp only [command_Right.l1]
    rw [if_pos (by omega), if_pos (by omega), if_pos (by omega), if_neg (by omega), w1 i (by omega)]
  · unfold okW at hok
    rw [decide_eq_false_iff_not] at hok
    refine Ev.step (f := fun _ => some false) (fun k => ?_) (Ev.const rfl)
    simp only [command_Right.l1]
    rw [if_pos (by omega), if_pos (by omega), if_pos (by omega), if_pos (by omega)]
  · refine Ev.step (f := fun k => (command_read.f k a b c d e s r w m).bind fun t166 => (keys_Rights.f k t166).bind fun t169 => if t169 = true then (command_written.f k a b c d e s r w m).bind fun t170 => (keys_Rights.f k t170).bind fun t173 => some t173 else some false) (fun k => ?_) (Ev.bind (read_is a b c d e s r w m (by omega)) ?_)
    · simp only [command_Right.l1]; rw [if_neg (by omega)]
    · have hq := rights_is (rk r) (by have := (rk_few h).1; omega)
      cases hR : rightsB (rk r) with
      | false => exact Ev.bindF (hR ▸ hq) (Ev.const rfl)
      | true =>
        refine Ev.bindT (hR ▸ hq) (Ev.bind (written_is a b c d e s r w m (by omega)) (Ev.bind (rights_is (wk w) (by have := (wk_few h).1; omega)) (Ev.const ?_)))
        rw [Bool.true_and]
theorem right_l0 (h : small r w) : Ev (fun k => command_Right.l0 k r (r.length : Int) 0 a b c d e s r w m) (tailB d e r w) := by
  have hr := h.1
  refine Ev.scan (F := fun k i => command_Right.l0 k r (r.length : Int) i a b c d e s r w m) r.length (okR d e r) _ (fun i hi hok q hq => ?_) (fun i hi hok => ?_) ?_
  · refine Ev.step (fun k => ?_) hq
    simp only [command_Right.l0]
    rw [if_pos (by omega), if_pos (by omega), if_pos (by omega)]
    unfold okR oldB at hok
    simp only [command_Right_1.f, Option.bind_some]
    rw [hok, if_pos rfl, w1 i (by omega)]
  · refine Ev.step (f := fun _ => some false) (fun k => ?_) (Ev.const rfl)
    simp only [command_Right.l0]
    rw [if_pos (by omega), if_pos (by omega), if_pos (by omega)]
    unfold okR oldB at hok
    simp only [command_Right_1.f, Option.bind_some]
    rw [hok, if_neg (by simp)]
  · refine Ev.step (fun k => ?_) (right_l1 a b c d e s r w m h)
    simp only [command_Right.l0]; rw [if_neg (by omega)]
theorem right_j1 (h : small r w) (x : Bool) : Ev (fun k => command_Right.j1 k x a b c d e s r w m) (!x && tailB d e r w) := by
  cases x with
  | true =>
    refine Ev.step (f := fun _ => some false) (fun k => ?_) (Ev.const (by simp))
    simp only [command_Right.j1]; rw [if_pos trivial]
  | false =>
    refine Ev.step (fun k => ?_) (by simpa using right_l0 a b c d e s r w m h)
    simp only [command_Right.j1]; rw [if_neg (by simp)]
theorem right_j0 (h : small r w) : Ev (fun k => command_Right.j0 k a b c d e s r w m) (preB a b c d e s r w m && tailB d e r w) := by
  have hr := h.1
  have hw := h.2.1
  refine Ev.step (f := fun k => command_Right.j1 k (!preB a b c d e s r w m) a b c d e s r w m) (fun k => ?_) (by simpa using right_j1 a b c d e s r w m h (!preB a b c d e s r w m))
  simp only [command_Right.j0, stamp_RightTxn_val, stamp_RightStamp_val, Option.bind_some]
  rw [show wrap64 ((r.length : Int) + (w.length : Int)) = ((r.length + w.length : Nat) : Int) by unfold wrap64; omega]
  unfold preB
  cases h1 : txnB b c with
  | false => rw [if_neg (by simp)]; simp
  | true =>
    rw [if_pos rfl]
    cases h2 : stampB d e with
    | false => rw [if_neg (by simp)]; simp
    | true =>
      rw [if_pos rfl]
      by_cases h3 : d < 1
      · rw [if_pos h3]; simp [show ¬ 1 ≤ d by omega]
      · rw [if_neg h3]
        by_cases h4 : e = b
        · rw [if_pos h4]
          by_cases h5 : s < 1
          · rw [if_pos h5]; simp [show ¬ 1 ≤ s by omega]
          · rw [if_neg h5]
            by_cases h6 : s > 15
            · rw [if_pos h6]; simp [show ¬ s ≤ 15 by omega]
            · rw [if_neg h6]
              by_cases h7 : r.length + w.length = 0
              · rw [if_pos (by omega)]; simp [h7]
              · rw [if_neg (by omega), decide_eq_true (show 1 ≤ d by omega), decide_eq_true h4, decide_eq_true (show 1 ≤ s by omega), decide_eq_true (show s ≤ 15 by omega), decide_eq_true (show r.length + w.length ≠ 0 from h7)]
                cases m with
                | true => rw [if_pos rfl]; simp
                | false => rw [if_neg (by simp)]; simp
        · rw [if_neg h4]; simp [h4]
theorem right_is (h : small r w) : Ev (fun k => command_Right.f k a b c d e s r w m) (rightB a b c d e s r w m) := by
  unfold rightB command_Right.f
  by_cases h0 : a = 0
  · simp only [h0, ↓reduceIte]
    exact Ev.bind (same_zero b c d e s r w m h) (Ev.const rfl)
  · by_cases h1 : a = 1
    · simp only [h0, h1, ↓reduceIte, true_or, Int.reduceEq]
      exact right_j0 1 b c d e s r w m h
    · by_cases h2 : a = 2
      · simp only [h0, h1, h2, ↓reduceIte, or_true, Int.reduceEq]
        exact right_j0 2 b c d e s r w m h
      · simp only [h0, h1, h2, ↓reduceIte, or_self]
        exact Ev.const rfl
end
end Go.Proofs.Ytnjeeedndnfglaa.Strs
end
section
namespace Go.Proofs.Ytnjeeedndnfglaa.Strs
open Go.RowKit Go.Proofs.Ytnjeeedndnfglaa.Keys Go.Proofs.YtnjeeedndnfglaaW.PrintWords Go.Proofs.YtnjeeedndnfglaaW.PrintLast Go.Proofs.YtnjeeedndnfglaaW.PrintMore Go.Proofs.Ytnjeeedndnfglaa.X
set_option linter.unusedSimpArgs false
set_option linter.unusedVariables false
section
variable (l : List Cm) (n j : Int) (a b c d e s : Int) (r : List Rd) (w : List Wr) (m : Bool) (P : Prop)
theorem few_j4 (hn : ∃ q, Ev (fun k => althinglaw05_Few.l0 k l n (wrap64 (j + 1))) q ∧ (q = true → P)) (i : Int) : ∃ q, Ev (fun k => althinglaw05_Few.j4 k i l n j false a b c d e s r w m) q ∧ (q = true → P ∧ r.length ≤ 20 ∧ w.length ≤ 20) := by
  by_cases h1 : (r.length : Int) > 20
  · refine ⟨false, Ev.step (f := fun _ => some false) (fun k => ?_) (Ev.const rfl), fun e => by cases e⟩
    simp only [althinglaw05_Few.j4]; rw [if_neg (by simp), if_pos h1]
  · by_cases h2 : (w.length : Int) > 20
    · refine ⟨false, Ev.step (f := fun _ => some false) (fun k => ?_) (Ev.const rfl), fun e => by cases e⟩
      simp only [althinglaw05_Few.j4]; rw [if_neg (by simp), if_neg h1, if_pos h2]
    · obtain ⟨q, hq, hp⟩ := hn
      refine ⟨q, Ev.step (fun k => ?_) hq, fun e => ⟨hp e, by omega, by omega⟩⟩
      simp only [althinglaw05_Few.j4]; rw [if_neg (by simp), if_neg h1, if_neg h2]
theorem few_l2 (hn : ∃ q, Ev (fun k => althinglaw05_Few.l0 k l n (wrap64 (j + 1))) q ∧ (q = true → P)) : ∀ dd i, i + dd = min w.length 21 → ∃ q, Ev (fun k => althinglaw05_Few.l2 k (i : Int) l n j a b c d e s r w m) q ∧ (q = true → P ∧ r.length ≤ 20 ∧ w.length ≤ 20 ∧ ∀ x ∈ w.drop i, x.f0.size ≤ 100 ∧ x.f1.size ≤ 100)
  | 0, i, hi => by
    obtain ⟨q, hq, hp⟩ := few_j4 l n j a b c d e s r w m P hn (i : Int)
    refine ⟨q, Ev.step (fun k => ?_) hq, fun e => ⟨(hp e).1, (hp e).2.1, (hp e).2.2, fun x hx => ?_⟩⟩
    · simp only [althinglaw05_Few.l2]
      by_cases h1 : (i : Int) < (w.length : Int)
      · rw [if_pos h1, decide_eq_false (by omega)]
      · rw [if_neg h1]
    · have := (hp e).2.2
      rw [List.drop_eq_nil_of_le (by omega)] at hx
      cases hx
  | dd + 1, i, hi => by
    have hil : i < w.length := by omega
    have hstep : ∀ k, althinglaw05_Few.l2 (k + 1) (i : Int) l n j a b c d e s r w m = althinglaw05_Few.j4 k (i : Int) l n j true a b c d e s r w m := fun k => by
      simp only [althinglaw05_Few.l2]; rw [if_pos (by omega), decide_eq_true (by omega)]
    have hj : ∃ q, Ev (fun k => althinglaw05_Few.j4 k (i : Int) l n j true a b c d e s r w m) q ∧ (q = true → P ∧ r.length ≤ 20 ∧ w.length ≤ 20 ∧ ∀ x ∈ w.drop i, x.f0.size ≤ 100 ∧ x.f1.size ≤ 100) := by
      by_cases h1 : (w[i].f0.size : Int) > 100
      · refine ⟨false, Ev.step (f := fun _ => some false) (fun k => ?_) (Ev.const rfl), fun e => by cases e⟩
        simp only [althinglaw05_Few.j4]; rw [if_pos trivial, if_pos (by omega), if_pos (by omega), rdW w i hil, if_pos h1]
      · by_cases h2 : (w[i].f1.size : Int) > 100
        · refine ⟨false, Ev.step (f := fun _ => some false) (fun k => ?_) (Ev.const rfl), fun e => by cases e⟩
          simp only [althinglaw05_Few.j4]; rw [if_pos trivial, if_pos (by omega), if_pos (by omega), rdW w i hil, if_neg h1, if_pos h2]
        · obtain ⟨q, hq, hp⟩ := few_l2 hn dd (i + 1) (by omega)
          refine ⟨q, Ev.step (fun k => ?_) hq, fun e => ⟨(hp e).1, (hp e).2.1, (hp e).2.2.1, fun x hx => ?_⟩⟩
          · simp only [althinglaw05_Few.j4]; rw [if_pos trivial, if_pos (by omega), if_pos (by omega), rdW w i hil, if_neg h1, if_neg h2, w1 i (by omega)]
          · rw [List.drop_eq_getElem_cons hil] at hx
            rcases List.mem_cons.1 hx with rfl | hx
            · exact ⟨by omega, by omega⟩
            · exact (hp e).2.2.2 x hx
    obtain ⟨q, hq, hp⟩ := hj
    exact ⟨q, Ev.step hstep hq, hp⟩
theorem few_l1 (hn : ∃ q, Ev (fun k => althinglaw05_Few.l0 k l n (wrap64 (j + 1))) q ∧ (q = true → P)) : ∀ dd i, i + dd = min r.length 21 → ∃ q, Ev (fun k => althinglaw05_Few.l1 k (i : Int) l n j a b c d e s r w m) q ∧ (q = true → P ∧ r.length ≤ 20 ∧ w.length ≤ 20 ∧ (∀ x ∈ r.drop i, x.f0.size ≤ 100) ∧ ∀ x ∈ w, x.f0.size ≤ 100 ∧ x.f1.size ≤ 100)
  | 0, i, hi => by
    obtain ⟨q, hq, hp⟩ := few_l2 l n j a b c d e s r w m P hn (min w.length 21) 0 (by omega)
    refine ⟨q, Ev.step (f := fun k => althinglaw05_Few.j2 k (i : Int) l n j false a b c d e s r w m) (fun k => ?_) (Ev.step (fun k => ?_) hq), fun e => ⟨(hp e).1, (hp e).2.1, (hp e).2.2.1, fun x hx => ?_, by simpa using (hp e).2.2.2⟩⟩
    · simp only [althinglaw05_Few.l1]
      by_cases h1 : (i : Int) < (r.length : Int)
      · rw [if_pos h1, decide_eq_false (by omega)]
      · rw [if_neg h1]
    · simp only [althinglaw05_Few.j2]; rw [if_neg (by simp)]; rfl
    · have := (hp e).2.1
      rw [List.drop_eq_nil_of_le (by omega)] at hx
      cases hx
  | dd + 1, i, hi => by
    have hil : i < r.length := by omega
    have hstep : ∀ k, althinglaw05_Few.l1 (k + 1) (i : Int) l n j a b c d e s r w m = althinglaw05_Few.j2 k (i : Int) l n j true a b c d e s r w m := fun k => by
      simp only [althinglaw05_Few.l1]; rw [if_pos (by omega), decide_eq_true (by omega)]
    have hj : ∃ q, Ev (fun k => althinglaw05_Few.j2 k (i : Int) l n j true a b c d e s r w m) q ∧ (q = true → P ∧ r.length ≤ 20 ∧ w.length ≤ 20 ∧ (∀ x ∈ r.drop i, x.f0.size ≤ 100) ∧ ∀ x ∈ w, x.f0.size ≤ 100 ∧ x.f1.size ≤ 100) := by
      by_cases h1 : (r[i].f0.size : Int) > 100
      · refine ⟨false, Ev.step (f := fun _ => some false) (fun k => ?_) (Ev.const rfl), fun e => by cases e⟩
        simp only [althinglaw05_Few.j2]; rw [if_pos trivial, if_pos (by omega), if_pos (by omega), rdR r i hil, if_pos h1]
      · obtain ⟨q, hq, hp⟩ := few_l1 hn dd (i + 1) (by omega)
        refine ⟨q, Ev.step (fun k => ?_) hq, fun e => ⟨(hp e).1, (hp e).2.1, (hp e).2.2.1, fun x hx => ?_, (hp e).2.2.2.2⟩⟩
        · simp only [althinglaw05_Few.j2]; rw [if_pos trivial, if_pos (by omega), if_pos (by omega), rdR r i hil, if_neg h1, w1 i (by omega)]
        · rw [List.drop_eq_getElem_cons hil] at hx
          rcases List.mem_cons.1 hx with rfl | hx
          · omega
          · exact (hp e).2.2.2.1 x hx
    obtain ⟨q, hq, hp⟩ := hj
    exact ⟨q, Ev.step hstep hq, hp⟩
end
theorem few_l0 (l : List Cm) (hl : l.length ≤ 1000) : ∀ dd i, i + dd = l.length → ∃ q, Ev (fun k => althinglaw05_Few.l0 k l (l.length : Int) (i : Int)) q ∧ (q = true → ∀ c ∈ l.drop i, small c.f4 c.f5)
  | 0, i, hi => by
    refine ⟨true, Ev.step (f := fun _ => some true) (fun k => ?_) (Ev.const rfl), fun _ c hc => ?_⟩
    · simp only [althinglaw05_Few.l0]; rw [if_neg (by omega)]
    · rw [List.drop_eq_nil_of_le (by omega)] at hc; cases hc
  | dd + 1, i, hi => by
    have hil : i < l.length := by omega
    obtain ⟨q0, hq0, hp0⟩ := few_l0 l hl dd (i + 1) (by omega)
    have hn : ∃ q, Ev (fun k => althinglaw05_Few.l0 k l (l.length : Int) (wrap64 ((i : Int) + 1))) q ∧ (q = true → ∀ c ∈ l.drop (i + 1), small c.f4 c.f5) := ⟨q0, by rw [w1 i (by omega)]; exact hq0, hp0⟩
    obtain ⟨q, hq, hp⟩ := few_l1 l (l.length : Int) (i : Int) l[i].f0 l[i].f1.f0 l[i].f1.f1 l[i].f2.f0 l[i].f2.f1 l[i].f3 l[i].f4 l[i].f5 l[i].f6 _ hn (min l[i].f4.length 21) 0 (by omega)
    refine ⟨q, Ev.step (fun k => ?_) hq, fun e c hc => ?_⟩
    · simp only [althinglaw05_Few.l0]; rw [if_pos (by omega), if_pos (by omega), if_pos (by omega), rdC l i hil]; rfl
    · rw [List.drop_eq_getElem_cons hil] at hc
      rcases List.mem_cons.1 hc with rfl | hc
      · have := hp e
        exact ⟨this.2.1, this.2.2.1, by simpa using this.2.2.2.1, this.2.2.2.2⟩
      · exact (hp e).1 c hc
theorem few_ex (l : List Cm) (hl : l.length ≤ 1000) : ∃ q, Ev (fun k => althinglaw05_Few.f k l) q ∧ (q = true → ∀ c ∈ l, small c.f4 c.f5) := by
  obtain ⟨q, hq, hp⟩ := few_l0 l hl l.length 0 (by omega)
  exact ⟨q, hq, by simpa using hp⟩
def someR : List Rd := [⟨⟨#[97]⟩, ⟨0, 0⟩⟩]
def someW : List Wr := [⟨⟨#[98]⟩, ⟨#[49]⟩⟩]
theorem some_small : small someR someW := ⟨by decide, by decide, by unfold someR; simp; decide, by unfold someW; simp; decide⟩
theorem some_right : rightB 1 0 1 1 0 1 someR someW false = true := by decide
theorem some_keys : (keysB someR someW).length = 2 := by
  unfold keysB joinB
  rw [srt_length]
  decide
theorem awake_is : Ev (fun k => althinglaw05_awake.f k) true := by
  unfold althinglaw05_awake.f althinglaw05_some.f
  simp only [Option.bind_some]
  refine Ev.bindT (some_right ▸ right_is 1 0 1 1 0 1 someR someW false some_small) ?_
  refine Ev.bindT ((show interB 1 0 1 someR someW 1 0 1 someR someW = true by simp [interB]) ▸ inter_is 1 0 1 1 0 1 someR someW false 1 0 1 1 0 1 someR someW false some_small some_small) ?_
  refine Ev.bind (keys_is 1 0 1 1 0 1 someR someW false some_small) (Ev.congr (fun k => if_pos (by rw [some_keys]; rfl)) ?_)
  exact Ev.bind (same_self 1 0 1 1 0 1 someR someW false some_small) (Ev.const rfl)
end Go.Proofs.Ytnjeeedndnfglaa.Strs
end
section
namespace Go.Proofs.Ytnjeeedndnfglaa.Strs
open Go.RowKit Go.Proofs.Ytnjeeedndnfglaa.Keys Go.Proofs.YtnjeeedndnfglaaW.PrintWords Go.Proofs.YtnjeeedndnfglaaW.PrintLast Go.Proofs.YtnjeeedndnfglaaW.PrintMore Go.Proofs.Ytnjeeedndnfglaa.X
set_option linter.unusedSimpArgs false
set_option linter.unusedVariables false
def ofK (sh n : Int) (x : ByteArray) : Bool := decide (shardE x n = 0) && decide (shardN x n = sh)
def ofR (sh n : Int) (r : List Rd) : List Rd := r.filter (fun x => ofK sh n x.f0)
def ofW (sh n : Int) (w : List Wr) : List Wr := w.filter (fun x => ofK sh n x.f0)
abbrev PR := Int × Int × Int × Int × Int × Int × List Rd × List Wr × Bool × Int
def partEnd (a b c d e s : Int) (r : List Rd) (w : List Wr) (m : Bool) : PR := if r.length + w.length = 0 then (0, 0, 0, 0, 0, 0, [], [], false, 10) else (a, b, c, d, e, s, r, w, m, 0)
section
variable (a b c d e s : Int) (r : List Rd) (w : List Wr) (m : Bool) (sh n : Int)
theorem part_l1 (r1 : List Rd) (hr : r1.length ≤ 100) (hw : w.length ≤ 100) : ∀ dd i, i + dd = w.length → Ev (fun k => command_Part.l1 k w (w.length : Int) (i : Int) sh n a b c d e s r1 (ofW sh n (w.take i)) m) (partEnd a b c d e s r1 (ofW sh n w) m)
  | 0, i, hi => by
    refine Ev.step (f := fun _ => some (partEnd a b c d e s r1 (ofW sh n w) m)) (fun k => ?_) (Ev.const rfl)
    have hl : (ofW sh n w).length ≤ w.length := List.length_filter_le _ _
    simp only [command_Part.l1]
    rw [if_neg (by omega), show i = w.length by omega, List.take_length, show wrap64 ((r1.length : Int) + ((ofW sh n w).length : Int)) = ((r1.length + (ofW sh n w).length : Nat) : Int) by unfold wrap64; omega]
    unfold partEnd
    by_cases h : r1.length + (ofW sh n w).length = 0
    · rw [if_pos (by omega), if_pos h]
    · rw [if_neg (by omega), if_neg h]
  | dd + 1, i, hi => by
    have hil : i < w.length := by omega
    have hl : (ofW sh n (w.take i)).length ≤ (w.take i).length := List.length_filter_le _ _
    rw [List.length_take] at hl
    have ht : ofW sh n (w.take (i + 1)) = ofW sh n (w.take i) ++ (if ofK sh n w[i].f0 = true then [w[i]] else []) := by
      unfold ofW
      rw [List.take_succ_eq_append_getElem hil, List.filter_append]
      congr 1
      cases h : ofK sh n w[i].f0 <;> simp [h]
    refine Ev.step (fun k => ?_) (part_l1 r1 hr hw dd (i + 1) (by omega))
    simp only [command_Part.l1]
    rw [if_pos (by omega), if_pos (by omega), if_pos (by omega), ht, rdW w i hil, w1 i (by omega)]
    simp only [command_Part_1.f, Option.bind_some]
    cases h : ofK sh n w[i].f0 with
    | true =>
      have h2 := h
      unfold ofK at h2
      rw [h2, if_pos rfl, if_pos (by omega), if_pos rfl]
    | false =>
      have h2 := h
      unfold ofK at h2
      rw [h2, if_neg (by simp), if_neg (by simp), List.append_nil]
theorem part_l0 (hr : r.length ≤ 100) (hw : w.length ≤ 100) : ∀ dd i, i + dd = r.length → Ev (fun k => command_Part.l0 k r (r.length : Int) (i : Int) a b c d e s r w m sh n a b c d e s (ofR sh n (r.take i)) m) (partEnd a b c d e s (ofR sh n r) (ofW sh n w) m)
  | 0, i, hi => by
    have hl : (ofR sh n r).length ≤ r.length := List.length_filter_le _ _
    refine Ev.step (fun k => ?_) (part_l1 a b c d e s w m sh n (ofR sh n r) (by omega) hw w.length 0 (by omega))
    simp only [command_Part.l0]
    rw [if_neg (by omega), show i = r.length by omega, List.take_length]
    rfl
  | dd + 1, i, hi => by
    have hil : i < r.length := by omega
    have hl : (ofR sh n (r.take i)).length ≤ (r.take i).length := List.length_filter_le _ _
    rw [List.length_take] at hl
    have ht : ofR sh n (r.take (i + 1)) = ofR sh n (r.take i) ++ (if ofK sh n r[i].f0 = true then [r[i]] else []) := by
      unfold ofR
      rw [List.take_succ_eq_append_getElem hil, List.filter_append]
      congr 1
      cases h : ofK sh n r[i].f0 <;> simp [h]
    refine Ev.step (fun k => ?_) (part_l0 hr hw dd (i + 1) (by omega))
    simp only [command_Part.l0]
    rw [if_pos (by omega), if_pos (by omega), if_pos (by omega), ht, rdR r i hil, w1 i (by omega)]
    simp only [command_Part_1.f, Option.bind_some]
    cases h : ofK sh n r[i].f0 with
    | true =>
      have h2 := h
      unfold ofK at h2
      rw [h2, if_pos rfl, if_pos (by omega), if_pos rfl]
    | false =>
      have h2 := h
      unfold ofK at h2
      rw [h2, if_neg (by simp), if_neg (by simp), List.append_nil]
def errEnd : PR := (0, 0, 0, 0, 0, 0, [], [], false, 1)
def partB : PR := if rightB a b c d e s r w m = true ∧ a ≠ 0 ∧ 1 ≤ n ∧ n ≤ 4 then partEnd a b c d e s (ofR sh n r) (ofW sh n w) m else errEnd
theorem part_j0 (h : small r w) (x : Bool) : Ev (fun k => command_Part.j0 k x a b c d e s r w m sh n) (if x = true then errEnd else partEnd a b c d e s (ofR sh n r) (ofW sh n w) m) := by
  cases x with
  | true =>
    refine Ev.step (f := fun _ => some errEnd) (fun k => ?_) (Ev.const (by simp))
    simp only [command_Part.j0]; rw [if_pos trivial]; rfl
  | false =>
    refine Ev.step (fun k => ?_) (by simpa using part_l0 a b c d e s r w m sh n (by have := h.1; omega) (by have := h.2.1; omega) r.length 0 (by omega))
    simp only [command_Part.j0]; rw [if_neg (by simp)]; rfl
theorem part_is (h : small r w) : Ev (fun k => command_Part.f k a b c d e s r w m sh n) (partB a b c d e s r w m sh n) := by
  unfold partB command_Part.f
  have hq := right_is a b c d e s r w m h
  cases hR : rightB a b c d e s r w m with
  | false =>
    simp only [Bool.false_eq_true, false_and, ↓reduceIte]
    exact Ev.bindF (hR ▸ hq) (by simpa using part_j0 a b c d e s r w m sh n h true)
  | true =>
    rw [hR] at hq
    by_cases h0 : a = 0
    · simp only [h0, ne_eq, not_true_eq_false, false_and, and_false, ↓reduceIte]
      rw [h0] at hq
      exact Ev.bindT hq (by simpa using part_j0 0 b c d e s r w m sh n h true)
    · by_cases h1 : n < 1
      · simp only [h0, h1, show ¬ 1 ≤ n by omega, false_and, and_false, ↓reduceIte]
        exact Ev.bindT hq (by simpa using part_j0 a b c d e s r w m sh n h true)
      · by_cases h4 : n > 4
        · simp only [h0, h1, show ¬ n ≤ 4 by omega, and_false, ↓reduceIte, decide_eq_true h4]
          exact Ev.bindT hq (by simpa using part_j0 a b c d e s r w m sh n h true)
        · simp only [h0, h1, show 1 ≤ n by omega, show n ≤ 4 by omega, ne_eq, not_false_eq_true, and_self, ↓reduceIte, decide_eq_false h4]
          exact Ev.bindT hq (by simpa using part_j0 a b c d e s r w m sh n h false)
theorem all_okR : (List.range r.length).all (okR d e r) = r.all (oldB d e) := by
  rw [Bool.eq_iff_iff, List.all_eq_true, List.all_eq_true]
  constructor
  · intro h x hx
    obtain ⟨i, hi, rfl⟩ := List.getElem_of_mem hx
    have := h i (by simpa using hi)
    unfold okR at this
    rwa [rdR r i hi] at this
  · intro h i hi
    have hil : i < r.length := by simpa using hi
    unfold okR
    rw [rdR r i hil]
    exact h _ (List.getElem_mem hil)
theorem all_okW : (List.range w.length).all (okW w) = w.all (fun x => decide (x.f1.size ≤ 8)) := by
  rw [Bool.eq_iff_iff, List.all_eq_true, List.all_eq_true]
  constructor
  · intro h x hx
    obtain ⟨i, hi, rfl⟩ := List.getElem_of_mem hx
    have := h i (by simpa using hi)
    unfold okW at this
    rwa [rdW w i hi] at this
  · intro h i hi
    have hil : i < w.length := by simpa using hi
    unfold okW
    rw [rdW w i hil]
    exact h _ (List.getElem_mem hil)
theorem small_sub {r' : List Rd} {w' : List Wr} (hr : r'.Sublist r) (hw : w'.Sublist w) (h : small r w) : small r' w' :=
  ⟨Nat.le_trans hr.length_le h.1, Nat.le_trans hw.length_le h.2.1, fun x hx => h.2.2.1 x (hr.subset hx), fun x hx => h.2.2.2 x (hw.subset hx)⟩
theorem ofR_sub : (ofR sh n r).Sublist r := List.filter_sublist
theorem ofW_sub : (ofW sh n w).Sublist w := List.filter_sublist
theorem rsame_l1 (hw : w.length ≤ 2000) : ∀ dd i, i + dd = w.length → Ev (fun k => althingref05_Same.l1 k (i : Int) a b c d e s r w m a b c d e s r w m) true
  | 0, i, hi => by
    refine Ev.step (f := fun _ => some true) (fun k => ?_) (Ev.const rfl)
    simp only [althingref05_Same.l1]; rw [if_neg (by omega)]
  | dd + 1, i, hi => by
    refine Ev.step (fun k => ?_) (rsame_l1 hw dd (i + 1) (by omega))
    simp only [althingref05_Same.l1]
    rw [if_pos (by omega), if_pos (by omega), if_pos (by omega), if_neg (by simp), w1 i (by omega)]
theorem rsame_l0 (hr : r.length ≤ 2000) (hw : w.length ≤ 2000) : ∀ dd i, i + dd = r.length → Ev (fun k => althingref05_Same.l0 k (i : Int) a b c d e s r w m a b c d e s r w m) true
  | 0, i, hi => by
    refine Ev.step (fun k => ?_) (rsame_l1 a b c d e s r w m hw w.length 0 (by omega))
    simp only [althingref05_Same.l0]; rw [if_neg (by omega)]; rfl
  | dd + 1, i, hi => by
    refine Ev.step (fun k => ?_) (rsame_l0 hr hw dd (i + 1) (by omega))
    simp only [althingref05_Same.l0]
    rw [if_pos (by omega), if_pos (by omega), if_pos (by omega), if_neg (by simp), w1 i (by omega)]
theorem rsame_self (h : small r w) : Ev (fun k => althingref05_Same.f k a b c d e s r w m a b c d e s r w m) true := by
  refine Ev.congr (fun k => ?_) (Ev.step (g := fun k => althingref05_Same.j0 k false a b c d e s r w m a b c d e s r w m) (fun k => ?_) (rsame_l0 a b c d e s r w m (by have := h.1; omega) (by have := h.2.1; omega) r.length 0 (by omega)))
  · unfold althingref05_Same.f
    rw [if_pos rfl, if_neg (by simp), if_neg (by simp), if_pos rfl, if_neg (by simp), if_pos rfl, show ((w.length : Int) != (w.length : Int)) = false by simp]
  · simp only [althingref05_Same.j0]; rw [if_neg (by simp)]; rfl
end
end Go.Proofs.Ytnjeeedndnfglaa.Strs
end
section
namespace Go.Proofs.Ytnjeeedndnfglaa.X
open Go.RowKit Go.Proofs.YtnjeeedndnfglaaW.PrintWords Go.Proofs.YtnjeeedndnfglaaW.PrintLast Go.Proofs.YtnjeeedndnfglaaW.PrintMore
attribute [local go_sem] max2_int min2_int max_two min_two max_three min_three max_four min_four   -- for this text's walks alone
set_option linter.unusedVariables false
set_option linter.unusedSimpArgs false
def althingref04_In.l0 : Nat → List ByteArray → ByteArray → Int → Option (Bool)
 | 0, _, _, _ => none
 | k + 1, x0, x1, x5 => if x5 < (x0.length : Int) then (if 0 ≤ x5 then (if (rdOf ByteArray.empty x0 x5).toList = x1.toList then (some true) else (althingref04_In.l0 k x0 x1 (wrap64 (x5 + 1)))) else (none)) else (some false)
def althingref04_In.f (k : Nat) (l0 : List ByteArray) (a1 : ByteArray) : Option (Bool) := althingref04_In.l0 k l0 a1 0
set_option maxHeartbeats 40000000 in
set_option maxRecDepth 100000 in
theorem althingref04_In.calls (k : Nat) (A0 : Option Addr) (c0 : Nat) (l0 : List ByteArray) (a1 : ByteArray) (r : Bool) (w : World) (hr0 : Kd.C Kd.string w A0 l0.length l0) (hc0 : l0.length ≤ c0) (h : althingref04_In.f k l0 a1 = some r) :
 Calls Try.prog 40 #[.slice A0 l0.length c0, .string a1] w fun e w' => e = .returned (.bool r) ∧ Drawn0 w w' := by
 have HR0 := Aside0.mk hr0
 have HC0 := Aside0.mk hc0
 clear hr0 hc0
 have H : (althingref04_In.l0 k l0 a1 0) = some r := h
 clear h
 have H' := Aside0.mk H
 clear H
 go_enter Try.func40, Try.ntmps40
 go_wp2
 go_loopg [5] k (fun kq v5 w' => ∃ (x5_1 : Int), v5 = .int .i64 x5_1 ∧ Aside0 (althingref04_In.l0 kq l0 a1 x5_1 = some r) ∧ Aside0 (kq ≤ k) ∧ Drawn0 w w')
 case atStart => exact ⟨(0), sm_, H', ⟨Nat.le_refl _⟩, by repeat (first | exact Drawn0.refl _ | apply Drawn0.step)⟩
 case round =>
  clear H'
  try clear p2
  obtain ⟨x5_1, rfl, HA, HK1, ⟨m1, rfl⟩⟩ := hrel
  cases gk with
  | zero => exact absurd HA.out (by simp [althingref04_In.l0])
  | succ k1 =>
   have H := HA.out
   clear HA
   simp only [althingref04_In.l0] at H
   by_cases c3 : x5_1 < (l0.length : Int)
   · rw [if_pos c3] at H
     have c3b0 : decide (x5_1 < (l0.length : Int)) = true := decide_eq_true c3
     clear c3
     by_cases c4 : 0 ≤ x5_1
     · rw [if_pos c4] at H
       have c4b0 : decide (0 ≤ x5_1) = true := decide_eq_true c4
       clear c4
       by_cases c5 : (rdOf ByteArray.empty l0 x5_1).toList = a1.toList
       · rw [if_pos c5] at H
         have c5b0 : ((rdOf ByteArray.empty l0 x5_1).toList == a1.toList) = true := beq_iff_eq.mpr c5
         have c5b1 : ((rdOf ByteArray.empty l0 x5_1).toList != a1.toList) = false := bne_eq_false_iff_eq.mpr c5
         clear c5
         obtain rfl := Option.some.inj H
         have p497 : 0 ≤ (x5_1 : Int) := of_decide_eq_true (by first | (with_reducible assumption) | assumption)
         have q497 : x5_1 < (l0.length : Int) := of_decide_eq_true (by first | (with_reducible assumption) | assumption)
         obtain ⟨ad497, e497, hx497_0⟩ := Kd.at_string HR0.out x5_1 p497 q497
         cases e497
         replace p497 := eq_true p497
         replace q497 := eq_true q497
         go_wp2
         go_ret
         exact ⟨by first | rfl | (simp; done) | (simp [*]; done), by repeat (first | exact Drawn0.refl _ | apply Drawn0.step)⟩
       · rw [if_neg c5] at H
         have c5b0 : ((rdOf ByteArray.empty l0 x5_1).toList == a1.toList) = false := beq_eq_false_iff_ne.mpr c5
         have c5b1 : ((rdOf ByteArray.empty l0 x5_1).toList != a1.toList) = true := bne_iff_ne.mpr c5
         have H' := Aside0.mk H
         clear H
         have p497 : 0 ≤ (x5_1 : Int) := of_decide_eq_true (by first | (with_reducible assumption) | assumption)
         have q497 : x5_1 < (l0.length : Int) := of_decide_eq_true (by first | (with_reducible assumption) | assumption)
         obtain ⟨ad497, e497, hx497_0⟩ := Kd.at_string HR0.out x5_1 p497 q497
         cases e497
         replace p497 := eq_true p497
         replace q497 := eq_true q497
         go_wp2
         go_roundg k1
         case measure => have := HK1.out; omega
         case rel => exact ⟨(wrap64 (x5_1 + 1)), sm_, H', ⟨by have := HK1.out; omega⟩, by repeat (first | exact Drawn0.refl _ | apply Drawn0.step)⟩
     · rw [if_neg c4] at H
       exact absurd H (by simp)
   · rw [if_neg c3] at H
     have c3b0 : decide (x5_1 < (l0.length : Int)) = false := decide_eq_false c3
     clear c3
     obtain rfl := Option.some.inj H
     go_wp2
     go_ret
     exact ⟨by first | rfl | (simp; done) | (simp [*]; done), by repeat (first | exact Drawn0.refl _ | apply Drawn0.step)⟩
end Go.Proofs.Ytnjeeedndnfglaa.X
end
section
namespace Go.Proofs.Ytnjeeedndnfglaa.Strs
open Go.RowKit Go.Proofs.YtnjeeedndnfglaaW.PrintWords Go.Proofs.YtnjeeedndnfglaaW.PrintLast Go.Proofs.YtnjeeedndnfglaaW.PrintMore Go.Proofs.Ytnjeeedndnfglaa.X
set_option linter.unusedSimpArgs false
set_option linter.unusedVariables false
theorem before_l0 (a b : ByteArray) (hb : b.size ≤ 2000) : ∀ d i k, i + d = b.size → i ≤ a.size → a.data.toList.take i = b.data.toList.take i → d + 1 ≤ k →
    althingref04_Before.l0 k a b (i : Int) = some (decide (a.data.toList.drop i < b.data.toList.drop i))
  | 0, i, k, h1, h2, h3, hk => by
    obtain ⟨k, rfl⟩ : ∃ k', k = k' + 1 := ⟨k - 1, by omega⟩
    unfold althingref04_Before.l0
    have hd : b.data.toList.drop i = [] := List.drop_eq_nil_of_le (by rw [← sz_len]; omega)
    rw [if_neg (by omega), hd]
    simp
  | d + 1, i, k, h1, h2, h3, hk => by
    obtain ⟨k, rfl⟩ : ∃ k', k = k' + 1 := ⟨k - 1, by omega⟩
    have hbl : i < b.data.toList.length := by rw [← sz_len]; omega
    unfold althingref04_Before.l0
    rw [if_pos (by omega), drop_at _ i hbl]
    by_cases hia : i = a.size
    · have hd : a.data.toList.drop i = [] := List.drop_eq_nil_of_le (by rw [← sz_len]; omega)
      rw [if_pos (by omega), hd]
      simp
    · have hal : i < a.data.toList.length := by rw [← sz_len]; omega
      rw [if_neg (by omega), if_pos (by omega), if_pos (by omega), bt_el a i hal, bt_el b i hbl, drop_at _ i hal]
      by_cases he : a.data.toList[i] = b.data.toList[i]
      · rw [if_pos (by rw [he]), show wrap64 ((i : Int) + 1) = ((i + 1 : Nat) : Int) by unfold wrap64; omega]
        rw [before_l0 a b hb d (i + 1) k (by omega) (by omega) (by rw [List.take_succ_eq_append_getElem hal, List.take_succ_eq_append_getElem hbl, h3, he]) (by omega)]
        congr 1
        rw [decide_eq_decide, List.cons_lt_cons_iff, he]
        constructor
        · intro h; exact .inr ⟨rfl, h⟩
        · rintro (h | h)
          · exact absurd h (by simp)
          · exact h.2
      · have hne : (a.data.toList[i]).toNat ≠ (b.data.toList[i]).toNat := fun e => he (UInt8.toNat_inj.1 e)
        rw [if_neg (by omega)]
        congr 1
        rw [decide_eq_decide, List.cons_lt_cons_iff]
        constructor
        · intro h; exact .inl (UInt8.lt_iff_toNat_lt.2 (by omega))
        · rintro (h | h)
          · have := UInt8.lt_iff_toNat_lt.1 h; omega
          · exact absurd h.1 he
theorem before_is (a b : ByteArray) (hb : b.size ≤ 2000) (k : Nat) (hk : 2001 ≤ k) : althingref04_Before.f k a b = some (decide (blt a b)) := by
  have := before_l0 a b hb b.size 0 k (by omega) (by omega) (by simp) (by omega)
  simpa [althingref04_Before.f, blt] using this
end Go.Proofs.Ytnjeeedndnfglaa.Strs
end
section
namespace Go.Proofs.Ytnjeeedndnfglaa.Strs
open Go.RowKit Go.Proofs.Ytnjeeedndnfglaa.Keys Go.Proofs.YtnjeeedndnfglaaW.PrintWords Go.Proofs.YtnjeeedndnfglaaW.PrintLast Go.Proofs.YtnjeeedndnfglaaW.PrintMore Go.Proofs.Ytnjeeedndnfglaa.X
set_option linter.unusedSimpArgs false
set_option linter.unusedVariables false
theorem rright_f (x : ByteArray) : althingref04_Right.f x = some (okKey x) := by
  unfold althingref04_Right.f okKey
  by_cases h : (x.size : Int) > 0
  · rw [if_pos h]; congr 1; rw [decide_eq_decide]; omega
  · rw [if_neg h]; congr 1; symm; rw [decide_eq_false_iff_not]; omega
theorem rrights_is (l : List ByteArray) (hl : l.length ≤ 2000) (hz : ∀ x ∈ l, x.size ≤ 2000) : Ev (fun k => althingref04_Rights.f k l) (rightsB l) := by
  have hzg : ∀ i, (l.getD i ByteArray.empty).size ≤ 2000 := fun i => by
    by_cases hi : i < l.length
    · rw [getD_at l i hi]; exact hz _ (List.getElem_mem hi)
    · rw [List.getD_eq_getElem?_getD, List.getElem?_eq_none (by omega)]; decide
  refine Ev.scan (F := fun k i => althingref04_Rights.l0 k l i) l.length (okAt l) _ (fun i hi hok r hr => ?_) (fun i hi hok => ?_) ?_
  · unfold okAt at hok
    rw [Bool.and_eq_true] at hok
    by_cases h0 : i = 0
    · refine Ev.step (fun k => ?_) hr
      simp only [althingref04_Rights.l0]
      rw [if_pos (by omega), if_pos (by omega), rright_f, Option.bind_some, rd_getD, hok.1, if_pos rfl, if_neg (by omega), w1 i (by omega)]
    · have hb : blt (l.getD (i - 1) ByteArray.empty) (l.getD i ByteArray.empty) := by simpa [h0] using hok.2
      refine Ev.step (f := fun k => (althingref04_Before.f k (l.getD (i - 1) ByteArray.empty) (l.getD i ByteArray.empty)).bind fun t => if t = true then althingref04_Rights.l0 k l ((i + 1 : Nat) : Int) else some false) (fun k => ?_) (Ev.bind (a := true) ⟨2001, fun k hk => ?_⟩ (Ev.congr (fun k => if_pos rfl) hr))
      · simp only [althingref04_Rights.l0]
        rw [if_pos (by omega), if_pos (by omega), rright_f, Option.bind_some, rd_getD, hok.1, if_pos rfl, if_pos (by omega), wm1 i (by omega) h0, if_pos (by omega), if_pos (by omega), rd_getD, w1 i (by omega)]
      · show althingref04_Before.f k _ _ = _
        rw [before_is _ _ (hzg i) k hk, decide_eq_true hb]
  · unfold okAt at hok
    cases ho : okKey (l.getD i ByteArray.empty) with
    | false =>
      refine Ev.step (f := fun _ => some false) (fun k => ?_) (Ev.const rfl)
      simp only [althingref04_Rights.l0]
      rw [if_pos (by omega), if_pos (by omega), rright_f, Option.bind_some, rd_getD, ho, if_neg (by simp)]
    | true =>
      rw [ho, Bool.true_and, Bool.or_eq_false_iff, decide_eq_false_iff_not, decide_eq_false_iff_not] at hok
      refine Ev.step (f := fun k => (althingref04_Before.f k (l.getD (i - 1) ByteArray.empty) (l.getD i ByteArray.empty)).bind fun t => if t = true then althingref04_Rights.l0 k l ((i + 1 : Nat) : Int) else some false) (fun k => ?_) (Ev.bind (a := false) ⟨2001, fun k hk => ?_⟩ (Ev.congr (fun k => if_neg (by simp)) (Ev.const rfl)))
      · simp only [althingref04_Rights.l0]
        rw [if_pos (by omega), if_pos (by omega), rright_f, Option.bind_some, rd_getD, ho, if_pos rfl, if_pos (by omega), wm1 i (by omega) hok.1, if_pos (by omega), if_pos (by omega), rd_getD, w1 i (by omega)]
      · show althingref04_Before.f k _ _ = _
        rw [before_is _ _ (hzg i) k hk, decide_eq_false hok.2]
  · refine Ev.step (f := fun _ => some (decide ((l.length : Int) ≤ 8))) (fun k => ?_) (Ev.const ?_)
    · simp only [althingref04_Rights.l0]
      rw [if_neg (by omega)]
    · congr 1; rw [decide_eq_decide]; omega
end Go.Proofs.Ytnjeeedndnfglaa.Strs
end
