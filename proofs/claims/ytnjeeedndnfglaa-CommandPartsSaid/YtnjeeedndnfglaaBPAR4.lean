/- What the claim PAR leans on: texts joined by bundle.py, a program of ours; the words cut down to what is used. -/
import Derived.Test.YtnjeeedndnfglaaBPAR3
import Derived.Lib.RuneCountTail
import Derived.Lib.TrimU
import Derived.Lib.OthersKept
section
namespace Go.Proofs.Ytnjeeedndnfglaa.X
open Go.RowKit Go.Proofs.YtnjeeedndnfglaaW.PrintWords Go.Proofs.YtnjeeedndnfglaaW.PrintLast Go.Proofs.YtnjeeedndnfglaaW.PrintMore
attribute [local go_sem] max2_int min2_int max_two min_two max_three min_three max_four min_four   -- for this text's walks alone
set_option linter.unusedVariables false
set_option linter.unusedSimpArgs false
attribute [local go_sem high] eqA23 eqA25 eqA38 eqA40
mutual
def althingref05_Same.j0 : Nat → Bool → Int → Int → Int → Int → Int → Int → List (S38) → List (S40) → Bool → Int → Int → Int → Int → Int → Int → List (S38) → List (S40) → Bool → Option (Bool)
 | 0, _, _, _, _, _, _, _, _, _, _, _, _, _, _, _, _, _, _, _ => none
 | k + 1, x57, x280000, x280001, x280002, x280003, x280004, x280005, x280006, x280007, x280008, x281000, x281001, x281002, x281003, x281004, x281005, x281006, x281007, x281008 => if x57 = true then (some false) else (althingref05_Same.l0 k 0 x280000 x280001 x280002 x280003 x280004 x280005 x280006 x280007 x280008 x281000 x281001 x281002 x281003 x281004 x281005 x281006 x281007 x281008)
def althingref05_Same.l0 : Nat → Int → Int → Int → Int → Int → Int → Int → List (S38) → List (S40) → Bool → Int → Int → Int → Int → Int → Int → List (S38) → List (S40) → Bool → Option (Bool)
 | 0, _, _, _, _, _, _, _, _, _, _, _, _, _, _, _, _, _, _, _ => none
 | k + 1, x5, x280000, x280001, x280002, x280003, x280004, x280005, x280006, x280007, x280008, x281000, x281001, x281002, x281003, x281004, x281005, x281006, x281007, x281008 => if x5 < (x280006.length : Int) then (if 0 ≤ x5 then (if x5 < (x281006.length : Int) then (if (!((((rd_T38 x280006 x5).f0).toList) == (((rd_T38 x281006 x5).f0).toList)) || ((!(((rd_T38 x280006 x5).f1.f0) == ((rd_T38 x281006 x5).f1.f0)) || (!(((rd_T38 x280006 x5).f1.f1) == ((rd_T38 x281006 x5).f1.f1)))))) = true then (some false) else (althingref05_Same.l0 k (wrap64 (x5 + 1)) x280000 x280001 x280002 x280003 x280004 x280005 x280006 x280007 x280008 x281000 x281001 x281002 x281003 x281004 x281005 x281006 x281007 x281008)) else (none)) else (none)) else (althingref05_Same.l1 k 0 x280000 x280001 x280002 x280003 x280004 x280005 x280006 x280007 x280008 x281000 x281001 x281002 x281003 x281004 x281005 x281006 x281007 x281008)
def althingref05_Same.l1 : Nat → Int → Int → Int → Int → Int → Int → Int → List (S38) → List (S40) → Bool → Int → Int → Int → Int → Int → Int → List (S38) → List (S40) → Bool → Option (Bool)
 | 0, _, _, _, _, _, _, _, _, _, _, _, _, _, _, _, _, _, _, _ => none
 | k + 1, x6, x280000, x280001, x280002, x280003, x280004, x280005, x280006, x280007, x280008, x281000, x281001, x281002, x281003, x281004, x281005, x281006, x281007, x281008 => if x6 < (x280007.length : Int) then (if 0 ≤ x6 then (if x6 < (x281007.length : Int) then (if (!((((rd_T40 x280007 x6).f0).toList) == (((rd_T40 x281007 x6).f0).toList)) || (!((((rd_T40 x280007 x6).f1).toList) == (((rd_T40 x281007 x6).f1).toList)))) = true then (some false) else (althingref05_Same.l1 k (wrap64 (x6 + 1)) x280000 x280001 x280002 x280003 x280004 x280005 x280006 x280007 x280008 x281000 x281001 x281002 x281003 x281004 x281005 x281006 x281007 x281008)) else (none)) else (none)) else (some true)
end
def althingref05_Same.f (k : Nat) (a0_0 : Int) (a0_1 : Int) (a0_2 : Int) (a0_3 : Int) (a0_4 : Int) (a0_5 : Int) (l0_6 : List (S38)) (l0_7 : List (S40)) (a0_8 : Bool) (a1_0 : Int) (a1_1 : Int) (a1_2 : Int) (a1_3 : Int) (a1_4 : Int) (a1_5 : Int) (l1_6 : List (S38)) (l1_7 : List (S40)) (a1_8 : Bool) : Option (Bool) := if a0_0 = a1_0 then (if (!(a0_1 == a1_1) || (!(a0_2 == a1_2))) = true then (althingref05_Same.j0 k true a0_0 a0_1 a0_2 a0_3 a0_4 a0_5 l0_6 l0_7 a0_8 a1_0 a1_1 a1_2 a1_3 a1_4 a1_5 l1_6 l1_7 a1_8) else (if (!(a0_3 == a1_3) || (!(a0_4 == a1_4))) = true then (althingref05_Same.j0 k true a0_0 a0_1 a0_2 a0_3 a0_4 a0_5 l0_6 l0_7 a0_8 a1_0 a1_1 a1_2 a1_3 a1_4 a1_5 l1_6 l1_7 a1_8) else (if a0_5 = a1_5 then (if (a0_8 != a1_8) = true then (althingref05_Same.j0 k true a0_0 a0_1 a0_2 a0_3 a0_4 a0_5 l0_6 l0_7 a0_8 a1_0 a1_1 a1_2 a1_3 a1_4 a1_5 l1_6 l1_7 a1_8) else (if (l0_6.length : Int) = (l1_6.length : Int) then (althingref05_Same.j0 k ((l0_7.length : Int) != (l1_7.length : Int)) a0_0 a0_1 a0_2 a0_3 a0_4 a0_5 l0_6 l0_7 a0_8 a1_0 a1_1 a1_2 a1_3 a1_4 a1_5 l1_6 l1_7 a1_8) else (althingref05_Same.j0 k true a0_0 a0_1 a0_2 a0_3 a0_4 a0_5 l0_6 l0_7 a0_8 a1_0 a1_1 a1_2 a1_3 a1_4 a1_5 l1_6 l1_7 a1_8))) else (althingref05_Same.j0 k true a0_0 a0_1 a0_2 a0_3 a0_4 a0_5 l0_6 l0_7 a0_8 a1_0 a1_1 a1_2 a1_3 a1_4 a1_5 l1_6 l1_7 a1_8)))) else (althingref05_Same.j0 k true a0_0 a0_1 a0_2 a0_3 a0_4 a0_5 l0_6 l0_7 a0_8 a1_0 a1_1 a1_2 a1_3 a1_4 a1_5 l1_6 l1_7 a1_8)
set_option maxHeartbeats 40000000 in
set_option maxRecDepth 100000 in
theorem althingref05_Same.calls (k : Nat) (a0_0 : Int) (a0_1 : Int) (a0_2 : Int) (a0_3 : Int) (a0_4 : Int) (a0_5 : Int) (A0_6 : Option Addr) (c0_6 : Nat) (l0_6 : List (S38)) (A0_7 : Option Addr) (c0_7 : Nat) (l0_7 : List (S40)) (a0_8 : Bool) (a1_0 : Int) (a1_1 : Int) (a1_2 : Int) (a1_3 : Int) (a1_4 : Int) (a1_5 : Int) (A1_6 : Option Addr) (c1_6 : Nat) (l1_6 : List (S38)) (A1_7 : Option Addr) (c1_7 : Nat) (l1_7 : List (S40)) (a1_8 : Bool) (r : Bool) (w : World) (hr0_6 : Kd.C k38 w A0_6 l0_6.length l0_6) (hc0_6 : l0_6.length ≤ c0_6) (hr0_7 : Kd.C k40 w A0_7 l0_7.length l0_7) (hc0_7 : l0_7.length ≤ c0_7) (hr1_6 : Kd.C k38 w A1_6 l1_6.length l1_6) (hc1_6 : l1_6.length ≤ c1_6) (hr1_7 : Kd.C k40 w A1_7 l1_7.length l1_7) (hc1_7 : l1_7.length ≤ c1_7) (h : althingref05_Same.f k a0_0 a0_1 a0_2 a0_3 a0_4 a0_5 l0_6 l0_7 a0_8 a1_0 a1_1 a1_2 a1_3 a1_4 a1_5 l1_6 l1_7 a1_8 = some r) :
 Calls Try.prog 11 #[.agg #[.int .i64 a0_0, .int .i64 a0_1, .int .i64 a0_2, .int .i64 a0_3, .int .i64 a0_4, .int .i64 a0_5, .slice A0_6 l0_6.length c0_6, .slice A0_7 l0_7.length c0_7, .bool a0_8], .agg #[.int .i64 a1_0, .int .i64 a1_1, .int .i64 a1_2, .int .i64 a1_3, .int .i64 a1_4, .int .i64 a1_5, .slice A1_6 l1_6.length c1_6, .slice A1_7 l1_7.length c1_7, .bool a1_8]] w fun e w' => e = .returned (.bool r) ∧ Below w.heap.size w w' := by
 have hu29 := Try.underlying29
 have hu23 := Try.underlying23
 have hu25 := Try.underlying25
 have hu38 := Try.underlying38
 have hu40 := Try.underlying40
 have HR0_6 := Aside0.mk hr0_6
 have HC0_6 := Aside0.mk hc0_6
 clear hr0_6 hc0_6
 have HR0_7 := Aside0.mk hr0_7
 have HC0_7 := Aside0.mk hc0_7
 clear hr0_7 hc0_7
 have HR1_6 := Aside0.mk hr1_6
 have HC1_6 := Aside0.mk hc1_6
 clear hr1_6 hc1_6
 have HR1_7 := Aside0.mk hr1_7
 have HC1_7 := Aside0.mk hc1_7
 clear hr1_7 hc1_7
 have HB := Aside0.mk (Below.refl w.heap.size w)
 have H : (if a0_0 = a1_0 then (if (!(a0_1 == a1_1) || (!(a0_2 == a1_2))) = true then (althingref05_Same.j0 k true a0_0 a0_1 a0_2 a0_3 a0_4 a0_5 l0_6 l0_7 a0_8 a1_0 a1_1 a1_2 a1_3 a1_4 a1_5 l1_6 l1_7 a1_8) else (if (!(a0_3 == a1_3) || (!(a0_4 == a1_4))) = true then (althingref05_Same.j0 k true a0_0 a0_1 a0_2 a0_3 a0_4 a0_5 l0_6 l0_7 a0_8 a1_0 a1_1 a1_2 a1_3 a1_4 a1_5 l1_6 l1_7 a1_8) else (if a0_5 = a1_5 then (if (a0_8 != a1_8) = true then (althingref05_Same.j0 k true a0_0 a0_1 a0_2 a0_3 a0_4 a0_5 l0_6 l0_7 a0_8 a1_0 a1_1 a1_2 a1_3 a1_4 a1_5 l1_6 l1_7 a1_8) else (if (l0_6.length : Int) = (l1_6.length : Int) then (althingref05_Same.j0 k ((l0_7.length : Int) != (l1_7.length : Int)) a0_0 a0_1 a0_2 a0_3 a0_4 a0_5 l0_6 l0_7 a0_8 a1_0 a1_1 a1_2 a1_3 a1_4 a1_5 l1_6 l1_7 a1_8) else (althingref05_Same.j0 k true a0_0 a0_1 a0_2 a0_3 a0_4 a0_5 l0_6 l0_7 a0_8 a1_0 a1_1 a1_2 a1_3 a1_4 a1_5 l1_6 l1_7 a1_8))) else (althingref05_Same.j0 k true a0_0 a0_1 a0_2 a0_3 a0_4 a0_5 l0_6 l0_7 a0_8 a1_0 a1_1 a1_2 a1_3 a1_4 a1_5 l1_6 l1_7 a1_8)))) else (althingref05_Same.j0 k true a0_0 a0_1 a0_2 a0_3 a0_4 a0_5 l0_6 l0_7 a0_8 a1_0 a1_1 a1_2 a1_3 a1_4 a1_5 l1_6 l1_7 a1_8)) = some r := h
 clear h
 have HC3 := Aside0.mk H
 clear H
 go_enter Try.func11, Try.ntmps11
 have hq0 := True.intro
 repeat ((first | clear hq0 | go_quiet (fail)); try go_upto_region 1 with (first | ((with_reducible refine gate_dst (N := 2) rfl ?_); (try (refine gate_guard (by rfl) ?_; dsimp only)); refine bx_ 2 29 #[.int .i64 a0_0, .int .i64 a0_1, .int .i64 a0_2, .int .i64 a0_3, .int .i64 a0_4, .int .i64 a0_5, .slice A0_6 l0_6.length c0_6, .slice A0_7 l0_7.length c0_7, .bool a0_8] ?_; intro gb279 hg w4 hbox hb; have BK279 := Aside0.mk hbox; have GE279 := ge_ HB hg; replace HB := hs_ HB hb; clear hb hbox hg) | ((with_reducible refine gate_dst (N := 3) rfl ?_); (try (refine gate_guard (by rfl) ?_; dsimp only)); refine bx_ 3 29 #[.int .i64 a1_0, .int .i64 a1_1, .int .i64 a1_2, .int .i64 a1_3, .int .i64 a1_4, .int .i64 a1_5, .slice A1_6 l1_6.length c1_6, .slice A1_7 l1_7.length c1_7, .bool a1_8] ?_; intro gb280 hg w5 hbox hb; have BK280 := Aside0.mk hbox; have GE280 := ge_ HB hg; have NB279_280 := na_ hg BK279; replace BK279 := bb_ BK279 hb; replace HB := hs_ HB hb; clear hb hbox hg)))
 (try simp only [Act.put, List.setIfInBounds_toArray, List.set_cons_zero, List.set_cons_succ])
 go_cut [57] (fun v57 wc => ∃ (kq : Nat) (x57_2 : Bool), v57 = .bool x57_2 ∧ Aside0 (althingref05_Same.j0 kq x57_2 a0_0 a0_1 a0_2 a0_3 a0_4 a0_5 l0_6 l0_7 a0_8 a1_0 a1_1 a1_2 a1_3 a1_4 a1_5 l1_6 l1_7 a1_8 = some r) ∧ Aside0 (kq ≤ k) ∧ Aside0 (wc.heap[gb279]? = some (.cells #[.int .i64 a0_0, .int .i64 a0_1, .int .i64 a0_2, .int .i64 a0_3, .int .i64 a0_4, .int .i64 a0_5, (.slice A0_6 l0_6.length c0_6), (.slice A0_7 l0_7.length c0_7), .bool a0_8] 29 (0, 0))) ∧ Aside0 (wc.heap[gb280]? = some (.cells #[.int .i64 a1_0, .int .i64 a1_1, .int .i64 a1_2, .int .i64 a1_3, .int .i64 a1_4, .int .i64 a1_5, (.slice A1_6 l1_6.length c1_6), (.slice A1_7 l1_7.length c1_7), .bool a1_8] 29 (0, 0))) ∧ Aside0 (Below w.heap.size w wc))
 case first =>
  have H := HC3.out
  clear HC3
  by_cases c6 : a0_0 = a1_0
  · rw [if_pos c6] at H
    have c6b0 : (a0_0 == a1_0) = true := beq_iff_eq.mpr c6
    have c6b1 : (a0_0 != a1_0) = false := bne_eq_false_iff_eq.mpr c6
    clear c6
    (first | rw [c6b0] | (simp only [i64_w, i32_w]; rw [c6b0]) | skip)
    by_cases c7 : (!(a0_1 == a1_1) || (!(a0_2 == a1_2))) = true
    · rw [if_pos c7] at H
      have c7b0 : (!(a0_1 == a1_1) || (!(a0_2 == a1_2))) = true := c7
      clear c7
      have H' := Aside0.mk H
      clear H
      refine ne2_ NB279_280 fun hnb8 hnc8 => ?_
      refine blk9_ BK279.out fun hcz9_0 hcz9_1 hcz9_2 hcz9_3 hcz9_4 hcz9_5 hcz9_6 hcz9_7 hcz9_8 hfz9_0 hfz9_1 hfz9_2 hfz9_3 hfz9_4 hfz9_5 hfz9_6 hfz9_7 hfz9_8 => ?_
      refine blk9_ BK280.out fun hcz10_0 hcz10_1 hcz10_2 hcz10_3 hcz10_4 hcz10_5 hcz10_6 hcz10_7 hcz10_8 hfz10_0 hfz10_1 hfz10_2 hfz10_3 hfz10_4 hfz10_5 hfz10_6 hfz10_7 hfz10_8 => ?_
      go_wp2
      repeat (go_quiet (fail); try go_wp2)
      go_meet
      case rel => exact ⟨_, (true), sm_, H', ⟨by first | omega | exact Nat.le_refl _⟩, ⟨by (with_reducible repeat (first | refine blk_drewN ?_ _ | refine blk_drew ?_ | refine blk_alloc ?_ _)); exact BK279.out⟩, ⟨by (with_reducible repeat (first | refine blk_drewN ?_ _ | refine blk_drew ?_ | refine blk_alloc ?_ _)); exact BK280.out⟩, ⟨by repeat (first | (with_reducible first | exact HB.out | apply below_alloc | apply pw_below_drewN | apply below_drew1 | refine below_set ?_ GE279.out | refine below_set ?_ GE280.out) | exact HB.out)⟩⟩
    · rw [if_neg c7] at H
      have c7b0 : (!(a0_1 == a1_1) || (!(a0_2 == a1_2))) = false := by simpa using c7
      clear c7
      by_cases c11 : (!(a0_3 == a1_3) || (!(a0_4 == a1_4))) = true
      · rw [if_pos c11] at H
        have c11b0 : (!(a0_3 == a1_3) || (!(a0_4 == a1_4))) = true := c11
        clear c11
        have H' := Aside0.mk H
        clear H
        refine ne2_ NB279_280 fun hnb12 hnc12 => ?_
        refine blk9_ BK279.out fun hcz13_0 hcz13_1 hcz13_2 hcz13_3 hcz13_4 hcz13_5 hcz13_6 hcz13_7 hcz13_8 hfz13_0 hfz13_1 hfz13_2 hfz13_3 hfz13_4 hfz13_5 hfz13_6 hfz13_7 hfz13_8 => ?_
        refine blk9_ BK280.out fun hcz14_0 hcz14_1 hcz14_2 hcz14_3 hcz14_4 hcz14_5 hcz14_6 hcz14_7 hcz14_8 hfz14_0 hfz14_1 hfz14_2 hfz14_3 hfz14_4 hfz14_5 hfz14_6 hfz14_7 hfz14_8 => ?_
        go_wp2
        repeat (go_quiet (fail); try go_wp2)
        go_meet
        case rel => exact ⟨_, (true), sm_, H', ⟨by first | omega | exact Nat.le_refl _⟩, ⟨by (with_reducible repeat (first | refine blk_drewN ?_ _ | refine blk_drew ?_ | refine blk_alloc ?_ _)); exact BK279.out⟩, ⟨by (with_reducible repeat (first | refine blk_drewN ?_ _ | refine blk_drew ?_ | refine blk_alloc ?_ _)); exact BK280.out⟩, ⟨by repeat (first | (with_reducible first | exact HB.out | apply below_alloc | apply pw_below_drewN | apply below_drew1 | refine below_set ?_ GE279.out | refine below_set ?_ GE280.out) | exact HB.out)⟩⟩
      · rw [if_neg c11] at H
        have c11b0 : (!(a0_3 == a1_3) || (!(a0_4 == a1_4))) = false := by simpa using c11
        clear c11
        by_cases c15 : a0_5 = a1_5
        · rw [if_pos c15] at H
          have c15b0 : (a0_5 == a1_5) = true := beq_iff_eq.mpr c15
          have c15b1 : (a0_5 != a1_5) = false := bne_eq_false_iff_eq.mpr c15
          clear c15
          by_cases c16 : (a0_8 != a1_8) = true
          · rw [if_pos c16] at H
            have c16b0 : (a0_8 != a1_8) = true := c16
            (try (have c16b1 : decide (a0_8 = a1_8) = false := by simpa using c16))
            (try (have c16b2 : (a0_8 == a1_8) = false := by simpa using c16))
            (try (have c16b3 : ¬ (a0_8 = a1_8) := by simpa using c16))
            clear c16
            have H' := Aside0.mk H
            clear H
            refine ne2_ NB279_280 fun hnb17 hnc17 => ?_
            refine blk9_ BK279.out fun hcz18_0 hcz18_1 hcz18_2 hcz18_3 hcz18_4 hcz18_5 hcz18_6 hcz18_7 hcz18_8 hfz18_0 hfz18_1 hfz18_2 hfz18_3 hfz18_4 hfz18_5 hfz18_6 hfz18_7 hfz18_8 => ?_
            refine blk9_ BK280.out fun hcz19_0 hcz19_1 hcz19_2 hcz19_3 hcz19_4 hcz19_5 hcz19_6 hcz19_7 hcz19_8 hfz19_0 hfz19_1 hfz19_2 hfz19_3 hfz19_4 hfz19_5 hfz19_6 hfz19_7 hfz19_8 => ?_
            go_wp2
            repeat (go_quiet (fail); try go_wp2)
            go_meet
            case rel => exact ⟨_, (true), sm_, H', ⟨by first | omega | exact Nat.le_refl _⟩, ⟨by (with_reducible repeat (first | refine blk_drewN ?_ _ | refine blk_drew ?_ | refine blk_alloc ?_ _)); exact BK279.out⟩, ⟨by (with_reducible repeat (first | refine blk_drewN ?_ _ | refine blk_drew ?_ | refine blk_alloc ?_ _)); exact BK280.out⟩, ⟨by repeat (first | (with_reducible first | exact HB.out | apply below_alloc | apply pw_below_drewN | apply below_drew1 | refine below_set ?_ GE279.out | refine below_set ?_ GE280.out) | exact HB.out)⟩⟩
          · rw [if_neg c16] at H
            have c16b0 : (a0_8 != a1_8) = false := by simpa using c16
            (try (have c16b1 : decide (a0_8 = a1_8) = true := by simpa using c16))
            (try (have c16b2 : (a0_8 == a1_8) = true := by simpa using c16))
            clear c16
            by_cases c20 : (l0_6.length : Int) = (l1_6.length : Int)
            · rw [if_pos c20] at H
              have c20b0 : ((l0_6.length : Int) == (l1_6.length : Int)) = true := beq_iff_eq.mpr c20
              have c20b1 : ((l0_6.length : Int) != (l1_6.length : Int)) = false := bne_eq_false_iff_eq.mpr c20
              have c20b2 : (l0_6.length == l1_6.length) = true := by first | simpa using c20 | (simp at c20 ⊢; omega)
              clear c20
              have H' := Aside0.mk H
              clear H
              refine ne2_ NB279_280 fun hnb21 hnc21 => ?_
              refine blk9_ BK279.out fun hcz22_0 hcz22_1 hcz22_2 hcz22_3 hcz22_4 hcz22_5 hcz22_6 hcz22_7 hcz22_8 hfz22_0 hfz22_1 hfz22_2 hfz22_3 hfz22_4 hfz22_5 hfz22_6 hfz22_7 hfz22_8 => ?_
              refine blk9_ BK280.out fun hcz23_0 hcz23_1 hcz23_2 hcz23_3 hcz23_4 hcz23_5 hcz23_6 hcz23_7 hcz23_8 hfz23_0 hfz23_1 hfz23_2 hfz23_3 hfz23_4 hfz23_5 hfz23_6 hfz23_7 hfz23_8 => ?_
              go_wp2
              repeat (go_quiet (fail); try go_wp2)
              go_meet
              case rel => exact ⟨_, (((l0_7.length : Int) != (l1_7.length : Int))), sm_, H', ⟨by first | omega | exact Nat.le_refl _⟩, ⟨by (with_reducible repeat (first | refine blk_drewN ?_ _ | refine blk_drew ?_ | refine blk_alloc ?_ _)); exact BK279.out⟩, ⟨by (with_reducible repeat (first | refine blk_drewN ?_ _ | refine blk_drew ?_ | refine blk_alloc ?_ _)); exact BK280.out⟩, ⟨by repeat (first | (with_reducible first | exact HB.out | apply below_alloc | apply pw_below_drewN | apply below_drew1 | refine below_set ?_ GE279.out | refine below_set ?_ GE280.out) | exact HB.out)⟩⟩
            · rw [if_neg c20] at H
              have c20b0 : ((l0_6.length : Int) == (l1_6.length : Int)) = false := beq_eq_false_iff_ne.mpr c20
              have c20b1 : ((l0_6.length : Int) != (l1_6.length : Int)) = true := bne_iff_ne.mpr c20
              have c20b2 : (l0_6.length == l1_6.length) = false := by first | simpa using c20 | (simp at c20 ⊢; omega)
              have H' := Aside0.mk H
              clear H
              refine ne2_ NB279_280 fun hnb24 hnc24 => ?_
              refine blk9_ BK279.out fun hcz25_0 hcz25_1 hcz25_2 hcz25_3 hcz25_4 hcz25_5 hcz25_6 hcz25_7 hcz25_8 hfz25_0 hfz25_1 hfz25_2 hfz25_3 hfz25_4 hfz25_5 hfz25_6 hfz25_7 hfz25_8 => ?_
              refine blk9_ BK280.out fun hcz26_0 hcz26_1 hcz26_2 hcz26_3 hcz26_4 hcz26_5 hcz26_6 hcz26_7 hcz26_8 hfz26_0 hfz26_1 hfz26_2 hfz26_3 hfz26_4 hfz26_5 hfz26_6 hfz26_7 hfz26_8 => ?_
              go_wp2
              repeat (go_quiet (fail); try go_wp2)
              go_meet
              case rel => exact ⟨_, (true), sm_, H', ⟨by first | omega | exact Nat.le_refl _⟩, ⟨by (with_reducible repeat (first | refine blk_drewN ?_ _ | refine blk_drew ?_ | refine blk_alloc ?_ _)); exact BK279.out⟩, ⟨by (with_reducible repeat (first | refine blk_drewN ?_ _ | refine blk_drew ?_ | refine blk_alloc ?_ _)); exact BK280.out⟩, ⟨by repeat (first | (with_reducible first | exact HB.out | apply below_alloc | apply pw_below_drewN | apply below_drew1 | refine below_set ?_ GE279.out | refine below_set ?_ GE280.out) | exact HB.out)⟩⟩
        · rw [if_neg c15] at H
          have c15b0 : (a0_5 == a1_5) = false := beq_eq_false_iff_ne.mpr c15
          have c15b1 : (a0_5 != a1_5) = true := bne_iff_ne.mpr c15
          have H' := Aside0.mk H
          clear H
          refine ne2_ NB279_280 fun hnb27 hnc27 => ?_
          refine blk9_ BK279.out fun hcz28_0 hcz28_1 hcz28_2 hcz28_3 hcz28_4 hcz28_5 hcz28_6 hcz28_7 hcz28_8 hfz28_0 hfz28_1 hfz28_2 hfz28_3 hfz28_4 hfz28_5 hfz28_6 hfz28_7 hfz28_8 => ?_
          refine blk9_ BK280.out fun hcz29_0 hcz29_1 hcz29_2 hcz29_3 hcz29_4 hcz29_5 hcz29_6 hcz29_7 hcz29_8 hfz29_0 hfz29_1 hfz29_2 hfz29_3 hfz29_4 hfz29_5 hfz29_6 hfz29_7 hfz29_8 => ?_
          go_wp2
          repeat (go_quiet (fail); try go_wp2)
          go_meet
          case rel => exact ⟨_, (true), sm_, H', ⟨by first | omega | exact Nat.le_refl _⟩, ⟨by (with_reducible repeat (first | refine blk_drewN ?_ _ | refine blk_drew ?_ | refine blk_alloc ?_ _)); exact BK279.out⟩, ⟨by (with_reducible repeat (first | refine blk_drewN ?_ _ | refine blk_drew ?_ | refine blk_alloc ?_ _)); exact BK280.out⟩, ⟨by repeat (first | (with_reducible first | exact HB.out | apply below_alloc | apply pw_below_drewN | apply below_drew1 | refine below_set ?_ GE279.out | refine below_set ?_ GE280.out) | exact HB.out)⟩⟩
  · rw [if_neg c6] at H
    have c6b0 : (a0_0 == a1_0) = false := beq_eq_false_iff_ne.mpr c6
    have c6b1 : (a0_0 != a1_0) = true := bne_iff_ne.mpr c6
    (first | rw [c6b0] | (simp only [i64_w, i32_w]; rw [c6b0]) | skip)
    have H' := Aside0.mk H
    clear H
    refine ne2_ NB279_280 fun hnb30 hnc30 => ?_
    refine blk9_ BK279.out fun hcz31_0 hcz31_1 hcz31_2 hcz31_3 hcz31_4 hcz31_5 hcz31_6 hcz31_7 hcz31_8 hfz31_0 hfz31_1 hfz31_2 hfz31_3 hfz31_4 hfz31_5 hfz31_6 hfz31_7 hfz31_8 => ?_
    refine blk9_ BK280.out fun hcz32_0 hcz32_1 hcz32_2 hcz32_3 hcz32_4 hcz32_5 hcz32_6 hcz32_7 hcz32_8 hfz32_0 hfz32_1 hfz32_2 hfz32_3 hfz32_4 hfz32_5 hfz32_6 hfz32_7 hfz32_8 => ?_
    go_wp2
    repeat (go_quiet (fail); try go_wp2)
    go_meet
    case rel => exact ⟨_, (true), sm_, H', ⟨by first | omega | exact Nat.le_refl _⟩, ⟨by (with_reducible repeat (first | refine blk_drewN ?_ _ | refine blk_drew ?_ | refine blk_alloc ?_ _)); exact BK279.out⟩, ⟨by (with_reducible repeat (first | refine blk_drewN ?_ _ | refine blk_drew ?_ | refine blk_alloc ?_ _)); exact BK280.out⟩, ⟨by repeat (first | (with_reducible first | exact HB.out | apply below_alloc | apply pw_below_drewN | apply below_drew1 | refine below_set ?_ GE279.out | refine below_set ?_ GE280.out) | exact HB.out)⟩⟩
 case rest =>
  clear HC3
  try clear c1
  try clear c2
  try clear p2
  try clear c3
  try clear c6
  try clear c6b0
  try clear c6b1
  try clear c7
  try clear c7b0
  try clear c8
  try clear c11
  try clear c11b0
  try clear c12
  try clear c15
  try clear c15b0
  try clear c15b1
  try clear c16
  try clear c16b0
  try clear c16b1
  try clear c16b2
  try clear c17
  try clear c20
  try clear c20b0
  try clear c20b1
  try clear c20b2
  try clear c21
  try clear c24
  try clear c27
  try clear c30
  try clear hcz10_0 hcz10_1 hcz10_2 hcz10_3 hcz10_4 hcz10_5 hcz10_6 hcz10_7 hcz10_8
  try clear hcz13_0 hcz13_1 hcz13_2 hcz13_3 hcz13_4 hcz13_5 hcz13_6 hcz13_7 hcz13_8
  try clear hcz14_0 hcz14_1 hcz14_2 hcz14_3 hcz14_4 hcz14_5 hcz14_6 hcz14_7 hcz14_8
  try clear hcz18_0 hcz18_1 hcz18_2 hcz18_3 hcz18_4 hcz18_5 hcz18_6 hcz18_7 hcz18_8
  try clear hcz19_0 hcz19_1 hcz19_2 hcz19_3 hcz19_4 hcz19_5 hcz19_6 hcz19_7 hcz19_8
  try clear hcz22_0 hcz22_1 hcz22_2 hcz22_3 hcz22_4 hcz22_5 hcz22_6 hcz22_7 hcz22_8
  try clear hcz23_0 hcz23_1 hcz23_2 hcz23_3 hcz23_4 hcz23_5 hcz23_6 hcz23_7 hcz23_8
  try clear hcz25_0 hcz25_1 hcz25_2 hcz25_3 hcz25_4 hcz25_5 hcz25_6 hcz25_7 hcz25_8
  try clear hcz26_0 hcz26_1 hcz26_2 hcz26_3 hcz26_4 hcz26_5 hcz26_6 hcz26_7 hcz26_8
  try clear hcz28_0 hcz28_1 hcz28_2 hcz28_3 hcz28_4 hcz28_5 hcz28_6 hcz28_7 hcz28_8
  try clear hcz29_0 hcz29_1 hcz29_2 hcz29_3 hcz29_4 hcz29_5 hcz29_6 hcz29_7 hcz29_8
  try clear hcz31_0 hcz31_1 hcz31_2 hcz31_3 hcz31_4 hcz31_5 hcz31_6 hcz31_7 hcz31_8
  try clear hcz32_0 hcz32_1 hcz32_2 hcz32_3 hcz32_4 hcz32_5 hcz32_6 hcz32_7 hcz32_8
  try clear hcz9_0 hcz9_1 hcz9_2 hcz9_3 hcz9_4 hcz9_5 hcz9_6 hcz9_7 hcz9_8
  try clear hfz10_0 hfz10_1 hfz10_2 hfz10_3 hfz10_4 hfz10_5 hfz10_6 hfz10_7 hfz10_8
  try clear hfz13_0 hfz13_1 hfz13_2 hfz13_3 hfz13_4 hfz13_5 hfz13_6 hfz13_7 hfz13_8
  try clear hfz14_0 hfz14_1 hfz14_2 hfz14_3 hfz14_4 hfz14_5 hfz14_6 hfz14_7 hfz14_8
  try clear hfz18_0 hfz18_1 hfz18_2 hfz18_3 hfz18_4 hfz18_5 hfz18_6 hfz18_7 hfz18_8
  try clear hfz19_0 hfz19_1 hfz19_2 hfz19_3 hfz19_4 hfz19_5 hfz19_6 hfz19_7 hfz19_8
  try clear hfz22_0 hfz22_1 hfz22_2 hfz22_3 hfz22_4 hfz22_5 hfz22_6 hfz22_7 hfz22_8
  try clear hfz23_0 hfz23_1 hfz23_2 hfz23_3 hfz23_4 hfz23_5 hfz23_6 hfz23_7 hfz23_8
  try clear hfz25_0 hfz25_1 hfz25_2 hfz25_3 hfz25_4 hfz25_5 hfz25_6 hfz25_7 hfz25_8
  try clear hfz26_0 hfz26_1 hfz26_2 hfz26_3 hfz26_4 hfz26_5 hfz26_6 hfz26_7 hfz26_8
  try clear hfz28_0 hfz28_1 hfz28_2 hfz28_3 hfz28_4 hfz28_5 hfz28_6 hfz28_7 hfz28_8
  try clear hfz29_0 hfz29_1 hfz29_2 hfz29_3 hfz29_4 hfz29_5 hfz29_6 hfz29_7 hfz29_8
  try clear hfz31_0 hfz31_1 hfz31_2 hfz31_3 hfz31_4 hfz31_5 hfz31_6 hfz31_7 hfz31_8
  try clear hfz32_0 hfz32_1 hfz32_2 hfz32_3 hfz32_4 hfz32_5 hfz32_6 hfz32_7 hfz32_8
  try clear hfz9_0 hfz9_1 hfz9_2 hfz9_3 hfz9_4 hfz9_5 hfz9_6 hfz9_7 hfz9_8
  obtain ⟨kq, x57_2, rfl, HA, HJ2, BK279, BK280, HB⟩ := hcut
  cases kq with
  | zero => exact absurd HA.out (by simp [althingref05_Same.j0])
  | succ kj2 =>
   have H := HA.out
   clear HA
   simp only [althingref05_Same.j0] at H
   by_cases c33 : x57_2 = true
   · subst c33
     rw [if_pos rfl] at H
     obtain rfl := Option.some.inj H
     go_wp2
     repeat (go_quiet (fail); try go_wp2)
     go_ret
     exact ⟨by first | rfl | (simp [errW_none, errW_some] <;> rfl) | (simp [*, errW_none, errW_some] <;> rfl), by repeat (first | (with_reducible first | exact HB.out | apply below_alloc | apply pw_below_drewN | apply below_drew1 | refine below_set ?_ GE279.out | refine below_set ?_ GE280.out) | exact HB.out)⟩
   · replace c33 := Bool.eq_false_iff.mpr c33
     subst c33
     rw [if_neg (show ¬ (false = true) by decide)] at H
     have H' := Aside0.mk H
     clear H
     go_wp2
     repeat (go_quiet (fail); try go_wp2)
     go_loopg [5] kj2 (fun kq v5 w' => ∃ (x5_2 : Int), v5 = .int .i64 x5_2 ∧ Aside0 (althingref05_Same.l0 kq x5_2 a0_0 a0_1 a0_2 a0_3 a0_4 a0_5 l0_6 l0_7 a0_8 a1_0 a1_1 a1_2 a1_3 a1_4 a1_5 l1_6 l1_7 a1_8 = some r) ∧ Aside0 (kq ≤ kj2) ∧ Aside0 (w'.heap[gb279]? = some (.cells #[.int .i64 a0_0, .int .i64 a0_1, .int .i64 a0_2, .int .i64 a0_3, .int .i64 a0_4, .int .i64 a0_5, (.slice A0_6 l0_6.length c0_6), (.slice A0_7 l0_7.length c0_7), .bool a0_8] 29 (0, 0))) ∧ Aside0 (w'.heap[gb280]? = some (.cells #[.int .i64 a1_0, .int .i64 a1_1, .int .i64 a1_2, .int .i64 a1_3, .int .i64 a1_4, .int .i64 a1_5, (.slice A1_6 l1_6.length c1_6), (.slice A1_7 l1_7.length c1_7), .bool a1_8] 29 (0, 0))) ∧ Aside0 (Below w.heap.size w w'))
     case atStart => exact ⟨(0), sm_, H', ⟨Nat.le_refl _⟩, ⟨by (with_reducible repeat (first | refine blk_drewN ?_ _ | refine blk_drew ?_ | refine blk_alloc ?_ _)); exact BK279.out⟩, ⟨by (with_reducible repeat (first | refine blk_drewN ?_ _ | refine blk_drew ?_ | refine blk_alloc ?_ _)); exact BK280.out⟩, ⟨by repeat (first | (with_reducible first | exact HB.out | apply below_alloc | apply pw_below_drewN | apply below_drew1 | refine below_set ?_ GE279.out | refine below_set ?_ GE280.out) | exact HB.out)⟩⟩
     case round =>
      clear H'
      try clear c1
      try clear c2
      try clear p2
      try clear c3
      try clear c6
      try clear c6b0
      try clear c6b1
      try clear c7
      try clear c7b0
      try clear c8
      try clear c11
      try clear c11b0
      try clear c12
      try clear c15
      try clear c15b0
      try clear c15b1
      try clear c16
      try clear c16b0
      try clear c16b1
      try clear c16b2
      try clear c17
      try clear c20
      try clear c20b0
      try clear c20b1
      try clear c20b2
      try clear c21
      try clear c24
      try clear c27
      try clear c30
      try clear c33
      try clear hcz10_0 hcz10_1 hcz10_2 hcz10_3 hcz10_4 hcz10_5 hcz10_6 hcz10_7 hcz10_8
      try clear hcz13_0 hcz13_1 hcz13_2 hcz13_3 hcz13_4 hcz13_5 hcz13_6 hcz13_7 hcz13_8
      try clear hcz14_0 hcz14_1 hcz14_2 hcz14_3 hcz14_4 hcz14_5 hcz14_6 hcz14_7 hcz14_8
      try clear hcz18_0 hcz18_1 hcz18_2 hcz18_3 hcz18_4 hcz18_5 hcz18_6 hcz18_7 hcz18_8
      try clear hcz19_0 hcz19_1 hcz19_2 hcz19_3 hcz19_4 hcz19_5 hcz19_6 hcz19_7 hcz19_8
      try clear hcz22_0 hcz22_1 hcz22_2 hcz22_3 hcz22_4 hcz22_5 hcz22_6 hcz22_7 hcz22_8
      try clear hcz23_0 hcz23_1 hcz23_2 hcz23_3 hcz23_4 hcz23_5 hcz23_6 hcz23_7 hcz23_8
      try clear hcz25_0 hcz25_1 hcz25_2 hcz25_3 hcz25_4 hcz25_5 hcz25_6 hcz25_7 hcz25_8
      try clear hcz26_0 hcz26_1 hcz26_2 hcz26_3 hcz26_4 hcz26_5 hcz26_6 hcz26_7 hcz26_8
      try clear hcz28_0 hcz28_1 hcz28_2 hcz28_3 hcz28_4 hcz28_5 hcz28_6 hcz28_7 hcz28_8
      try clear hcz29_0 hcz29_1 hcz29_2 hcz29_3 hcz29_4 hcz29_5 hcz29_6 hcz29_7 hcz29_8
      try clear hcz31_0 hcz31_1 hcz31_2 hcz31_3 hcz31_4 hcz31_5 hcz31_6 hcz31_7 hcz31_8
      try clear hcz32_0 hcz32_1 hcz32_2 hcz32_3 hcz32_4 hcz32_5 hcz32_6 hcz32_7 hcz32_8
      try clear hcz9_0 hcz9_1 hcz9_2 hcz9_3 hcz9_4 hcz9_5 hcz9_6 hcz9_7 hcz9_8
      try clear hfz10_0 hfz10_1 hfz10_2 hfz10_3 hfz10_4 hfz10_5 hfz10_6 hfz10_7 hfz10_8
      try clear hfz13_0 hfz13_1 hfz13_2 hfz13_3 hfz13_4 hfz13_5 hfz13_6 hfz13_7 hfz13_8
      try clear hfz14_0 hfz14_1 hfz14_2 hfz14_3 hfz14_4 hfz14_5 hfz14_6 hfz14_7 hfz14_8
      try clear hfz18_0 hfz18_1 hfz18_2 hfz18_3 hfz18_4 hfz18_5 hfz18_6 hfz18_7 hfz18_8
      try clear hfz19_0 hfz19_1 hfz19_2 hfz19_3 hfz19_4 hfz19_5 hfz19_6 hfz19_7 hfz19_8
      try clear hfz22_0 hfz22_1 hfz22_2 hfz22_3 hfz22_4 hfz22_5 hfz22_6 hfz22_7 hfz22_8
      try clear hfz23_0 hfz23_1 hfz23_2 hfz23_3 hfz23_4 hfz23_5 hfz23_6 hfz23_7 hfz23_8
      try clear hfz25_0 hfz25_1 hfz25_2 hfz25_3 hfz25_4 hfz25_5 hfz25_6 hfz25_7 hfz25_8
      try clear hfz26_0 hfz26_1 hfz26_2 hfz26_3 hfz26_4 hfz26_5 hfz26_6 hfz26_7 hfz26_8
      try clear hfz28_0 hfz28_1 hfz28_2 hfz28_3 hfz28_4 hfz28_5 hfz28_6 hfz28_7 hfz28_8
      try clear hfz29_0 hfz29_1 hfz29_2 hfz29_3 hfz29_4 hfz29_5 hfz29_6 hfz29_7 hfz29_8
      try clear hfz31_0 hfz31_1 hfz31_2 hfz31_3 hfz31_4 hfz31_5 hfz31_6 hfz31_7 hfz31_8
      try clear hfz32_0 hfz32_1 hfz32_2 hfz32_3 hfz32_4 hfz32_5 hfz32_6 hfz32_7 hfz32_8
      try clear hfz9_0 hfz9_1 hfz9_2 hfz9_3 hfz9_4 hfz9_5 hfz9_6 hfz9_7 hfz9_8
      try clear p2
      (try clear BK279); (try clear BK280)
      obtain ⟨x5_2, rfl, HA, HK2, BK279, BK280, HB⟩ := hrel
      cases gk with
      | zero => exact absurd HA.out (by simp [althingref05_Same.l0])
      | succ k2 =>
       have H := HA.out
       clear HA
       simp only [althingref05_Same.l0] at H
       by_cases c34 : x5_2 < (l0_6.length : Int)
       · rw [if_pos c34] at H
         have c34b0 : decide (x5_2 < (l0_6.length : Int)) = true := decide_eq_true c34
         clear c34
         by_cases c35 : 0 ≤ x5_2
         · rw [if_pos c35] at H
           have c35b0 : decide (0 ≤ x5_2) = true := decide_eq_true c35
           clear c35
           by_cases c36 : x5_2 < (l1_6.length : Int)
           · rw [if_pos c36] at H
             have c36b0 : decide (x5_2 < (l1_6.length : Int)) = true := decide_eq_true c36
             clear c36
             by_cases c37 : (!((((rd_T38 l0_6 x5_2).f0).toList) == (((rd_T38 l1_6 x5_2).f0).toList)) || ((!(((rd_T38 l0_6 x5_2).f1.f0) == ((rd_T38 l1_6 x5_2).f1.f0)) || (!(((rd_T38 l0_6 x5_2).f1.f1) == ((rd_T38 l1_6 x5_2).f1.f1)))))) = true
             · rw [if_pos c37] at H
               have c37b0 : (!((((rd_T38 l0_6 x5_2).f0).toList) == (((rd_T38 l1_6 x5_2).f0).toList)) || ((!(((rd_T38 l0_6 x5_2).f1.f0) == ((rd_T38 l1_6 x5_2).f1.f0)) || (!(((rd_T38 l0_6 x5_2).f1.f1) == ((rd_T38 l1_6 x5_2).f1.f1)))))) = true := c37
               clear c37
               obtain rfl := Option.some.inj H
               refine ne2_ NB279_280 fun hnb38 hnc38 => ?_
               refine blk9_ BK279.out fun hcz39_0 hcz39_1 hcz39_2 hcz39_3 hcz39_4 hcz39_5 hcz39_6 hcz39_7 hcz39_8 hfz39_0 hfz39_1 hfz39_2 hfz39_3 hfz39_4 hfz39_5 hfz39_6 hfz39_7 hfz39_8 => ?_
               have p281 : 0 ≤ (x5_2 : Int) := of_decide_eq_true (by first | (with_reducible assumption) | assumption)
               have q281 : x5_2 < (l0_6.length : Int) := of_decide_eq_true (by first | (with_reducible assumption) | assumption)
               obtain ⟨ad281, e281, hx281_0, hx281_1, hx281_2⟩ := at_T38 HR0_6.out x5_2 p281 q281
               cases e281
               replace hx281_0 := (HB.out.cell (World.block_lt_of_cell? w _ hx281_0)).trans hx281_0
               replace hx281_1 := (HB.out.cell (World.block_lt_of_cell? w _ hx281_1)).trans hx281_1
               replace hx281_2 := (HB.out.cell (World.block_lt_of_cell? w _ hx281_2)).trans hx281_2
               replace p281 := eq_true p281
               replace q281 := eq_true q281
               refine blk9_ BK280.out fun hcz40_0 hcz40_1 hcz40_2 hcz40_3 hcz40_4 hcz40_5 hcz40_6 hcz40_7 hcz40_8 hfz40_0 hfz40_1 hfz40_2 hfz40_3 hfz40_4 hfz40_5 hfz40_6 hfz40_7 hfz40_8 => ?_
               have p282 : 0 ≤ (x5_2 : Int) := of_decide_eq_true (by first | (with_reducible assumption) | assumption)
               have q282 : x5_2 < (l1_6.length : Int) := of_decide_eq_true (by first | (with_reducible assumption) | assumption)
               obtain ⟨ad282, e282, hx282_0, hx282_1, hx282_2⟩ := at_T38 HR1_6.out x5_2 p282 q282
               cases e282
               replace hx282_0 := (HB.out.cell (World.block_lt_of_cell? w _ hx282_0)).trans hx282_0
               replace hx282_1 := (HB.out.cell (World.block_lt_of_cell? w _ hx282_1)).trans hx282_1
               replace hx282_2 := (HB.out.cell (World.block_lt_of_cell? w _ hx282_2)).trans hx282_2
               replace p282 := eq_true p282
               replace q282 := eq_true q282
               go_wp2
               repeat (go_quiet (fail); try go_wp2)
               go_ret
               exact ⟨by first | rfl | (simp [errW_none, errW_some] <;> rfl) | (simp [*, errW_none, errW_some] <;> rfl), by repeat (first | (with_reducible first | exact HB.out | apply below_alloc | apply pw_below_drewN | apply below_drew1 | refine below_set ?_ GE279.out | refine below_set ?_ GE280.out) | exact HB.out)⟩
             · rw [if_neg c37] at H
               have c37b0 : (!((((rd_T38 l0_6 x5_2).f0).toList) == (((rd_T38 l1_6 x5_2).f0).toList)) || ((!(((rd_T38 l0_6 x5_2).f1.f0) == ((rd_T38 l1_6 x5_2).f1.f0)) || (!(((rd_T38 l0_6 x5_2).f1.f1) == ((rd_T38 l1_6 x5_2).f1.f1)))))) = false := by simpa using c37
               clear c37
               have H' := Aside0.mk H
               clear H
               refine ne2_ NB279_280 fun hnb41 hnc41 => ?_
               refine blk9_ BK279.out fun hcz42_0 hcz42_1 hcz42_2 hcz42_3 hcz42_4 hcz42_5 hcz42_6 hcz42_7 hcz42_8 hfz42_0 hfz42_1 hfz42_2 hfz42_3 hfz42_4 hfz42_5 hfz42_6 hfz42_7 hfz42_8 => ?_
               have p281 : 0 ≤ (x5_2 : Int) := of_decide_eq_true (by first | (with_reducible assumption) | assumption)
               have q281 : x5_2 < (l0_6.length : Int) := of_decide_eq_true (by first | (with_reducible assumption) | assumption)
               obtain ⟨ad281, e281, hx281_0, hx281_1, hx281_2⟩ := at_T38 HR0_6.out x5_2 p281 q281
               cases e281
               replace hx281_0 := (HB.out.cell (World.block_lt_of_cell? w _ hx281_0)).trans hx281_0
               replace hx281_1 := (HB.out.cell (World.block_lt_of_cell? w _ hx281_1)).trans hx281_1
               replace hx281_2 := (HB.out.cell (World.block_lt_of_cell? w _ hx281_2)).trans hx281_2
               replace p281 := eq_true p281
               replace q281 := eq_true q281
               refine blk9_ BK280.out fun hcz43_0 hcz43_1 hcz43_2 hcz43_3 hcz43_4 hcz43_5 hcz43_6 hcz43_7 hcz43_8 hfz43_0 hfz43_1 hfz43_2 hfz43_3 hfz43_4 hfz43_5 hfz43_6 hfz43_7 hfz43_8 => ?_
               have p282 : 0 ≤ (x5_2 : Int) := of_decide_eq_true (by first | (with_reducible assumption) | assumption)
               have q282 : x5_2 < (l1_6.length : Int) := of_decide_eq_true (by first | (with_reducible assumption) | assumption)
               obtain ⟨ad282, e282, hx282_0, hx282_1, hx282_2⟩ := at_T38 HR1_6.out x5_2 p282 q282
               cases e282
               replace hx282_0 := (HB.out.cell (World.block_lt_of_cell? w _ hx282_0)).trans hx282_0
               replace hx282_1 := (HB.out.cell (World.block_lt_of_cell? w _ hx282_1)).trans hx282_1
               replace hx282_2 := (HB.out.cell (World.block_lt_of_cell? w _ hx282_2)).trans hx282_2
               replace p282 := eq_true p282
               replace q282 := eq_true q282
               go_wp2
               repeat (go_quiet (fail); try go_wp2)
               go_roundg k2
               case measure => have := HJ2.out; have := HK2.out; omega
               case rel => exact ⟨(wrap64 (x5_2 + 1)), sm_, H', ⟨by have := HJ2.out; have := HK2.out; omega⟩, ⟨by (with_reducible repeat (first | refine blk_drewN ?_ _ | refine blk_drew ?_ | refine blk_alloc ?_ _)); exact BK279.out⟩, ⟨by (with_reducible repeat (first | refine blk_drewN ?_ _ | refine blk_drew ?_ | refine blk_alloc ?_ _)); exact BK280.out⟩, ⟨by repeat (first | (with_reducible first | exact HB.out | apply below_alloc | apply pw_below_drewN | apply below_drew1 | refine below_set ?_ GE279.out | refine below_set ?_ GE280.out) | exact HB.out)⟩⟩
           · rw [if_neg c36] at H
             exact absurd H (by simp)
         · rw [if_neg c35] at H
           exact absurd H (by simp)
       · rw [if_neg c34] at H
         have c34b0 : decide (x5_2 < (l0_6.length : Int)) = false := decide_eq_false c34
         clear c34
         have H' := Aside0.mk H
         clear H
         refine ne2_ NB279_280 fun hnb44 hnc44 => ?_
         refine blk9_ BK279.out fun hcz45_0 hcz45_1 hcz45_2 hcz45_3 hcz45_4 hcz45_5 hcz45_6 hcz45_7 hcz45_8 hfz45_0 hfz45_1 hfz45_2 hfz45_3 hfz45_4 hfz45_5 hfz45_6 hfz45_7 hfz45_8 => ?_
         go_wp2
         repeat (go_quiet (fail); try go_wp2)
         go_loopg [6] k2 (fun kq v6 w' => ∃ (x6_3 : Int), v6 = .int .i64 x6_3 ∧ Aside0 (althingref05_Same.l1 kq x6_3 a0_0 a0_1 a0_2 a0_3 a0_4 a0_5 l0_6 l0_7 a0_8 a1_0 a1_1 a1_2 a1_3 a1_4 a1_5 l1_6 l1_7 a1_8 = some r) ∧ Aside0 (kq ≤ k2) ∧ Aside0 (w'.heap[gb279]? = some (.cells #[.int .i64 a0_0, .int .i64 a0_1, .int .i64 a0_2, .int .i64 a0_3, .int .i64 a0_4, .int .i64 a0_5, (.slice A0_6 l0_6.length c0_6), (.slice A0_7 l0_7.length c0_7), .bool a0_8] 29 (0, 0))) ∧ Aside0 (w'.heap[gb280]? = some (.cells #[.int .i64 a1_0, .int .i64 a1_1, .int .i64 a1_2, .int .i64 a1_3, .int .i64 a1_4, .int .i64 a1_5, (.slice A1_6 l1_6.length c1_6), (.slice A1_7 l1_7.length c1_7), .bool a1_8] 29 (0, 0))) ∧ Aside0 (Below w.heap.size w w'))
         case atStart => exact ⟨(0), sm_, H', ⟨Nat.le_refl _⟩, ⟨by (with_reducible repeat (first | refine blk_drewN ?_ _ | refine blk_drew ?_ | refine blk_alloc ?_ _)); exact BK279.out⟩, ⟨by (with_reducible repeat (first | refine blk_drewN ?_ _ | refine blk_drew ?_ | refine blk_alloc ?_ _)); exact BK280.out⟩, ⟨by repeat (first | (with_reducible first | exact HB.out | apply below_alloc | apply pw_below_drewN | apply below_drew1 | refine below_set ?_ GE279.out | refine below_set ?_ GE280.out) | exact HB.out)⟩⟩
         case round =>
          clear H'
          try clear c1
          try clear c2
          try clear p2
          try clear q2
          try clear hx2
          try clear c3
          try clear c4
          try clear c6
          try clear c6b0
          try clear c6b1
          try clear p6
          try clear c7
          try clear c7b0
          try clear c8
          try clear c11
          try clear c11b0
          try clear c12
          try clear c15
          try clear c15b0
          try clear c15b1
          try clear c16
          try clear c16b0
          try clear c16b1
          try clear c16b2
          try clear c17
          try clear c20
          try clear c20b0
          try clear c20b1
          try clear c20b2
          try clear c21
          try clear c24
          try clear c27
          try clear p28
          try clear q28
          try clear hx28
          try clear c30
          try clear c33
          try clear c34
          try clear c34b0
          try clear c35
          try clear c35b0
          try clear c36
          try clear c36b0
          try clear c37
          try clear c37b0
          try clear c38
          try clear c41
          try clear c44
          try clear hcz10_0 hcz10_1 hcz10_2 hcz10_3 hcz10_4 hcz10_5 hcz10_6 hcz10_7 hcz10_8
          try clear hcz13_0 hcz13_1 hcz13_2 hcz13_3 hcz13_4 hcz13_5 hcz13_6 hcz13_7 hcz13_8
          try clear hcz14_0 hcz14_1 hcz14_2 hcz14_3 hcz14_4 hcz14_5 hcz14_6 hcz14_7 hcz14_8
          try clear hcz18_0 hcz18_1 hcz18_2 hcz18_3 hcz18_4 hcz18_5 hcz18_6 hcz18_7 hcz18_8
          try clear hcz19_0 hcz19_1 hcz19_2 hcz19_3 hcz19_4 hcz19_5 hcz19_6 hcz19_7 hcz19_8
          try clear hcz22_0 hcz22_1 hcz22_2 hcz22_3 hcz22_4 hcz22_5 hcz22_6 hcz22_7 hcz22_8
          try clear hcz23_0 hcz23_1 hcz23_2 hcz23_3 hcz23_4 hcz23_5 hcz23_6 hcz23_7 hcz23_8
          try clear hcz25_0 hcz25_1 hcz25_2 hcz25_3 hcz25_4 hcz25_5 hcz25_6 hcz25_7 hcz25_8
          try clear hcz26_0 hcz26_1 hcz26_2 hcz26_3 hcz26_4 hcz26_5 hcz26_6 hcz26_7 hcz26_8
          try clear hcz28_0 hcz28_1 hcz28_2 hcz28_3 hcz28_4 hcz28_5 hcz28_6 hcz28_7 hcz28_8
          try clear hcz29_0 hcz29_1 hcz29_2 hcz29_3 hcz29_4 hcz29_5 hcz29_6 hcz29_7 hcz29_8
          try clear hcz31_0 hcz31_1 hcz31_2 hcz31_3 hcz31_4 hcz31_5 hcz31_6 hcz31_7 hcz31_8
          try clear hcz32_0 hcz32_1 hcz32_2 hcz32_3 hcz32_4 hcz32_5 hcz32_6 hcz32_7 hcz32_8
          try clear hcz39_0 hcz39_1 hcz39_2 hcz39_3 hcz39_4 hcz39_5 hcz39_6 hcz39_7 hcz39_8
          try clear hcz40_0 hcz40_1 hcz40_2 hcz40_3 hcz40_4 hcz40_5 hcz40_6 hcz40_7 hcz40_8
          try clear hcz42_0 hcz42_1 hcz42_2 hcz42_3 hcz42_4 hcz42_5 hcz42_6 hcz42_7 hcz42_8
          try clear hcz43_0 hcz43_1 hcz43_2 hcz43_3 hcz43_4 hcz43_5 hcz43_6 hcz43_7 hcz43_8
          try clear hcz45_0 hcz45_1 hcz45_2 hcz45_3 hcz45_4 hcz45_5 hcz45_6 hcz45_7 hcz45_8
          try clear hcz9_0 hcz9_1 hcz9_2 hcz9_3 hcz9_4 hcz9_5 hcz9_6 hcz9_7 hcz9_8
          try clear hfz10_0 hfz10_1 hfz10_2 hfz10_3 hfz10_4 hfz10_5 hfz10_6 hfz10_7 hfz10_8
          try clear hfz13_0 hfz13_1 hfz13_2 hfz13_3 hfz13_4 hfz13_5 hfz13_6 hfz13_7 hfz13_8
          try clear hfz14_0 hfz14_1 hfz14_2 hfz14_3 hfz14_4 hfz14_5 hfz14_6 hfz14_7 hfz14_8
          try clear hfz18_0 hfz18_1 hfz18_2 hfz18_3 hfz18_4 hfz18_5 hfz18_6 hfz18_7 hfz18_8
          try clear hfz19_0 hfz19_1 hfz19_2 hfz19_3 hfz19_4 hfz19_5 hfz19_6 hfz19_7 hfz19_8
          try clear hfz22_0 hfz22_1 hfz22_2 hfz22_3 hfz22_4 hfz22_5 hfz22_6 hfz22_7 hfz22_8
          try clear hfz23_0 hfz23_1 hfz23_2 hfz23_3 hfz23_4 hfz23_5 hfz23_6 hfz23_7 hfz23_8
          try clear hfz25_0 hfz25_1 hfz25_2 hfz25_3 hfz25_4 hfz25_5 hfz25_6 hfz25_7 hfz25_8
          try clear hfz26_0 hfz26_1 hfz26_2 hfz26_3 hfz26_4 hfz26_5 hfz26_6 hfz26_7 hfz26_8
          try clear hfz28_0 hfz28_1 hfz28_2 hfz28_3 hfz28_4 hfz28_5 hfz28_6 hfz28_7 hfz28_8
          try clear hfz29_0 hfz29_1 hfz29_2 hfz29_3 hfz29_4 hfz29_5 hfz29_6 hfz29_7 hfz29_8
          try clear hfz31_0 hfz31_1 hfz31_2 hfz31_3 hfz31_4 hfz31_5 hfz31_6 hfz31_7 hfz31_8
          try clear hfz32_0 hfz32_1 hfz32_2 hfz32_3 hfz32_4 hfz32_5 hfz32_6 hfz32_7 hfz32_8
          try clear hfz39_0 hfz39_1 hfz39_2 hfz39_3 hfz39_4 hfz39_5 hfz39_6 hfz39_7 hfz39_8
          try clear hfz40_0 hfz40_1 hfz40_2 hfz40_3 hfz40_4 hfz40_5 hfz40_6 hfz40_7 hfz40_8
          try clear hfz42_0 hfz42_1 hfz42_2 hfz42_3 hfz42_4 hfz42_5 hfz42_6 hfz42_7 hfz42_8
          try clear hfz43_0 hfz43_1 hfz43_2 hfz43_3 hfz43_4 hfz43_5 hfz43_6 hfz43_7 hfz43_8
          try clear hfz45_0 hfz45_1 hfz45_2 hfz45_3 hfz45_4 hfz45_5 hfz45_6 hfz45_7 hfz45_8
          try clear hfz9_0 hfz9_1 hfz9_2 hfz9_3 hfz9_4 hfz9_5 hfz9_6 hfz9_7 hfz9_8
          try clear hx281_0
          try clear hx281_1
          try clear hx281_2
          try clear hx282_0
          try clear hx282_1
          try clear hx282_2
          try clear p2
          try clear p281
          try clear p282
          try clear q281
          try clear q282
          (try clear BK279); (try clear BK280)
          obtain ⟨x6_3, rfl, HA, HK3, BK279, BK280, HB⟩ := hrel
          cases gk with
          | zero => exact absurd HA.out (by simp [althingref05_Same.l1])
          | succ k3 =>
           have H := HA.out
           clear HA
           simp only [althingref05_Same.l1] at H
           by_cases c46 : x6_3 < (l0_7.length : Int)
           · rw [if_pos c46] at H
             have c46b0 : decide (x6_3 < (l0_7.length : Int)) = true := decide_eq_true c46
             clear c46
             by_cases c47 : 0 ≤ x6_3
             · rw [if_pos c47] at H
               have c47b0 : decide (0 ≤ x6_3) = true := decide_eq_true c47
               clear c47
               by_cases c48 : x6_3 < (l1_7.length : Int)
               · rw [if_pos c48] at H
                 have c48b0 : decide (x6_3 < (l1_7.length : Int)) = true := decide_eq_true c48
                 clear c48
                 by_cases c49 : (!((((rd_T40 l0_7 x6_3).f0).toList) == (((rd_T40 l1_7 x6_3).f0).toList)) || (!((((rd_T40 l0_7 x6_3).f1).toList) == (((rd_T40 l1_7 x6_3).f1).toList)))) = true
                 · rw [if_pos c49] at H
                   have c49b0 : (!((((rd_T40 l0_7 x6_3).f0).toList) == (((rd_T40 l1_7 x6_3).f0).toList)) || (!((((rd_T40 l0_7 x6_3).f1).toList) == (((rd_T40 l1_7 x6_3).f1).toList)))) = true := c49
                   clear c49
                   obtain rfl := Option.some.inj H
                   refine ne2_ NB279_280 fun hnb50 hnc50 => ?_
                   refine blk9_ BK279.out fun hcz51_0 hcz51_1 hcz51_2 hcz51_3 hcz51_4 hcz51_5 hcz51_6 hcz51_7 hcz51_8 hfz51_0 hfz51_1 hfz51_2 hfz51_3 hfz51_4 hfz51_5 hfz51_6 hfz51_7 hfz51_8 => ?_
                   have p283 : 0 ≤ (x6_3 : Int) := of_decide_eq_true (by first | (with_reducible assumption) | assumption)
                   have q283 : x6_3 < (l0_7.length : Int) := of_decide_eq_true (by first | (with_reducible assumption) | assumption)
                   obtain ⟨ad283, e283, hx283_0, hx283_1⟩ := at_T40 HR0_7.out x6_3 p283 q283
                   cases e283
                   replace hx283_0 := (HB.out.cell (World.block_lt_of_cell? w _ hx283_0)).trans hx283_0
                   replace hx283_1 := (HB.out.cell (World.block_lt_of_cell? w _ hx283_1)).trans hx283_1
                   replace p283 := eq_true p283
                   replace q283 := eq_true q283
                   refine blk9_ BK280.out fun hcz52_0 hcz52_1 hcz52_2 hcz52_3 hcz52_4 hcz52_5 hcz52_6 hcz52_7 hcz52_8 hfz52_0 hfz52_1 hfz52_2 hfz52_3 hfz52_4 hfz52_5 hfz52_6 hfz52_7 hfz52_8 => ?_
                   have p284 : 0 ≤ (x6_3 : Int) := of_decide_eq_true (by first | (with_reducible assumption) | assumption)
                   have q284 : x6_3 < (l1_7.length : Int) := of_decide_eq_true (by first | (with_reducible assumption) | assumption)
                   obtain ⟨ad284, e284, hx284_0, hx284_1⟩ := at_T40 HR1_7.out x6_3 p284 q284
                   cases e284
                   replace hx284_0 := (HB.out.cell (World.block_lt_of_cell? w _ hx284_0)).trans hx284_0
                   replace hx284_1 := (HB.out.cell (World.block_lt_of_cell? w _ hx284_1)).trans hx284_1
                   replace p284 := eq_true p284
                   replace q284 := eq_true q284
                   go_wp2
                   repeat (go_quiet (fail); try go_wp2)
                   go_ret
                   exact ⟨by first | rfl | (simp [errW_none, errW_some] <;> rfl) | (simp [*, errW_none, errW_some] <;> rfl), by repeat (first | (with_reducible first | exact HB.out | apply below_alloc | apply pw_below_drewN | apply below_drew1 | refine below_set ?_ GE279.out | refine below_set ?_ GE280.out) | exact HB.out)⟩
                 · rw [if_neg c49] at H
                   have c49b0 : (!((((rd_T40 l0_7 x6_3).f0).toList) == (((rd_T40 l1_7 x6_3).f0).toList)) || (!((((rd_T40 l0_7 x6_3).f1).toList) == (((rd_T40 l1_7 x6_3).f1).toList)))) = false := by simpa using c49
                   clear c49
                   have H' := Aside0.mk H
                   clear H
                   refine ne2_ NB279_280 fun hnb53 hnc53 => ?_
                   refine blk9_ BK279.out fun hcz54_0 hcz54_1 hcz54_2 hcz54_3 hcz54_4 hcz54_5 hcz54_6 hcz54_7 hcz54_8 hfz54_0 hfz54_1 hfz54_2 hfz54_3 hfz54_4 hfz54_5 hfz54_6 hfz54_7 hfz54_8 => ?_
                   have p283 : 0 ≤ (x6_3 : Int) := of_decide_eq_true (by first | (with_reducible assumption) | assumption)
                   have q283 : x6_3 < (l0_7.length : Int) := of_decide_eq_true (by first | (with_reducible assumption) | assumption)
                   obtain ⟨ad283, e283, hx283_0, hx283_1⟩ := at_T40 HR0_7.out x6_3 p283 q283
                   cases e283
                   replace hx283_0 := (HB.out.cell (World.block_lt_of_cell? w _ hx283_0)).trans hx283_0
                   replace hx283_1 := (HB.out.cell (World.block_lt_of_cell? w _ hx283_1)).trans hx283_1
                   replace p283 := eq_true p283
                   replace q283 := eq_true q283
                   refine blk9_ BK280.out fun hcz55_0 hcz55_1 hcz55_2 hcz55_3 hcz55_4 hcz55_5 hcz55_6 hcz55_7 hcz55_8 hfz55_0 hfz55_1 hfz55_2 hfz55_3 hfz55_4 hfz55_5 hfz55_6 hfz55_7 hfz55_8 => ?_
                   have p284 : 0 ≤ (x6_3 : Int) := of_decide_eq_true (by first | (with_reducible assumption) | assumption)
                   have q284 : x6_3 < (l1_7.length : Int) := of_decide_eq_true (by first | (with_reducible assumption) | assumption)
                   obtain ⟨ad284, e284, hx284_0, hx284_1⟩ := at_T40 HR1_7.out x6_3 p284 q284
                   cases e284
                   replace hx284_0 := (HB.out.cell (World.block_lt_of_cell? w _ hx284_0)).trans hx284_0
                   replace hx284_1 := (HB.out.cell (World.block_lt_of_cell? w _ hx284_1)).trans hx284_1
                   replace p284 := eq_true p284
                   replace q284 := eq_true q284
                   go_wp2
                   repeat (go_quiet (fail); try go_wp2)
                   go_roundg k3
                   case measure => have := HJ2.out; have := HK2.out; have := HK3.out; omega
                   case rel => exact ⟨(wrap64 (x6_3 + 1)), sm_, H', ⟨by have := HJ2.out; have := HK2.out; have := HK3.out; omega⟩, ⟨by (with_reducible repeat (first | refine blk_drewN ?_ _ | refine blk_drew ?_ | refine blk_alloc ?_ _)); exact BK279.out⟩, ⟨by (with_reducible repeat (first | refine blk_drewN ?_ _ | refine blk_drew ?_ | refine blk_alloc ?_ _)); exact BK280.out⟩, ⟨by repeat (first | (with_reducible first | exact HB.out | apply below_alloc | apply pw_below_drewN | apply below_drew1 | refine below_set ?_ GE279.out | refine below_set ?_ GE280.out) | exact HB.out)⟩⟩
               · rw [if_neg c48] at H
                 exact absurd H (by simp)
             · rw [if_neg c47] at H
               exact absurd H (by simp)
           · rw [if_neg c46] at H
             have c46b0 : decide (x6_3 < (l0_7.length : Int)) = false := decide_eq_false c46
             clear c46
             obtain rfl := Option.some.inj H
             refine ne2_ NB279_280 fun hnb56 hnc56 => ?_
             refine blk9_ BK279.out fun hcz57_0 hcz57_1 hcz57_2 hcz57_3 hcz57_4 hcz57_5 hcz57_6 hcz57_7 hcz57_8 hfz57_0 hfz57_1 hfz57_2 hfz57_3 hfz57_4 hfz57_5 hfz57_6 hfz57_7 hfz57_8 => ?_
             go_wp2
             repeat (go_quiet (fail); try go_wp2)
             go_ret
             exact ⟨by first | rfl | (simp [errW_none, errW_some] <;> rfl) | (simp [*, errW_none, errW_some] <;> rfl), by repeat (first | (with_reducible first | exact HB.out | apply below_alloc | apply pw_below_drewN | apply below_drew1 | refine below_set ?_ GE279.out | refine below_set ?_ GE280.out) | exact HB.out)⟩
end Go.Proofs.Ytnjeeedndnfglaa.X
end
section
namespace Go.Proofs.Ytnjeeedndnfglaa.X
open Go.RowKit Go.Proofs.YtnjeeedndnfglaaW.PrintWords Go.Proofs.YtnjeeedndnfglaaW.PrintLast Go.Proofs.YtnjeeedndnfglaaW.PrintMore
attribute [local go_sem] max2_int min2_int max_two min_two max_three min_three max_four min_four   -- for this text's walks alone
set_option linter.unusedVariables false
set_option linter.unusedSimpArgs false
def command_Clone.f (a0_0 : Int) (a0_1 : Int) (a0_2 : Int) (a0_3 : Int) (a0_4 : Int) (a0_5 : Int) (l0_6 : List (S38)) (l0_7 : List (S40)) (a0_8 : Bool) : Option (Int × Int × Int × Int × Int × Int × (List (S38)) × (List (S40)) × Bool) := (some (([] : List (S38)) : List (S38))).bind fun y267 => (if y267.length + l0_6.length < 4398046511104 then ((some (([] : List (S40)) : List (S40))).bind fun y273 => (if y273.length + l0_7.length < 4398046511104 then (some (a0_0, a0_1, a0_2, a0_3, a0_4, a0_5, (y267 ++ l0_6), (y273 ++ l0_7), a0_8)) else (none))) else (none))
def command_Clone.T1 : Bool × List (List Nat × List Nat) := (true, [([], []), ([], []), ([1], [1]), ([0, 2], [0, 2]), ([], []), ([], []), ([5], [5]), ([4, 6, 3], [4, 6]), ([0, 1, 2, 3, 5, 6], []), ([8, 3, 7, 0, 1, 2, 3, 5, 6], [3, 8]), ([0, 1, 2, 3, 4, 5, 6, 7, 8, 9], []), ([10, 7, 9, 0, 1, 2, 3, 4, 5, 6, 7, 8, 9], [7, 10])])
def command_Clone.B1 : List Nat := [0, 0, 2, 7, 0, 0, 32, 127, 111, 511, 1023, 2047]
theorem command_Clone.tab1 : rtab .any (opsOf Try.f10 1) = command_Clone.T1 := by kernel_rfl
theorem command_Clone.bits1 : waitsOk command_Clone.T1.2 command_Clone.B1 = true := by kernel_rfl
set_option maxHeartbeats 40000000 in
set_option maxRecDepth 100000 in
theorem command_Clone.calls (a0_0 : Int) (a0_1 : Int) (a0_2 : Int) (a0_3 : Int) (a0_4 : Int) (a0_5 : Int) (A0_6 : Option Addr) (c0_6 : Nat) (l0_6 : List (S38)) (A0_7 : Option Addr) (c0_7 : Nat) (l0_7 : List (S40)) (a0_8 : Bool) (r1 : Int) (r2 : Int) (r3 : Int) (r4 : Int) (r5 : Int) (r6 : Int) (r7 : List (S38)) (r8 : List (S40)) (r9 : Bool) (w : World) (hr0_6 : Kd.C k38 w A0_6 l0_6.length l0_6) (hc0_6 : l0_6.length ≤ c0_6) (hr0_7 : Kd.C k40 w A0_7 l0_7.length l0_7) (hc0_7 : l0_7.length ≤ c0_7) (h : command_Clone.f a0_0 a0_1 a0_2 a0_3 a0_4 a0_5 l0_6 l0_7 a0_8 = some (r1, r2, r3, r4, r5, r6, r7, r8, r9)) :
 Calls Try.prog 10 #[.agg #[.int .i64 a0_0, .int .i64 a0_1, .int .i64 a0_2, .int .i64 a0_3, .int .i64 a0_4, .int .i64 a0_5, .slice A0_6 l0_6.length c0_6, .slice A0_7 l0_7.length c0_7, .bool a0_8]] w fun e w' => ∃ v6_ v7_ : Value, e = .returned (.agg #[.int .i64 r1, .int .i64 r2, .int .i64 r3, .int .i64 r4, .int .i64 r5, .int .i64 r6, v6_, v7_, .bool r9]) ∧ Kd.R k38 38 w' w.heap.size (fun _ => True) v6_ r7 ∧ Kd.R k40 40 w' w.heap.size (fun _ => True) v7_ r8 ∧ Below w.heap.size w w' := by
 have hu29 := Try.underlying29
 have HR0_6 := Aside0.mk hr0_6
 have HC0_6 := Aside0.mk hc0_6
 clear hr0_6 hc0_6
 have HR0_7 := Aside0.mk hr0_7
 have HC0_7 := Aside0.mk hc0_7
 clear hr0_7 hc0_7
 have HB := Aside0.mk (Below.refl w.heap.size w)
 have H : ((some (([] : List (S38)) : List (S38))).bind fun y267 => (if y267.length + l0_6.length < 4398046511104 then ((some (([] : List (S40)) : List (S40))).bind fun y273 => (if y273.length + l0_7.length < 4398046511104 then (some (a0_0, a0_1, a0_2, a0_3, a0_4, a0_5, (y267 ++ l0_6), (y273 ++ l0_7), a0_8)) else (none))) else (none))) = some (r1, r2, r3, r4, r5, r6, r7, r8, r9) := h
 clear h
 obtain ⟨y267, hy267⟩ : ∃ y_ : List (S38), y_ = (([] : List (S38))) := ⟨_, rfl⟩
 replace H : (if y267.length + l0_6.length < 4398046511104 then ((some (([] : List (S40)) : List (S40))).bind fun y273 => (if y273.length + l0_7.length < 4398046511104 then (some (a0_0, a0_1, a0_2, a0_3, a0_4, a0_5, (y267 ++ l0_6), (y273 ++ l0_7), a0_8)) else (none))) else (none)) = some (r1, r2, r3, r4, r5, r6, r7, r8, r9) := by first | (rw [hy267]; with_reducible exact H) | (have H2_ := (Option.bind_some _ _).symm.trans H; rw [hy267]; with_reducible exact H2_) | (have H2_ := (Option.bind_some _ _).symm.trans H; with_reducible exact H2_) | with_reducible exact H | (rw [hy267]; exact H) | exact H
 have Ny267 := Aside0.mk hy267
 clear hy267
 by_cases c2 : y267.length + l0_6.length < 4398046511104
 · rw [if_pos c2] at H
   have LMc2 := Aside0.mk c2
   clear c2
   obtain ⟨y270, hy270⟩ : ∃ y_ : List (S38), y_ = (y267 ++ l0_6) := ⟨_, rfl⟩
   replace H : ((some (([] : List (S40)) : List (S40))).bind fun y273 => (if y273.length + l0_7.length < 4398046511104 then (some (a0_0, a0_1, a0_2, a0_3, a0_4, a0_5, y270, (y273 ++ l0_7), a0_8)) else (none))) = some (r1, r2, r3, r4, r5, r6, r7, r8, r9) := by first | (rw [hy270]; with_reducible exact H) | (have H2_ := (Option.bind_some _ _).symm.trans H; rw [hy270]; with_reducible exact H2_) | (have H2_ := (Option.bind_some _ _).symm.trans H; with_reducible exact H2_) | with_reducible exact H | (rw [hy270]; exact H) | exact H
   have Ny270 := Aside0.mk hy270
   clear hy270
   obtain ⟨y273, hy273⟩ : ∃ y_ : List (S40), y_ = (([] : List (S40))) := ⟨_, rfl⟩
   replace H : (if y273.length + l0_7.length < 4398046511104 then (some (a0_0, a0_1, a0_2, a0_3, a0_4, a0_5, y270, (y273 ++ l0_7), a0_8)) else (none)) = some (r1, r2, r3, r4, r5, r6, r7, r8, r9) := by first | (rw [hy273]; with_reducible exact H) | (have H2_ := (Option.bind_some _ _).symm.trans H; rw [hy273]; with_reducible exact H2_) | (have H2_ := (Option.bind_some _ _).symm.trans H; with_reducible exact H2_) | with_reducible exact H | (rw [hy273]; exact H) | exact H
   have Ny273 := Aside0.mk hy273
   clear hy273
   by_cases c3 : y273.length + l0_7.length < 4398046511104
   · rw [if_pos c3] at H
     have LMc3 := Aside0.mk c3
     clear c3
     obtain ⟨y276, hy276⟩ : ∃ y_ : List (S40), y_ = (y273 ++ l0_7) := ⟨_, rfl⟩
     replace H : (some (a0_0, a0_1, a0_2, a0_3, a0_4, a0_5, y270, y276, a0_8)) = some (r1, r2, r3, r4, r5, r6, r7, r8, r9) := by first | (rw [hy276]; with_reducible exact H) | (have H2_ := (Option.bind_some _ _).symm.trans H; rw [hy276]; with_reducible exact H2_) | (have H2_ := (Option.bind_some _ _).symm.trans H; with_reducible exact H2_) | with_reducible exact H | (rw [hy276]; exact H) | exact H
     have Ny276 := Aside0.mk hy276
     clear hy276
     simp only [Option.some.injEq, Prod.mk.injEq] at H
     obtain ⟨rfl, rfl, rfl, rfl, rfl, rfl, rfl, rfl, rfl⟩ := H
     go_enter Try.func10, Try.ntmps10
     try go_wp2_with (first | ((with_reducible refine gate_dst (N := 1) rfl ?_); refine bx_ 1 29 #[.int .i64 a0_0, .int .i64 a0_1, .int .i64 a0_2, .int .i64 a0_3, .int .i64 a0_4, .int .i64 a0_5, .slice A0_6 l0_6.length c0_6, .slice A0_7 l0_7.length c0_7, .bool a0_8] ?_; intro gb265 hg w4 hbox hb; have BK265 := Aside0.mk hbox; have GE265 := ge_ HB hg; replace HB := hs_ HB hb; clear hb hbox hg) | ((with_reducible refine gate_dst (N := 2) rfl ?_); refine bx_ 2 29 #[.int .i64 0, .int .i64 0, .int .i64 0, .int .i64 0, .int .i64 0, .int .i64 0, .slice none 0 0, .slice none 0 0, .bool false] ?_; intro gb266 hg w5 hbox hb; have BK266 := Aside0.mk hbox; have GE266 := ge_ HB hg; have NB265_266 := na_ hg BK265; have NB266_265 := nb_ hg BK265; replace BK265 := bb_ BK265 hb; replace HB := hs_ HB hb; clear hb hbox hg))
     replace BK265 := Aside0.mk (blk_drew BK265.out)
     replace BK266 := Aside0.mk (blk_drew BK266.out)
     replace HB := Aside0.mk (below_drew1 HB.out)
     refine start_ (n := 12) (S := fun w' => w'.heap[gb265]? = some (.cells #[.int .i64 a0_0, .int .i64 a0_1, .int .i64 a0_2, .int .i64 a0_3, .int .i64 a0_4, .int .i64 a0_5, .slice A0_6 l0_6.length c0_6, .slice A0_7 l0_7.length c0_7, .bool a0_8] 29 (0, 0))) (ds := [9, 11]) #[false, false, false, false, false, false, false, false, false, false, false, false] (by kernel_rfl) rfl rfl BK265.out (fun hHeld => ?_); refine with_tabW command_Clone.tab1 command_Clone.bits1 (fun HT_ HW_ => ?_)
     generalize w5.drew = w6 at BK265 BK266 HB hHeld ⊢
     refine pu_ 1 (some 4) #[false, true, false, false, false, false, false, false, false, false, false, false] HT_ ?_
     refine pu_ 5 (some 8) #[false, true, false, false, false, true, false, false, false, false, false, false] HT_ ?_
     refine tk_ 2 (some 5) #[false, true, true, false, false, true, false, false, false, false, false, false] HT_ HW_ hHeld (hy := by
      rintro w' s0
      first | (refine blk_yield2 (T := 29) s0 ?_ ⟨_, Try.underlying29, rfl⟩ ?_; exact ⟨rfl, rfl⟩; kernel_rfl) | (refine blk9_ s0 fun _ _ _ _ _ _ _ _ _ _ _ _ _ _ _ _ _ _ => ?_; go_simp; with_reducible rfl)) (h := ?_)
     refine tk_ 6 (some 9) #[false, true, true, false, false, true, true, false, false, false, false, false] HT_ HW_ hHeld (hy := by
      rintro w' s0
      first | (refine blk_yield2 (T := 29) s0 ?_ ⟨_, Try.underlying29, rfl⟩ ?_; exact ⟨rfl, rfl⟩; kernel_rfl) | (refine blk9_ s0 fun _ _ _ _ _ _ _ _ _ _ _ _ _ _ _ _ _ _ => ?_; go_simp; with_reducible rfl)) (h := ?_)
     refine join_ (σ := Value × Value × Value) 4 #[true, true, true, true, true, true, true, false, true, false, false, false] (fun s_ => [(3, s_.1), (6, s_.2.1), (7, s_.2.2), (11, .pointer (some ⟨gb265, 6, none⟩))]) (fun s_ w' => (w'.heap[gb265]? = some (.cells #[.int .i64 a0_0, .int .i64 a0_1, .int .i64 a0_2, .int .i64 a0_3, .int .i64 a0_4, .int .i64 a0_5, .slice A0_6 l0_6.length c0_6, .slice A0_7 l0_7.length c0_7, .bool a0_8] 29 (0, 0))) ∧ (Kd.R k38 38 w' w.heap.size (fun _ => True) s_.2.1 y270) ∧ (Kd.R k40 40 w' w.heap.size (fun _ => True) s_.2.2 y273) ∧ (w'.heap[gb265]? = some (.cells #[.int .i64 a0_0, .int .i64 a0_1, .int .i64 a0_2, .int .i64 a0_3, .int .i64 a0_4, .int .i64 a0_5, .slice A0_6 l0_6.length c0_6, .slice A0_7 l0_7.length c0_7, .bool a0_8] 29 (0, 0))) ∧ (w'.heap[gb266]? = some (.cells #[.int .i64 0, .int .i64 0, .int .i64 0, .int .i64 0, .int .i64 0, .int .i64 0, .slice none 0 0, .slice none 0 0, .bool false] 29 (0, 0))) ∧ (Below w.heap.size w w')) ?_ ?_
     rotate_left
     · intro hCont
       refine two_ (i := 0) (j := 4) (Ni := some 3) (Nj := some 7) #[true, true, true, false, false, true, true, false, false, false, false, false] #[false, true, true, false, true, true, true, false, false, false, false, false] rfl rfl rfl rfl (two_of HT_.out (by kernel_rfl)) (by decide) (by decide) (fun K hK => ?_) (fun K hK => ?_)
       · skip
         refine Kd.R_lit_step k38 _ 38 ?hg (N := 3) ?hd (xs := ([] : List (S38))) (inner := []) (ok := fun _ => True) (okp := fun _ => True) ?hr ?hp (fun _ hk => hk) trivial (Below.refl _ _) (Nat.le_refl _) (by simp) ?_; (case hd => rfl); (case hg => rfl); (case hr => first | (go_simp; done) | (go_simp; rfl)); (case hp => exact (Reps.none _ _))
         intro v268 w7 ho8 hb hg_ hnew_
         clear hg_ hnew_
         (first | rw [← Ny267.out] at ho8 | (simp only [Int.reduceToNat] at ho8; rw [← Ny267.out] at ho8))
         have HO269 := Aside0.mk (Kd.R_lower ho8 (below_size lbt_))
         replace BK265 := bb_ BK265 hb
         replace BK266 := bb_ BK266 hb
         replace HB := hs_ HB hb
         clear hb ho8
         refine hK.out _ _ BK265.out (fun hHeld => ?_)
         clear hK K
         refine nr_ 3 ?_
         refine two_ (i := 3) (j := 4) (Ni := some 6) (Nj := some 7) #[true, true, true, true, false, true, true, false, false, false, false, false] #[true, true, true, false, true, true, true, false, false, false, false, false] rfl rfl rfl rfl (two_of HT_.out (by kernel_rfl)) (by decide) (by decide) (fun K hK => ?_) (fun K hK => ?_)
         · skip
           refine Kd.R_append_rows_step k38 (w0 := w) w.heap.size (by rfl) (.tmp 3) (.tmp 5) 26 38 (.agg #[(.string ⟨#[]⟩), (.int .i64 0), (.int .i64 0)]) 32 rfl Try.underlying26 info38 rfl (by decide) (by omega) v268 y267 l0_6 _ _ _ (fun _ => True) (fun _ => False) rfl rfl ?aO ?aR (fun _ _ h => h) (fun _ h => h.elim) ?aF ?aB ?aS ?aL ?_
           (case aR => repeat (first | exact (Kd.C_below HR0_6.out HB.out) | (with_reducible refine Kd.C_alloc ?_ _) | (with_reducible refine Kd.C_drewN ?_ _) | (with_reducible refine Kd.C_drew ?_)))
           (case aB => exact lbt_)
           (case aF => exact (fun _ _ => trivial))
           (case aO => exact (kr_ HO269.out))
           (case aS => exact (below_size lbt_))
           (case aL => have := LMc2.out; omega)
           intro v271 w9 ho hb hg hat
           rw [← Ny270.out] at ho
           have n0_ := Aside0.mk (blk_grown (kb_ BK265.out) hg (Kd.R_ne HO269.out BK265.out (by decide)))
           have n1_ := Aside0.mk (blk_grown (kb_ BK266.out) hg (Kd.R_ne HO269.out BK266.out (by decide)))
           have n2_ := Aside0.mk (hb)
           have n3_ := Aside0.mk (ho)
           clear BK265 BK266 HB HO269
           have BK265 := n0_; have BK266 := n1_; have HB := n2_; have HO272 := n3_
           clear n0_ n1_ n2_ n3_ ho hb hg hat
           refine hK.out _ _ BK265.out (fun hHeld => ?_)
           clear hK K
           refine nr_ 6 ?_
           refine pu_ 8 (some 11) #[true, true, true, true, false, true, true, false, true, false, false, false] HT_ ?_
           refine on_ 4 (some 7) #[true, true, true, true, true, true, true, false, true, false, false, false] HT_ fun K hK => ?_
           refine Kd.R_lit_step k40 _ 40 ?hg (N := 7) ?hd (xs := ([] : List (S40))) (inner := []) (ok := fun _ => True) (okp := fun _ => True) ?hr ?hp (fun _ hk => hk) trivial (Below.refl _ _) (Nat.le_refl _) (by simp) ?_; (case hd => rfl); (case hg => rfl); (case hr => first | (go_simp; done) | (go_simp; rfl)); (case hp => exact (Reps.none _ _))
           intro v274 w10 ho11 hb hg_ hnew_
           clear hg_ hnew_
           (first | rw [← Ny273.out] at ho11 | (simp only [Int.reduceToNat] at ho11; rw [← Ny273.out] at ho11))
           have HO275 := Aside0.mk (Kd.R_lower ho11 (below_size lbt_))
           replace HO272 := rb_ HO272 hb
           replace BK265 := bb_ BK265 hb
           replace BK266 := bb_ BK266 hb
           replace HB := hs_ HB hb
           clear hb ho11
           refine hK.out _ _ BK265.out (fun hHeld => ?_)
           clear hK K
           refine nr_ 7 ?_
           exact norm_ (by simp only [putAll, Act.put, List.setIfInBounds_toArray, List.set_cons_zero, List.set_cons_succ]) (hCont (v268, v271, v274) _ ⟨hHeld, (kr_ HO272.out), (kr_ HO275.out), (kb_ BK265.out), (kb_ BK266.out), lbt_⟩)
         · skip
           refine Kd.R_lit_step k40 _ 40 ?hg (N := 7) ?hd (xs := ([] : List (S40))) (inner := []) (ok := fun _ => True) (okp := fun _ => True) ?hr ?hp (fun _ hk => hk) trivial (Below.refl _ _) (Nat.le_refl _) (by simp) ?_; (case hd => rfl); (case hg => rfl); (case hr => first | (go_simp; done) | (go_simp; rfl)); (case hp => exact (Reps.none _ _))
           intro v274 w9 ho10 hb hg_ hnew_
           clear hg_ hnew_
           (first | rw [← Ny273.out] at ho10 | (simp only [Int.reduceToNat] at ho10; rw [← Ny273.out] at ho10))
           have HO275 := Aside0.mk (Kd.R_lower ho10 (below_size lbt_))
           replace HO269 := rb_ HO269 hb
           replace BK265 := bb_ BK265 hb
           replace BK266 := bb_ BK266 hb
           replace HB := hs_ HB hb
           clear hb ho10
           refine hK.out _ _ BK265.out (fun hHeld => ?_)
           clear hK K
           refine nr_ 7 ?_
           refine on_ 3 (some 6) (tf_ 7 5) HT_ fun K hK => ?_
           refine Kd.R_append_rows_step k38 (w0 := w) w.heap.size (by rfl) (.tmp 3) (.tmp 5) 26 38 (.agg #[(.string ⟨#[]⟩), (.int .i64 0), (.int .i64 0)]) 32 rfl Try.underlying26 info38 rfl (by decide) (by omega) v268 y267 l0_6 _ _ _ (fun _ => True) (fun _ => False) rfl rfl ?aO ?aR (fun _ _ h => h) (fun _ h => h.elim) ?aF ?aB ?aS ?aL ?_
           (case aR => repeat (first | exact (Kd.C_below HR0_6.out HB.out) | (with_reducible refine Kd.C_alloc ?_ _) | (with_reducible refine Kd.C_drewN ?_ _) | (with_reducible refine Kd.C_drew ?_)))
           (case aB => exact lbt_)
           (case aF => exact (fun _ _ => trivial))
           (case aO => exact (kr_ HO269.out))
           (case aS => exact (below_size lbt_))
           (case aL => have := LMc2.out; omega)
           intro v271 w11 ho hb hg hat
           rw [← Ny270.out] at ho
           have n0_ := Aside0.mk (blk_grown (kb_ BK265.out) hg (Kd.R_ne HO269.out BK265.out (by decide)))
           have n1_ := Aside0.mk (blk_grown (kb_ BK266.out) hg (Kd.R_ne HO269.out BK266.out (by decide)))
           have n2_ := Aside0.mk (Kd.R_over' (kr_ HO275.out) (Kd.R_typed (kr_ HO269.out)) (by decide) hg)
           have n3_ := Aside0.mk (hb)
           have n4_ := Aside0.mk (ho)
           clear BK265 BK266 HO275 HB HO269
           have BK265 := n0_; have BK266 := n1_; have HO275 := n2_; have HB := n3_; have HO272 := n4_
           clear n0_ n1_ n2_ n3_ n4_ ho hb hg hat
           refine hK.out _ _ BK265.out (fun hHeld => ?_)
           clear hK K
           refine nr_ 6 ?_
           refine pu_ 8 (some 11) #[true, true, true, true, true, true, true, false, true, false, false, false] HT_ ?_
           exact norm_ (by simp only [putAll, Act.put, List.setIfInBounds_toArray, List.set_cons_zero, List.set_cons_succ]) (hCont (v268, v271, v274) _ ⟨hHeld, (kr_ HO272.out), (kr_ HO275.out), (kb_ BK265.out), (kb_ BK266.out), lbt_⟩)
       · skip
         refine Kd.R_lit_step k40 _ 40 ?hg (N := 7) ?hd (xs := ([] : List (S40))) (inner := []) (ok := fun _ => True) (okp := fun _ => True) ?hr ?hp (fun _ hk => hk) trivial (Below.refl _ _) (Nat.le_refl _) (by simp) ?_; (case hd => rfl); (case hg => rfl); (case hr => first | (go_simp; done) | (go_simp; rfl)); (case hp => exact (Reps.none _ _))
         intro v274 w7 ho8 hb hg_ hnew_
         clear hg_ hnew_
         (first | rw [← Ny273.out] at ho8 | (simp only [Int.reduceToNat] at ho8; rw [← Ny273.out] at ho8))
         have HO275 := Aside0.mk (Kd.R_lower ho8 (below_size lbt_))
         replace BK265 := bb_ BK265 hb
         replace BK266 := bb_ BK266 hb
         replace HB := hs_ HB hb
         clear hb ho8
         refine hK.out _ _ BK265.out (fun hHeld => ?_)
         clear hK K
         refine nr_ 7 ?_
         refine on_ 0 (some 3) #[true, true, true, false, true, true, true, false, false, false, false, false] HT_ fun K hK => ?_
         refine Kd.R_lit_step k38 _ 38 ?hg (N := 3) ?hd (xs := ([] : List (S38))) (inner := []) (ok := fun _ => True) (okp := fun _ => True) ?hr ?hp (fun _ hk => hk) trivial (Below.refl _ _) (Nat.le_refl _) (by simp) ?_; (case hd => rfl); (case hg => rfl); (case hr => first | (go_simp; done) | (go_simp; rfl)); (case hp => exact (Reps.none _ _))
         intro v268 w9 ho10 hb hg_ hnew_
         clear hg_ hnew_
         (first | rw [← Ny267.out] at ho10 | (simp only [Int.reduceToNat] at ho10; rw [← Ny267.out] at ho10))
         have HO269 := Aside0.mk (Kd.R_lower ho10 (below_size lbt_))
         replace HO275 := rb_ HO275 hb
         replace BK265 := bb_ BK265 hb
         replace BK266 := bb_ BK266 hb
         replace HB := hs_ HB hb
         clear hb ho10
         refine hK.out _ _ BK265.out (fun hHeld => ?_)
         clear hK K
         refine nr_ 3 ?_
         refine on_ 3 (some 6) (tf_ 7 5) HT_ fun K hK => ?_
         refine Kd.R_append_rows_step k38 (w0 := w) w.heap.size (by rfl) (.tmp 3) (.tmp 5) 26 38 (.agg #[(.string ⟨#[]⟩), (.int .i64 0), (.int .i64 0)]) 32 rfl Try.underlying26 info38 rfl (by decide) (by omega) v268 y267 l0_6 _ _ _ (fun _ => True) (fun _ => False) rfl rfl ?aO ?aR (fun _ _ h => h) (fun _ h => h.elim) ?aF ?aB ?aS ?aL ?_
         (case aR => repeat (first | exact (Kd.C_below HR0_6.out HB.out) | (with_reducible refine Kd.C_alloc ?_ _) | (with_reducible refine Kd.C_drewN ?_ _) | (with_reducible refine Kd.C_drew ?_)))
         (case aB => exact lbt_)
         (case aF => exact (fun _ _ => trivial))
         (case aO => exact (kr_ HO269.out))
         (case aS => exact (below_size lbt_))
         (case aL => have := LMc2.out; omega)
         intro v271 w11 ho hb hg hat
         rw [← Ny270.out] at ho
         have n0_ := Aside0.mk (blk_grown (kb_ BK265.out) hg (Kd.R_ne HO269.out BK265.out (by decide)))
         have n1_ := Aside0.mk (blk_grown (kb_ BK266.out) hg (Kd.R_ne HO269.out BK266.out (by decide)))
         have n2_ := Aside0.mk (Kd.R_over' (kr_ HO275.out) (Kd.R_typed (kr_ HO269.out)) (by decide) hg)
         have n3_ := Aside0.mk (hb)
         have n4_ := Aside0.mk (ho)
         clear BK265 BK266 HO275 HB HO269
         have BK265 := n0_; have BK266 := n1_; have HO275 := n2_; have HB := n3_; have HO272 := n4_
         clear n0_ n1_ n2_ n3_ n4_ ho hb hg hat
         refine hK.out _ _ BK265.out (fun hHeld => ?_)
         clear hK K
         refine nr_ 6 ?_
         refine pu_ 8 (some 11) #[true, true, true, true, true, true, true, false, true, false, false, false] HT_ ?_
         exact norm_ (by simp only [putAll, Act.put, List.setIfInBounds_toArray, List.set_cons_zero, List.set_cons_succ]) (hCont (v268, v271, v274) _ ⟨hHeld, (kr_ HO272.out), (kr_ HO275.out), (kb_ BK265.out), (kb_ BK266.out), lbt_⟩)
     rintro ⟨v268, v271, v274⟩ w12 ⟨hS_, h0_, h1_, h2_, h3_, h4_⟩
     have n0_ : Aside0 (Kd.R k38 38 w12 w.heap.size (fun _ => True) v271 y270) := ⟨h0_⟩
     have n1_ : Aside0 (Kd.R k40 40 w12 w.heap.size (fun _ => True) v274 y273) := ⟨h1_⟩
     have n2_ : Aside0 (w12.heap[gb265]? = some (.cells #[.int .i64 a0_0, .int .i64 a0_1, .int .i64 a0_2, .int .i64 a0_3, .int .i64 a0_4, .int .i64 a0_5, .slice A0_6 l0_6.length c0_6, .slice A0_7 l0_7.length c0_7, .bool a0_8] 29 (0, 0))) := ⟨h2_⟩
     have n3_ : Aside0 (w12.heap[gb266]? = some (.cells #[.int .i64 0, .int .i64 0, .int .i64 0, .int .i64 0, .int .i64 0, .int .i64 0, .slice none 0 0, .slice none 0 0, .bool false] 29 (0, 0))) := ⟨h3_⟩
     have n4_ : Aside0 (Below w.heap.size w w12) := ⟨h4_⟩
     clear BK265 BK266 HB h0_ h1_ h2_ h3_ h4_
     have HO272 := n0_; have HO275 := n1_; have BK265 := n2_; have BK266 := n3_; have HB := n4_
     clear n0_ n1_ n2_ n3_ n4_
     have hHeld : w12.heap[gb265]? = some (.cells #[.int .i64 a0_0, .int .i64 a0_1, .int .i64 a0_2, .int .i64 a0_3, .int .i64 a0_4, .int .i64 a0_5, .slice A0_6 l0_6.length c0_6, .slice A0_7 l0_7.length c0_7, .bool a0_8] 29 (0, 0)) := hS_
     refine np_ ?_
     refine on_ 7 (some 10) (tf_ 9 3) HT_ fun K hK => ?_
     refine Kd.R_append_rows_step k40 (w0 := w) w.heap.size (by rfl) (.tmp 7) (.tmp 9) 27 40 (.agg #[(.string ⟨#[]⟩), (.string ⟨#[]⟩)]) 32 rfl Try.underlying27 info40 rfl (by decide) (by omega) v274 y273 l0_7 _ _ _ (fun _ => True) (fun _ => False) rfl rfl ?aO ?aR (fun _ _ h => h) (fun _ h => h.elim) ?aF ?aB ?aS ?aL ?_
     (case aR => repeat (first | exact (Kd.C_below HR0_7.out HB.out) | (with_reducible refine Kd.C_alloc ?_ _) | (with_reducible refine Kd.C_drewN ?_ _) | (with_reducible refine Kd.C_drew ?_)))
     (case aB => exact lbt_)
     (case aF => exact (fun _ _ => trivial))
     (case aO => exact (kr_ HO275.out))
     (case aS => exact (below_size lbt_))
     (case aL => have := LMc3.out; omega)
     intro v277 w13 ho hb hg hat
     rw [← Ny276.out] at ho
     have n0_ := Aside0.mk (blk_grown (kb_ BK265.out) hg (Kd.R_ne HO275.out BK265.out (by decide)))
     have n1_ := Aside0.mk (blk_grown (kb_ BK266.out) hg (Kd.R_ne HO275.out BK266.out (by decide)))
     have n2_ := Aside0.mk (Kd.R_over' (kr_ HO272.out) (Kd.R_typed (kr_ HO275.out)) (by decide) hg)
     have n3_ := Aside0.mk (hb)
     have n4_ := Aside0.mk (ho)
     clear BK265 BK266 HO272 HB HO275
     have BK265 := n0_; have BK266 := n1_; have HO272 := n2_; have HB := n3_; have HO278 := n4_
     clear n0_ n1_ n2_ n3_ n4_ ho hb hg hat
     obtain ⟨Ao14, co14, eo14⟩ := Kd.R_slice HO272.out
     (first | subst eo14 | (injection eo14 with f1_ f2_ f3_; have f4_ := f1_.symm; have f5_ := f3_.symm; clear f1_ f2_ f3_; subst f4_; subst f5_))
     obtain ⟨Ao16, co16, eo16⟩ := Kd.R_slice HO278.out
     (first | subst eo16 | (injection eo16 with f1_ f2_ f3_; have f4_ := f1_.symm; have f5_ := f3_.symm; clear f1_ f2_ f3_; subst f4_; subst f5_))
     refine hK.out _ _ BK265.out (fun hHeld => ?_)
     clear hK K
     refine nr_ 10 ?_
     refine last_ (i := 9) (N := none) (tf_ 10 2) rfl rfl (one_of HT_.out (by kernel_rfl)) (by decide) (fun K hK => ?_)
     have hs15 : w13.cell? ⟨gb265, 6, none⟩ = some (.slice A0_6 l0_6.length c0_6) := (blk_cell BK265.out 6).trans rfl
     have hfs15 := blk_frozen BK265.out 6
     have hns15_1 := NB266_265.out
     have hms15_1 := NB265_266.out
     refine skip_ (w1 := ?_) (by rfl) rfl ?_ ?_
     rotate_left
     · go_simp
       rfl
     refine hK.out _ _ ?_
     clear hK K
     refine pu_ 10 (some 12) (tf_ 11 1) HT_ ?_
     refine last_ (i := 11) (N := none) (tf_ 12 0) rfl rfl (one_of HT_.out (by kernel_rfl)) (by decide) (fun K hK => ?_)
     have hs17 : w13.cell? ⟨gb265, 7, none⟩ = some (.slice A0_7 l0_7.length c0_7) := (blk_cell BK265.out 7).trans rfl
     have hfs17 := blk_frozen BK265.out 7
     have hns17_1 := NB266_265.out
     have hms17_1 := NB265_266.out
     refine skip_ (w1 := ?_) (by rfl) rfl ?_ ?_
     rotate_left
     · go_simp
       rfl
     refine hK.out _ _ ?_
     clear hK K
     refine done_ (done_of HT_.out (by kernel_rfl)) ?_
     refine ne2_ NB265_266 fun hnb18 hnc18 => ?_
     refine blk9_ BK265.out fun hcz19_0 hcz19_1 hcz19_2 hcz19_3 hcz19_4 hcz19_5 hcz19_6 hcz19_7 hcz19_8 hfz19_0 hfz19_1 hfz19_2 hfz19_3 hfz19_4 hfz19_5 hfz19_6 hfz19_7 hfz19_8 => ?_
     refine blk9_ BK266.out fun hcz20_0 hcz20_1 hcz20_2 hcz20_3 hcz20_4 hcz20_5 hcz20_6 hcz20_7 hcz20_8 hfz20_0 hfz20_1 hfz20_2 hfz20_3 hfz20_4 hfz20_5 hfz20_6 hfz20_7 hfz20_8 => ?_
     try go_wp2_with (first | ((with_reducible refine gate_store (t := 29) (p := 2) rfl ?_); refine store_event (t := 29) (p := 2) (v := ?vo_w21) (w1 := (((((((((((w13.setCell ⟨gb265, 6, none⟩ (.slice Ao14 y270.length co14)).setCell ⟨gb265, 7, none⟩ (.slice Ao16 y276.length co16)).setCell ⟨gb266, 0, none⟩ (.int .i64 a0_0)).setCell ⟨gb266, 1, none⟩ (.int .i64 a0_1)).setCell ⟨gb266, 2, none⟩ (.int .i64 a0_2)).setCell ⟨gb266, 3, none⟩ (.int .i64 a0_3)).setCell ⟨gb266, 4, none⟩ (.int .i64 a0_4)).setCell ⟨gb266, 5, none⟩ (.int .i64 a0_5)).setCell ⟨gb266, 6, none⟩ (.slice Ao14 y270.length co14)).setCell ⟨gb266, 7, none⟩ (.slice Ao16 y276.length co16)).setCell ⟨gb266, 8, none⟩ (.bool a0_8))) ?hg ?ho ?hn ?hr ?_; (case ho => rfl); (case hg => rfl); (case hn => rfl); (case hr => first | (go_simp; done) | (go_simp; rfl)); intro w21 hw; have n0_ : Aside0 (Kd.R k38 38 w21 w.heap.size (fun _ => True) (.slice Ao14 y270.length co14) y270) := ⟨(by rw [hw]; exact (by (with_reducible repeat (first | apply Kd.R_alloc | apply Kd.R_drewN | apply Kd.R_drew)); exact Kd.R_mono (Kd.R_far (p := ⟨gb266, 8, none⟩) (Kd.R_far (p := ⟨gb266, 7, none⟩) (Kd.R_far (p := ⟨gb266, 6, none⟩) (Kd.R_far (p := ⟨gb266, 5, none⟩) (Kd.R_far (p := ⟨gb266, 4, none⟩) (Kd.R_far (p := ⟨gb266, 3, none⟩) (Kd.R_far (p := ⟨gb266, 2, none⟩) (Kd.R_far (p := ⟨gb266, 1, none⟩) (Kd.R_far (p := ⟨gb266, 0, none⟩) (Kd.R_far (p := ⟨gb265, 7, none⟩) (Kd.R_far (p := ⟨gb265, 6, none⟩) (Kd.R_types (Kd.R_types HO272.out BK265.out (by decide)) BK266.out (by decide)) (fun _ hk => hk.1.2) (.slice Ao14 y270.length co14)) (fun _ hk => hk.1.2) (.slice Ao16 y276.length co16)) (fun _ hk => hk.2) (.int .i64 a0_0)) (fun _ hk => hk.2) (.int .i64 a0_1)) (fun _ hk => hk.2) (.int .i64 a0_2)) (fun _ hk => hk.2) (.int .i64 a0_3)) (fun _ hk => hk.2) (.int .i64 a0_4)) (fun _ hk => hk.2) (.int .i64 a0_5)) (fun _ hk => hk.2) (.slice Ao14 y270.length co14)) (fun _ hk => hk.2) (.slice Ao16 y276.length co16)) (fun _ hk => hk.2) (.bool a0_8)) (fun _ hk => trivial)))⟩; have n1_ : Aside0 (Kd.R k40 40 w21 w.heap.size (fun _ => True) (.slice Ao16 y276.length co16) y276) := ⟨(by rw [hw]; exact (by (with_reducible repeat (first | apply Kd.R_alloc | apply Kd.R_drewN | apply Kd.R_drew)); exact Kd.R_mono (Kd.R_far (p := ⟨gb266, 8, none⟩) (Kd.R_far (p := ⟨gb266, 7, none⟩) (Kd.R_far (p := ⟨gb266, 6, none⟩) (Kd.R_far (p := ⟨gb266, 5, none⟩) (Kd.R_far (p := ⟨gb266, 4, none⟩) (Kd.R_far (p := ⟨gb266, 3, none⟩) (Kd.R_far (p := ⟨gb266, 2, none⟩) (Kd.R_far (p := ⟨gb266, 1, none⟩) (Kd.R_far (p := ⟨gb266, 0, none⟩) (Kd.R_far (p := ⟨gb265, 7, none⟩) (Kd.R_far (p := ⟨gb265, 6, none⟩) (Kd.R_types (Kd.R_types HO278.out BK265.out (by decide)) BK266.out (by decide)) (fun _ hk => hk.1.2) (.slice Ao14 y270.length co14)) (fun _ hk => hk.1.2) (.slice Ao16 y276.length co16)) (fun _ hk => hk.2) (.int .i64 a0_0)) (fun _ hk => hk.2) (.int .i64 a0_1)) (fun _ hk => hk.2) (.int .i64 a0_2)) (fun _ hk => hk.2) (.int .i64 a0_3)) (fun _ hk => hk.2) (.int .i64 a0_4)) (fun _ hk => hk.2) (.int .i64 a0_5)) (fun _ hk => hk.2) (.slice Ao14 y270.length co14)) (fun _ hk => hk.2) (.slice Ao16 y276.length co16)) (fun _ hk => hk.2) (.bool a0_8)) (fun _ hk => trivial)))⟩; have n2_ : Aside0 (w21.heap[gb265]? = some (.cells #[.int .i64 a0_0, .int .i64 a0_1, .int .i64 a0_2, .int .i64 a0_3, .int .i64 a0_4, .int .i64 a0_5, .slice Ao14 y270.length co14, .slice Ao16 y276.length co16, .bool a0_8] 29 (0, 0))) := ⟨(by rw [hw]; exact (by (with_reducible repeat (first | refine blk_drewN ?_ _ | refine blk_drew ?_ | refine blk_alloc ?_ _)); refine blk_far ?_ NB265_266.out _; (with_reducible repeat (first | refine blk_drewN ?_ _ | refine blk_drew ?_ | refine blk_alloc ?_ _)); refine blk_far ?_ NB265_266.out _; (with_reducible repeat (first | refine blk_drewN ?_ _ | refine blk_drew ?_ | refine blk_alloc ?_ _)); refine blk_far ?_ NB265_266.out _; (with_reducible repeat (first | refine blk_drewN ?_ _ | refine blk_drew ?_ | refine blk_alloc ?_ _)); refine blk_far ?_ NB265_266.out _; (with_reducible repeat (first | refine blk_drewN ?_ _ | refine blk_drew ?_ | refine blk_alloc ?_ _)); refine blk_far ?_ NB265_266.out _; (with_reducible repeat (first | refine blk_drewN ?_ _ | refine blk_drew ?_ | refine blk_alloc ?_ _)); refine blk_far ?_ NB265_266.out _; (with_reducible repeat (first | refine blk_drewN ?_ _ | refine blk_drew ?_ | refine blk_alloc ?_ _)); refine blk_far ?_ NB265_266.out _; (with_reducible repeat (first | refine blk_drewN ?_ _ | refine blk_drew ?_ | refine blk_alloc ?_ _)); refine blk_far ?_ NB265_266.out _; (with_reducible repeat (first | refine blk_drewN ?_ _ | refine blk_drew ?_ | refine blk_alloc ?_ _)); refine blk_far ?_ NB265_266.out _; (with_reducible repeat (first | refine blk_drewN ?_ _ | refine blk_drew ?_ | refine blk_alloc ?_ _)); refine blk_put (cs := #[.int .i64 a0_0, .int .i64 a0_1, .int .i64 a0_2, .int .i64 a0_3, .int .i64 a0_4, .int .i64 a0_5, .slice Ao14 y270.length co14, .slice A0_7 l0_7.length c0_7, .bool a0_8]) ?_ 7 _ rfl; (with_reducible repeat (first | refine blk_drewN ?_ _ | refine blk_drew ?_ | refine blk_alloc ?_ _)); refine blk_put (cs := #[.int .i64 a0_0, .int .i64 a0_1, .int .i64 a0_2, .int .i64 a0_3, .int .i64 a0_4, .int .i64 a0_5, .slice A0_6 l0_6.length c0_6, .slice A0_7 l0_7.length c0_7, .bool a0_8]) ?_ 6 _ rfl; (with_reducible repeat (first | refine blk_drewN ?_ _ | refine blk_drew ?_ | refine blk_alloc ?_ _)); exact BK265.out))⟩; have n3_ : Aside0 (w21.heap[gb266]? = some (.cells #[.int .i64 a0_0, .int .i64 a0_1, .int .i64 a0_2, .int .i64 a0_3, .int .i64 a0_4, .int .i64 a0_5, .slice Ao14 y270.length co14, .slice Ao16 y276.length co16, .bool a0_8] 29 (0, 0))) := ⟨(by rw [hw]; exact (by (with_reducible repeat (first | refine blk_drewN ?_ _ | refine blk_drew ?_ | refine blk_alloc ?_ _)); refine blk_put (cs := #[.int .i64 a0_0, .int .i64 a0_1, .int .i64 a0_2, .int .i64 a0_3, .int .i64 a0_4, .int .i64 a0_5, .slice Ao14 y270.length co14, .slice Ao16 y276.length co16, .bool false]) ?_ 8 _ rfl; (with_reducible repeat (first | refine blk_drewN ?_ _ | refine blk_drew ?_ | refine blk_alloc ?_ _)); refine blk_put (cs := #[.int .i64 a0_0, .int .i64 a0_1, .int .i64 a0_2, .int .i64 a0_3, .int .i64 a0_4, .int .i64 a0_5, .slice Ao14 y270.length co14, .slice none 0 0, .bool false]) ?_ 7 _ rfl; (with_reducible repeat (first | refine blk_drewN ?_ _ | refine blk_drew ?_ | refine blk_alloc ?_ _)); refine blk_put (cs := #[.int .i64 a0_0, .int .i64 a0_1, .int .i64 a0_2, .int .i64 a0_3, .int .i64 a0_4, .int .i64 a0_5, .slice none 0 0, .slice none 0 0, .bool false]) ?_ 6 _ rfl; (with_reducible repeat (first | refine blk_drewN ?_ _ | refine blk_drew ?_ | refine blk_alloc ?_ _)); refine blk_put (cs := #[.int .i64 a0_0, .int .i64 a0_1, .int .i64 a0_2, .int .i64 a0_3, .int .i64 a0_4, .int .i64 0, .slice none 0 0, .slice none 0 0, .bool false]) ?_ 5 _ rfl; (with_reducible repeat (first | refine blk_drewN ?_ _ | refine blk_drew ?_ | refine blk_alloc ?_ _)); refine blk_put (cs := #[.int .i64 a0_0, .int .i64 a0_1, .int .i64 a0_2, .int .i64 a0_3, .int .i64 0, .int .i64 0, .slice none 0 0, .slice none 0 0, .bool false]) ?_ 4 _ rfl; (with_reducible repeat (first | refine blk_drewN ?_ _ | refine blk_drew ?_ | refine blk_alloc ?_ _)); refine blk_put (cs := #[.int .i64 a0_0, .int .i64 a0_1, .int .i64 a0_2, .int .i64 0, .int .i64 0, .int .i64 0, .slice none 0 0, .slice none 0 0, .bool false]) ?_ 3 _ rfl; (with_reducible repeat (first | refine blk_drewN ?_ _ | refine blk_drew ?_ | refine blk_alloc ?_ _)); refine blk_put (cs := #[.int .i64 a0_0, .int .i64 a0_1, .int .i64 0, .int .i64 0, .int .i64 0, .int .i64 0, .slice none 0 0, .slice none 0 0, .bool false]) ?_ 2 _ rfl; (with_reducible repeat (first | refine blk_drewN ?_ _ | refine blk_drew ?_ | refine blk_alloc ?_ _)); refine blk_put (cs := #[.int .i64 a0_0, .int .i64 0, .int .i64 0, .int .i64 0, .int .i64 0, .int .i64 0, .slice none 0 0, .slice none 0 0, .bool false]) ?_ 1 _ rfl; (with_reducible repeat (first | refine blk_drewN ?_ _ | refine blk_drew ?_ | refine blk_alloc ?_ _)); refine blk_put (cs := #[.int .i64 0, .int .i64 0, .int .i64 0, .int .i64 0, .int .i64 0, .int .i64 0, .slice none 0 0, .slice none 0 0, .bool false]) ?_ 0 _ rfl; (with_reducible repeat (first | refine blk_drewN ?_ _ | refine blk_drew ?_ | refine blk_alloc ?_ _)); refine blk_far ?_ NB266_265.out _; (with_reducible repeat (first | refine blk_drewN ?_ _ | refine blk_drew ?_ | refine blk_alloc ?_ _)); refine blk_far ?_ NB266_265.out _; (with_reducible repeat (first | refine blk_drewN ?_ _ | refine blk_drew ?_ | refine blk_alloc ?_ _)); exact BK266.out))⟩; have n4_ : Aside0 (Below w.heap.size w w21) := ⟨(by rw [hw]; exact lbt_)⟩; clear hw HO272 HO278 BK265 BK266 HB; have HO272 := n0_; have HO278 := n1_; have BK265 := n2_; have BK266 := n3_; have HB := n4_; clear n0_ n1_ n2_ n3_ n4_))
     refine bodyPost_ret (results_cell_row rfl _ _ gb266 29 #[.int .i64 a0_0, .int .i64 a0_1, .int .i64 a0_2, .int .i64 a0_3, .int .i64 a0_4, .int .i64 a0_5, .slice Ao14 y270.length co14, .slice Ao16 y276.length co16, .bool a0_8] (0, 0) _ rfl (kb_ BK266.out) Try.underlying29 rfl (by kernel_rfl)) rfl ?_
     exact ⟨_, _, by first | rfl | (simp [errW_none, errW_some] <;> rfl) | (simp [*, errW_none, errW_some] <;> rfl), by (with_reducible repeat (first | apply Kd.R_alloc | apply Kd.R_drewN | apply Kd.R_drew)); exact HO272.out, by (with_reducible repeat (first | apply Kd.R_alloc | apply Kd.R_drewN | apply Kd.R_drew)); exact HO278.out, by repeat (first | (with_reducible first | exact HB.out | apply below_alloc | apply pw_below_drewN | apply below_drew1 | refine below_set ?_ GE265.out | refine below_set ?_ GE266.out) | exact HB.out)⟩
   · rw [if_neg c3] at H
     exact absurd H (by simp)
 · rw [if_neg c2] at H
   exact absurd H (by simp)
end Go.Proofs.Ytnjeeedndnfglaa.X
end
section
namespace Go.Proofs.Ytnjeeedndnfglaa.X
open Go.RowKit Go.Proofs.YtnjeeedndnfglaaW.PrintWords Go.Proofs.YtnjeeedndnfglaaW.PrintLast Go.Proofs.YtnjeeedndnfglaaW.PrintMore
attribute [local go_sem] max2_int min2_int max_two min_two max_three min_three max_four min_four   -- for this text's walks alone
set_option linter.unusedVariables false
set_option linter.unusedSimpArgs false
def command_Decided.f (k : Nat) (a0_0 : Int) (a0_1 : Int) (a0_2 : Int) (a0_3 : Int) (a0_4 : Int) (a0_5 : Int) (l0_6 : List (S38)) (l0_7 : List (S40)) (a0_8 : Bool) (a1 : Bool) : Option (Int × Int × Int × Int × Int × Int × (List (S38)) × (List (S40)) × Bool × Int) := (command_Right.f k a0_0 a0_1 a0_2 a0_3 a0_4 a0_5 l0_6 l0_7 a0_8).bind fun t287 => (if t287 = true then (if a0_0 = 1 then ((command_Clone.f a0_0 a0_1 a0_2 a0_3 a0_4 a0_5 l0_6 l0_7 a0_8).bind fun bt288 => (some (2, bt288.2.1, bt288.2.2.1, bt288.2.2.2.1, bt288.2.2.2.2.1, bt288.2.2.2.2.2.1, bt288.2.2.2.2.2.2.1, bt288.2.2.2.2.2.2.2.1, a1, 0))) else (some (0, 0, 0, 0, 0, 0, ([] : List (S38)), ([] : List (S40)), false, 1))) else (some (0, 0, 0, 0, 0, 0, ([] : List (S38)), ([] : List (S40)), false, 1)))
set_option maxHeartbeats 40000000 in
set_option maxRecDepth 100000 in
theorem command_Decided.calls (k : Nat) (a0_0 : Int) (a0_1 : Int) (a0_2 : Int) (a0_3 : Int) (a0_4 : Int) (a0_5 : Int) (A0_6 : Option Addr) (c0_6 : Nat) (l0_6 : List (S38)) (A0_7 : Option Addr) (c0_7 : Nat) (l0_7 : List (S40)) (a0_8 : Bool) (a1 : Bool) (r1 : Int) (r2 : Int) (r3 : Int) (r4 : Int) (r5 : Int) (r6 : Int) (r7 : List (S38)) (r8 : List (S40)) (r9 : Bool) (r10 : Int) (w : World) (hr0_6 : Kd.C k38 w A0_6 l0_6.length l0_6) (hc0_6 : l0_6.length ≤ c0_6) (hr0_7 : Kd.C k40 w A0_7 l0_7.length l0_7) (hc0_7 : l0_7.length ≤ c0_7) (h : command_Decided.f k a0_0 a0_1 a0_2 a0_3 a0_4 a0_5 l0_6 l0_7 a0_8 a1 = some (r1, r2, r3, r4, r5, r6, r7, r8, r9, r10)) :
 Calls Try.prog 12 #[.agg #[.int .i64 a0_0, .int .i64 a0_1, .int .i64 a0_2, .int .i64 a0_3, .int .i64 a0_4, .int .i64 a0_5, .slice A0_6 l0_6.length c0_6, .slice A0_7 l0_7.length c0_7, .bool a0_8], .bool a1] w fun e w' => ∃ v6_ v7_ : Value, e = .returned (.tuple #[.agg #[.int .i64 r1, .int .i64 r2, .int .i64 r3, .int .i64 r4, .int .i64 r5, .int .i64 r6, v6_, v7_, .bool r9], .int .i64 r10]) ∧ Kd.R k38 38 w' w.heap.size (fun _ => True) v6_ r7 ∧ Kd.R k40 40 w' w.heap.size (fun _ => True) v7_ r8 ∧ Below w.heap.size w w' := by
 have hu29 := Try.underlying29
 have HR0_6 := Aside0.mk hr0_6
 have HC0_6 := Aside0.mk hc0_6
 clear hr0_6 hc0_6
 have HR0_7 := Aside0.mk hr0_7
 have HC0_7 := Aside0.mk hc0_7
 clear hr0_7 hc0_7
 have HB := Aside0.mk (Below.refl w.heap.size w)
 have H : ((command_Right.f k a0_0 a0_1 a0_2 a0_3 a0_4 a0_5 l0_6 l0_7 a0_8).bind fun t287 => (if t287 = true then (if a0_0 = 1 then ((command_Clone.f a0_0 a0_1 a0_2 a0_3 a0_4 a0_5 l0_6 l0_7 a0_8).bind fun bt288 => (some (2, bt288.2.1, bt288.2.2.1, bt288.2.2.2.1, bt288.2.2.2.2.1, bt288.2.2.2.2.2.1, bt288.2.2.2.2.2.2.1, bt288.2.2.2.2.2.2.2.1, a1, 0))) else (some (0, 0, 0, 0, 0, 0, ([] : List (S38)), ([] : List (S40)), false, 1))) else (some (0, 0, 0, 0, 0, 0, ([] : List (S38)), ([] : List (S40)), false, 1)))) = some (r1, r2, r3, r4, r5, r6, r7, r8, r9, r10) := h
 clear h
 obtain ⟨t287, A3, H⟩ := bs_ H
 by_cases c4 : t287 = true
 · subst c4
   rw [if_pos rfl] at H
   by_cases c5 : a0_0 = 1
   · rw [if_pos c5] at H
     have c5b0 : (a0_0 == 1) = true := beq_iff_eq.mpr c5
     have c5b1 : (a0_0 != 1) = false := bne_eq_false_iff_eq.mpr c5
     clear c5
     replace H := Option.bind_eq_some_iff.mp H
     obtain ⟨⟨t288, t289, t290, t291, t292, t293, t294, t297, t300⟩, A60, H⟩ := H
     replace H : (some (2, t289, t290, t291, t292, t293, t294, t297, a1, 0)) = some (r1, r2, r3, r4, r5, r6, r7, r8, r9, r10) := H
     have A6 := Aside0.mk A60
     clear A60
     simp only [Option.some.injEq, Prod.mk.injEq] at H
     obtain ⟨rfl, rfl, rfl, rfl, rfl, rfl, rfl, rfl, rfl, rfl⟩ := H
     go_enter Try.func12, Try.ntmps12
     go_wp2_with (first | ((with_reducible refine gate_dst (N := 2) rfl ?_); refine bx_ 2 29 #[.int .i64 a0_0, .int .i64 a0_1, .int .i64 a0_2, .int .i64 a0_3, .int .i64 a0_4, .int .i64 a0_5, .slice A0_6 l0_6.length c0_6, .slice A0_7 l0_7.length c0_7, .bool a0_8] ?_; intro gb285 hg w7 hbox hb; have BK285 := Aside0.mk hbox; have GE285 := ge_ HB hg; replace HB := hs_ HB hb; clear hb hbox hg) | ((with_reducible refine gate_dst (N := 4) rfl ?_); refine bx_ 4 29 #[.int .i64 0, .int .i64 0, .int .i64 0, .int .i64 0, .int .i64 0, .int .i64 0, .slice none 0 0, .slice none 0 0, .bool false] ?_; intro gb286 hg w8 hbox hb; have BK286 := Aside0.mk hbox; have GE286 := ge_ HB hg; have NB285_286 := na_ hg BK285; have NB286_285 := nb_ hg BK285; replace BK285 := bb_ BK285 hb; replace HB := hs_ HB hb; clear hb hbox hg) | ((with_reducible refine gate_dst (N := 7) rfl ?_); (try (refine gate_guard (by rfl) ?_; dsimp only)); refine bl_ 7 BK285.out ⟨_, Try.underlying29, rfl⟩ ?_) | ((with_reducible refine gate_callee (f := 14) rfl ?_); refine gl_ (some 8) Try.func14 #[.agg #[.int .i64 a0_0, .int .i64 a0_1, .int .i64 a0_2, .int .i64 a0_3, .int .i64 a0_4, .int .i64 a0_5, .slice A0_6 l0_6.length c0_6, .slice A0_7 l0_7.length c0_7, .bool a0_8]] ?_; (with_reducible refine (command_Right.calls k a0_0 a0_1 a0_2 a0_3 a0_4 a0_5 _ _ l0_6 _ _ l0_7 a0_8 true _ ?side1 ?side2 ?side3 ?side4 A3.out).mono ?_); (case side1 => exact kc_ (Kd.C_below HR0_6.out HB.out)); (case side2 => exact HC0_6.out); (case side3 => exact kc_ (Kd.C_below HR0_7.out HB.out)); (case side4 => exact HC0_7.out); rintro e w10 ⟨rfl, hb⟩; refine ⟨_, rfl, ?_⟩; replace BK285 := bb_ BK285 hb; replace BK286 := bb_ BK286 hb; replace HB := hs_ HB hb; (try clear hb); (try clear hk); refine ne2_ NB285_286 fun hnb11 hnc11 => ?_; refine blk9_ BK285.out fun hcz12_0 hcz12_1 hcz12_2 hcz12_3 hcz12_4 hcz12_5 hcz12_6 hcz12_7 hcz12_8 hfz12_0 hfz12_1 hfz12_2 hfz12_3 hfz12_4 hfz12_5 hfz12_6 hfz12_7 hfz12_8 => ?_) | ((with_reducible refine gate_dst (N := 16) rfl ?_); (try (refine gate_guard (by rfl) ?_; dsimp only)); refine bl_ 16 BK285.out ⟨_, Try.underlying29, rfl⟩ ?_) | ((with_reducible refine gate_callee (f := 10) rfl ?_); refine gl_ (some 17) Try.func10 #[.agg #[.int .i64 a0_0, .int .i64 a0_1, .int .i64 a0_2, .int .i64 a0_3, .int .i64 a0_4, .int .i64 a0_5, .slice A0_6 l0_6.length c0_6, .slice A0_7 l0_7.length c0_7, .bool a0_8]] ?_; (with_reducible refine (command_Clone.calls a0_0 a0_1 a0_2 a0_3 a0_4 a0_5 _ _ l0_6 _ _ l0_7 a0_8 t288 t289 t290 t291 t292 t293 t294 t297 t300 _ ?side1 ?side2 ?side3 ?side4 A6.out).mono ?_); (case side1 => exact kc_ (Kd.C_below HR0_6.out HB.out)); (case side2 => exact HC0_6.out); (case side3 => exact kc_ (Kd.C_below HR0_7.out HB.out)); (case side4 => exact HC0_7.out); rintro e w14 ⟨v295, v298, rfl, ho0, ho1, hb⟩; refine ⟨_, rfl, ?_⟩; have HO296 := Aside0.mk (Kd.R_lower ho0 (below_size lbt_)); have HO299 := Aside0.mk (Kd.R_lower ho1 (below_size lbt_)); replace BK285 := bb_ BK285 hb; replace BK286 := bb_ BK286 hb; replace HB := hs_ HB hb; (try clear hb); (try clear hk); (try clear ho0); (try clear ho1); obtain ⟨Ao15, co15, eo15⟩ := Kd.R_slice HO296.out; subst eo15; obtain ⟨Ao16, co16, eo16⟩ := Kd.R_slice HO299.out; subst eo16) | ((with_reducible refine gate_dst (N := 6) rfl ?_); refine alloc_store_event ?hg1 (N := 6) ?hd1 ?hg2 ?hd2 ?ho2 (cs0 := #[.int .i64 0, .int .i64 0, .int .i64 0, .int .i64 0, .int .i64 0, .int .i64 0, .slice none 0 0, .slice none 0 0, .bool false]) (cs := #[.int .i64 t288, .int .i64 t289, .int .i64 t290, .int .i64 t291, .int .i64 t292, .int .i64 t293, .slice Ao15 t294.length co15, .slice Ao16 t297.length co16, .bool t300]) (t := 29) (x := ?xxw17) ?hr ?hp ?hx ?hs ?h1 ?ht ?_; (case hg1 => rfl); (case hd1 => rfl); (case hg2 => rfl); (case hd2 => rfl); (case ho2 => rfl); (case hr => first | (go_simp; done) | (go_simp; rfl)); (case hp => rfl); (case hx => rfl); (case hs => rfl); (case h1 => rfl); (case ht => kernel_rfl); intro gb301 hg w17 hbox hb; have BK301 := Aside0.mk hbox; have GE301 := ge_ HB hg; have NB285_301 := na_ hg BK285; have NB301_285 := nb_ hg BK285; have NB286_301 := na_ hg BK286; have NB301_286 := nb_ hg BK286; replace HO296 := rb_ HO296 hb; replace HO299 := rb_ HO299 hb; replace BK285 := bb_ BK285 hb; replace BK286 := bb_ BK286 hb; replace HB := hs_ HB hb; clear hb hbox hg; refine ne2_ NB301_285 fun hnb18 hnc18 => ?_; refine ne2_ NB301_286 fun hnb19 hnc19 => ?_; refine blk9_ BK301.out fun hcz20_0 hcz20_1 hcz20_2 hcz20_3 hcz20_4 hcz20_5 hcz20_6 hcz20_7 hcz20_8 hfz20_0 hfz20_1 hfz20_2 hfz20_3 hfz20_4 hfz20_5 hfz20_6 hfz20_7 hfz20_8 => ?_; refine blk9_ BK286.out fun hcz21_0 hcz21_1 hcz21_2 hcz21_3 hcz21_4 hcz21_5 hcz21_6 hcz21_7 hcz21_8 hfz21_0 hfz21_1 hfz21_2 hfz21_3 hfz21_4 hfz21_5 hfz21_6 hfz21_7 hfz21_8 => ?_) | ((with_reducible refine gate_store (t := 29) (p := 4) rfl ?_); refine store_event (t := 29) (p := 4) (v := ?vo_w22) (w1 := (((((((((((w17.setCell ⟨gb301, 0, none⟩ (.int .i64 2)).setCell ⟨gb301, 8, none⟩ (.bool a1)).setCell ⟨gb286, 0, none⟩ (.int .i64 2)).setCell ⟨gb286, 1, none⟩ (.int .i64 t289)).setCell ⟨gb286, 2, none⟩ (.int .i64 t290)).setCell ⟨gb286, 3, none⟩ (.int .i64 t291)).setCell ⟨gb286, 4, none⟩ (.int .i64 t292)).setCell ⟨gb286, 5, none⟩ (.int .i64 t293)).setCell ⟨gb286, 6, none⟩ (.slice Ao15 t294.length co15)).setCell ⟨gb286, 7, none⟩ (.slice Ao16 t297.length co16)).setCell ⟨gb286, 8, none⟩ (.bool a1))) ?hg ?ho ?hn ?hr ?_; (case ho => rfl); (case hg => rfl); (case hn => rfl); (case hr => first | (go_simp; done) | (go_simp; rfl)); intro w22 hw; have n0_ : Aside0 (Kd.R k38 38 w22 w.heap.size (fun _ => True) (.slice Ao15 t294.length co15) t294) := ⟨(by rw [hw]; exact (by (with_reducible repeat (first | apply Kd.R_alloc | apply Kd.R_drewN | apply Kd.R_drew)); exact Kd.R_mono (Kd.R_far (p := ⟨gb286, 8, none⟩) (Kd.R_far (p := ⟨gb286, 7, none⟩) (Kd.R_far (p := ⟨gb286, 6, none⟩) (Kd.R_far (p := ⟨gb286, 5, none⟩) (Kd.R_far (p := ⟨gb286, 4, none⟩) (Kd.R_far (p := ⟨gb286, 3, none⟩) (Kd.R_far (p := ⟨gb286, 2, none⟩) (Kd.R_far (p := ⟨gb286, 1, none⟩) (Kd.R_far (p := ⟨gb286, 0, none⟩) (Kd.R_far (p := ⟨gb301, 8, none⟩) (Kd.R_far (p := ⟨gb301, 0, none⟩) (Kd.R_types (Kd.R_types HO296.out BK301.out (by decide)) BK286.out (by decide)) (fun _ hk => hk.1.2) (.int .i64 2)) (fun _ hk => hk.1.2) (.bool a1)) (fun _ hk => hk.2) (.int .i64 2)) (fun _ hk => hk.2) (.int .i64 t289)) (fun _ hk => hk.2) (.int .i64 t290)) (fun _ hk => hk.2) (.int .i64 t291)) (fun _ hk => hk.2) (.int .i64 t292)) (fun _ hk => hk.2) (.int .i64 t293)) (fun _ hk => hk.2) (.slice Ao15 t294.length co15)) (fun _ hk => hk.2) (.slice Ao16 t297.length co16)) (fun _ hk => hk.2) (.bool a1)) (fun _ hk => trivial)))⟩; have n1_ : Aside0 (Kd.R k40 40 w22 w.heap.size (fun _ => True) (.slice Ao16 t297.length co16) t297) := ⟨(by rw [hw]; exact (by (with_reducible repeat (first | apply Kd.R_alloc | apply Kd.R_drewN | apply Kd.R_drew)); exact Kd.R_mono (Kd.R_far (p := ⟨gb286, 8, none⟩) (Kd.R_far (p := ⟨gb286, 7, none⟩) (Kd.R_far (p := ⟨gb286, 6, none⟩) (Kd.R_far (p := ⟨gb286, 5, none⟩) (Kd.R_far (p := ⟨gb286, 4, none⟩) (Kd.R_far (p := ⟨gb286, 3, none⟩) (Kd.R_far (p := ⟨gb286, 2, none⟩) (Kd.R_far (p := ⟨gb286, 1, none⟩) (Kd.R_far (p := ⟨gb286, 0, none⟩) (Kd.R_far (p := ⟨gb301, 8, none⟩) (Kd.R_far (p := ⟨gb301, 0, none⟩) (Kd.R_types (Kd.R_types HO299.out BK301.out (by decide)) BK286.out (by decide)) (fun _ hk => hk.1.2) (.int .i64 2)) (fun _ hk => hk.1.2) (.bool a1)) (fun _ hk => hk.2) (.int .i64 2)) (fun _ hk => hk.2) (.int .i64 t289)) (fun _ hk => hk.2) (.int .i64 t290)) (fun _ hk => hk.2) (.int .i64 t291)) (fun _ hk => hk.2) (.int .i64 t292)) (fun _ hk => hk.2) (.int .i64 t293)) (fun _ hk => hk.2) (.slice Ao15 t294.length co15)) (fun _ hk => hk.2) (.slice Ao16 t297.length co16)) (fun _ hk => hk.2) (.bool a1)) (fun _ hk => trivial)))⟩; have n2_ : Aside0 (w22.heap[gb285]? = some (.cells #[.int .i64 a0_0, .int .i64 a0_1, .int .i64 a0_2, .int .i64 a0_3, .int .i64 a0_4, .int .i64 a0_5, .slice A0_6 l0_6.length c0_6, .slice A0_7 l0_7.length c0_7, .bool a0_8] 29 (0, 0))) := ⟨(by rw [hw]; exact (by (with_reducible repeat (first | refine blk_drewN ?_ _ | refine blk_drew ?_ | refine blk_alloc ?_ _)); refine blk_far ?_ NB285_286.out _; (with_reducible repeat (first | refine blk_drewN ?_ _ | refine blk_drew ?_ | refine blk_alloc ?_ _)); refine blk_far ?_ NB285_286.out _; (with_reducible repeat (first | refine blk_drewN ?_ _ | refine blk_drew ?_ | refine blk_alloc ?_ _)); refine blk_far ?_ NB285_286.out _; (with_reducible repeat (first | refine blk_drewN ?_ _ | refine blk_drew ?_ | refine blk_alloc ?_ _)); refine blk_far ?_ NB285_286.out _; (with_reducible repeat (first | refine blk_drewN ?_ _ | refine blk_drew ?_ | refine blk_alloc ?_ _)); refine blk_far ?_ NB285_286.out _; (with_reducible repeat (first | refine blk_drewN ?_ _ | refine blk_drew ?_ | refine blk_alloc ?_ _)); refine blk_far ?_ NB285_286.out _; (with_reducible repeat (first | refine blk_drewN ?_ _ | refine blk_drew ?_ | refine blk_alloc ?_ _)); refine blk_far ?_ NB285_286.out _; (with_reducible repeat (first | refine blk_drewN ?_ _ | refine blk_drew ?_ | refine blk_alloc ?_ _)); refine blk_far ?_ NB285_286.out _; (with_reducible repeat (first | refine blk_drewN ?_ _ | refine blk_drew ?_ | refine blk_alloc ?_ _)); refine blk_far ?_ NB285_286.out _; (with_reducible repeat (first | refine blk_drewN ?_ _ | refine blk_drew ?_ | refine blk_alloc ?_ _)); refine blk_far ?_ NB285_301.out _; (with_reducible repeat (first | refine blk_drewN ?_ _ | refine blk_drew ?_ | refine blk_alloc ?_ _)); refine blk_far ?_ NB285_301.out _; (with_reducible repeat (first | refine blk_drewN ?_ _ | refine blk_drew ?_ | refine blk_alloc ?_ _)); exact BK285.out))⟩; have n3_ : Aside0 (w22.heap[gb286]? = some (.cells #[.int .i64 2, .int .i64 t289, .int .i64 t290, .int .i64 t291, .int .i64 t292, .int .i64 t293, .slice Ao15 t294.length co15, .slice Ao16 t297.length co16, .bool a1] 29 (0, 0))) := ⟨(by rw [hw]; exact (by (with_reducible repeat (first | refine blk_drewN ?_ _ | refine blk_drew ?_ | refine blk_alloc ?_ _)); refine blk_put (cs := #[.int .i64 2, .int .i64 t289, .int .i64 t290, .int .i64 t291, .int .i64 t292, .int .i64 t293, .slice Ao15 t294.length co15, .slice Ao16 t297.length co16, .bool false]) ?_ 8 _ rfl; (with_reducible repeat (first | refine blk_drewN ?_ _ | refine blk_drew ?_ | refine blk_alloc ?_ _)); refine blk_put (cs := #[.int .i64 2, .int .i64 t289, .int .i64 t290, .int .i64 t291, .int .i64 t292, .int .i64 t293, .slice Ao15 t294.length co15, .slice none 0 0, .bool false]) ?_ 7 _ rfl; (with_reducible repeat (first | refine blk_drewN ?_ _ | refine blk_drew ?_ | refine blk_alloc ?_ _)); refine blk_put (cs := #[.int .i64 2, .int .i64 t289, .int .i64 t290, .int .i64 t291, .int .i64 t292, .int .i64 t293, .slice none 0 0, .slice none 0 0, .bool false]) ?_ 6 _ rfl; (with_reducible repeat (first | refine blk_drewN ?_ _ | refine blk_drew ?_ | refine blk_alloc ?_ _)); refine blk_put (cs := #[.int .i64 2, .int .i64 t289, .int .i64 t290, .int .i64 t291, .int .i64 t292, .int .i64 0, .slice none 0 0, .slice none 0 0, .bool false]) ?_ 5 _ rfl; (with_reducible repeat (first | refine blk_drewN ?_ _ | refine blk_drew ?_ | refine blk_alloc ?_ _)); refine blk_put (cs := #[.int .i64 2, .int .i64 t289, .int .i64 t290, .int .i64 t291, .int .i64 0, .int .i64 0, .slice none 0 0, .slice none 0 0, .bool false]) ?_ 4 _ rfl; (with_reducible repeat (first | refine blk_drewN ?_ _ | refine blk_drew ?_ | refine blk_alloc ?_ _)); refine blk_put (cs := #[.int .i64 2, .int .i64 t289, .int .i64 t290, .int .i64 0, .int .i64 0, .int .i64 0, .slice none 0 0, .slice none 0 0, .bool false]) ?_ 3 _ rfl; (with_reducible repeat (first | refine blk_drewN ?_ _ | refine blk_drew ?_ | refine blk_alloc ?_ _)); refine blk_put (cs := #[.int .i64 2, .int .i64 t289, .int .i64 0, .int .i64 0, .int .i64 0, .int .i64 0, .slice none 0 0, .slice none 0 0, .bool false]) ?_ 2 _ rfl; (with_reducible repeat (first | refine blk_drewN ?_ _ | refine blk_drew ?_ | refine blk_alloc ?_ _)); refine blk_put (cs := #[.int .i64 2, .int .i64 0, .int .i64 0, .int .i64 0, .int .i64 0, .int .i64 0, .slice none 0 0, .slice none 0 0, .bool false]) ?_ 1 _ rfl; (with_reducible repeat (first | refine blk_drewN ?_ _ | refine blk_drew ?_ | refine blk_alloc ?_ _)); refine blk_put (cs := #[.int .i64 0, .int .i64 0, .int .i64 0, .int .i64 0, .int .i64 0, .int .i64 0, .slice none 0 0, .slice none 0 0, .bool false]) ?_ 0 _ rfl; (with_reducible repeat (first | refine blk_drewN ?_ _ | refine blk_drew ?_ | refine blk_alloc ?_ _)); refine blk_far ?_ NB286_301.out _; (with_reducible repeat (first | refine blk_drewN ?_ _ | refine blk_drew ?_ | refine blk_alloc ?_ _)); refine blk_far ?_ NB286_301.out _; (with_reducible repeat (first | refine blk_drewN ?_ _ | refine blk_drew ?_ | refine blk_alloc ?_ _)); exact BK286.out))⟩; have n4_ : Aside0 (w22.heap[gb301]? = some (.cells #[.int .i64 2, .int .i64 t289, .int .i64 t290, .int .i64 t291, .int .i64 t292, .int .i64 t293, .slice Ao15 t294.length co15, .slice Ao16 t297.length co16, .bool a1] 29 (0, 0))) := ⟨(by rw [hw]; exact (by (with_reducible repeat (first | refine blk_drewN ?_ _ | refine blk_drew ?_ | refine blk_alloc ?_ _)); refine blk_far ?_ NB301_286.out _; (with_reducible repeat (first | refine blk_drewN ?_ _ | refine blk_drew ?_ | refine blk_alloc ?_ _)); refine blk_far ?_ NB301_286.out _; (with_reducible repeat (first | refine blk_drewN ?_ _ | refine blk_drew ?_ | refine blk_alloc ?_ _)); refine blk_far ?_ NB301_286.out _; (with_reducible repeat (first | refine blk_drewN ?_ _ | refine blk_drew ?_ | refine blk_alloc ?_ _)); refine blk_far ?_ NB301_286.out _; (with_reducible repeat (first | refine blk_drewN ?_ _ | refine blk_drew ?_ | refine blk_alloc ?_ _)); refine blk_far ?_ NB301_286.out _; (with_reducible repeat (first | refine blk_drewN ?_ _ | refine blk_drew ?_ | refine blk_alloc ?_ _)); refine blk_far ?_ NB301_286.out _; (with_reducible repeat (first | refine blk_drewN ?_ _ | refine blk_drew ?_ | refine blk_alloc ?_ _)); refine blk_far ?_ NB301_286.out _; (with_reducible repeat (first | refine blk_drewN ?_ _ | refine blk_drew ?_ | refine blk_alloc ?_ _)); refine blk_far ?_ NB301_286.out _; (with_reducible repeat (first | refine blk_drewN ?_ _ | refine blk_drew ?_ | refine blk_alloc ?_ _)); refine blk_far ?_ NB301_286.out _; (with_reducible repeat (first | refine blk_drewN ?_ _ | refine blk_drew ?_ | refine blk_alloc ?_ _)); refine blk_put (cs := #[.int .i64 2, .int .i64 t289, .int .i64 t290, .int .i64 t291, .int .i64 t292, .int .i64 t293, .slice Ao15 t294.length co15, .slice Ao16 t297.length co16, .bool t300]) ?_ 8 _ rfl; (with_reducible repeat (first | refine blk_drewN ?_ _ | refine blk_drew ?_ | refine blk_alloc ?_ _)); refine blk_put (cs := #[.int .i64 t288, .int .i64 t289, .int .i64 t290, .int .i64 t291, .int .i64 t292, .int .i64 t293, .slice Ao15 t294.length co15, .slice Ao16 t297.length co16, .bool t300]) ?_ 0 _ rfl; (with_reducible repeat (first | refine blk_drewN ?_ _ | refine blk_drew ?_ | refine blk_alloc ?_ _)); exact BK301.out))⟩; have n5_ : Aside0 (Below w.heap.size w w22) := ⟨(by rw [hw]; exact lbt_)⟩; clear hw HO296 HO299 BK285 BK286 BK301 HB; have HO296 := n0_; have HO299 := n1_; have BK285 := n2_; have BK286 := n3_; have BK301 := n4_; have HB := n5_; clear n0_ n1_ n2_ n3_ n4_ n5_))
     refine bodyPost_ret (results_ct rfl _ _ gb286 29 #[.int .i64 2, .int .i64 t289, .int .i64 t290, .int .i64 t291, .int .i64 t292, .int .i64 t293, .slice Ao15 t294.length co15, .slice Ao16 t297.length co16, .bool a1] (0, 0) _ rfl (kb_ BK286.out) Try.underlying29 rfl (by kernel_rfl)) rfl ?_
     exact ⟨_, _, by first | rfl | (simp [errW_none, errW_some] <;> rfl) | (simp [*, errW_none, errW_some] <;> rfl), by (with_reducible repeat (first | apply Kd.R_alloc | apply Kd.R_drewN | apply Kd.R_drew)); exact HO296.out, by (with_reducible repeat (first | apply Kd.R_alloc | apply Kd.R_drewN | apply Kd.R_drew)); exact HO299.out, by repeat (first | (with_reducible first | exact HB.out | apply below_alloc | apply pw_below_drewN | apply below_drew1 | refine below_set ?_ GE285.out | refine below_set ?_ GE286.out | refine below_set ?_ GE301.out) | exact HB.out)⟩
   · rw [if_neg c5] at H
     have c5b0 : (a0_0 == 1) = false := beq_eq_false_iff_ne.mpr c5
     have c5b1 : (a0_0 != 1) = true := bne_iff_ne.mpr c5
     simp only [Option.some.injEq, Prod.mk.injEq] at H
     obtain ⟨rfl, rfl, rfl, rfl, rfl, rfl, rfl, rfl, rfl, rfl⟩ := H
     go_enter Try.func12, Try.ntmps12
     go_wp2_with (first | ((with_reducible refine gate_dst (N := 2) rfl ?_); refine bx_ 2 29 #[.int .i64 a0_0, .int .i64 a0_1, .int .i64 a0_2, .int .i64 a0_3, .int .i64 a0_4, .int .i64 a0_5, .slice A0_6 l0_6.length c0_6, .slice A0_7 l0_7.length c0_7, .bool a0_8] ?_; intro gb285 hg w23 hbox hb; have BK285 := Aside0.mk hbox; have GE285 := ge_ HB hg; replace HB := hs_ HB hb; clear hb hbox hg) | ((with_reducible refine gate_dst (N := 4) rfl ?_); refine bx_ 4 29 #[.int .i64 0, .int .i64 0, .int .i64 0, .int .i64 0, .int .i64 0, .int .i64 0, .slice none 0 0, .slice none 0 0, .bool false] ?_; intro gb286 hg w24 hbox hb; have BK286 := Aside0.mk hbox; have GE286 := ge_ HB hg; have NB285_286 := na_ hg BK285; have NB286_285 := nb_ hg BK285; replace BK285 := bb_ BK285 hb; replace HB := hs_ HB hb; clear hb hbox hg) | ((with_reducible refine gate_dst (N := 7) rfl ?_); (try (refine gate_guard (by rfl) ?_; dsimp only)); refine bl_ 7 BK285.out ⟨_, Try.underlying29, rfl⟩ ?_) | ((with_reducible refine gate_callee (f := 14) rfl ?_); refine gl_ (some 8) Try.func14 #[.agg #[.int .i64 a0_0, .int .i64 a0_1, .int .i64 a0_2, .int .i64 a0_3, .int .i64 a0_4, .int .i64 a0_5, .slice A0_6 l0_6.length c0_6, .slice A0_7 l0_7.length c0_7, .bool a0_8]] ?_; (with_reducible refine (command_Right.calls k a0_0 a0_1 a0_2 a0_3 a0_4 a0_5 _ _ l0_6 _ _ l0_7 a0_8 true _ ?side1 ?side2 ?side3 ?side4 A3.out).mono ?_); (case side1 => exact kc_ (Kd.C_below HR0_6.out HB.out)); (case side2 => exact HC0_6.out); (case side3 => exact kc_ (Kd.C_below HR0_7.out HB.out)); (case side4 => exact HC0_7.out); rintro e w26 ⟨rfl, hb⟩; refine ⟨_, rfl, ?_⟩; replace BK285 := bb_ BK285 hb; replace BK286 := bb_ BK286 hb; replace HB := hs_ HB hb; (try clear hb); refine ne2_ NB285_286 fun hnb27 hnc27 => ?_; refine blk9_ BK285.out fun hcz28_0 hcz28_1 hcz28_2 hcz28_3 hcz28_4 hcz28_5 hcz28_6 hcz28_7 hcz28_8 hfz28_0 hfz28_1 hfz28_2 hfz28_3 hfz28_4 hfz28_5 hfz28_6 hfz28_7 hfz28_8 => ?_; refine blk9_ BK286.out fun hcz29_0 hcz29_1 hcz29_2 hcz29_3 hcz29_4 hcz29_5 hcz29_6 hcz29_7 hcz29_8 hfz29_0 hfz29_1 hfz29_2 hfz29_3 hfz29_4 hfz29_5 hfz29_6 hfz29_7 hfz29_8 => ?_) | ((with_reducible refine gate_store (t := 29) (p := 4) rfl ?_); refine store_event (t := 29) (p := 4) (v := ?vo_w30) (w1 := (((((((((w26.setCell ⟨gb286, 0, none⟩ (.int .i64 0)).setCell ⟨gb286, 1, none⟩ (.int .i64 0)).setCell ⟨gb286, 2, none⟩ (.int .i64 0)).setCell ⟨gb286, 3, none⟩ (.int .i64 0)).setCell ⟨gb286, 4, none⟩ (.int .i64 0)).setCell ⟨gb286, 5, none⟩ (.int .i64 0)).setCell ⟨gb286, 6, none⟩ (.slice none 0 0)).setCell ⟨gb286, 7, none⟩ (.slice none 0 0)).setCell ⟨gb286, 8, none⟩ (.bool false))) ?hg ?ho ?hn ?hr ?_; (case ho => rfl); (case hg => rfl); (case hn => rfl); (case hr => first | (go_simp; done) | (go_simp; rfl)); intro w30 hw; have n0_ : Aside0 (w30.heap[gb285]? = some (.cells #[.int .i64 a0_0, .int .i64 a0_1, .int .i64 a0_2, .int .i64 a0_3, .int .i64 a0_4, .int .i64 a0_5, .slice A0_6 l0_6.length c0_6, .slice A0_7 l0_7.length c0_7, .bool a0_8] 29 (0, 0))) := ⟨(by rw [hw]; exact (by (with_reducible repeat (first | refine blk_drewN ?_ _ | refine blk_drew ?_ | refine blk_alloc ?_ _)); refine blk_far ?_ NB285_286.out _; (with_reducible repeat (first | refine blk_drewN ?_ _ | refine blk_drew ?_ | refine blk_alloc ?_ _)); refine blk_far ?_ NB285_286.out _; (with_reducible repeat (first | refine blk_drewN ?_ _ | refine blk_drew ?_ | refine blk_alloc ?_ _)); refine blk_far ?_ NB285_286.out _; (with_reducible repeat (first | refine blk_drewN ?_ _ | refine blk_drew ?_ | refine blk_alloc ?_ _)); refine blk_far ?_ NB285_286.out _; (with_reducible repeat (first | refine blk_drewN ?_ _ | refine blk_drew ?_ | refine blk_alloc ?_ _)); refine blk_far ?_ NB285_286.out _; (with_reducible repeat (first | refine blk_drewN ?_ _ | refine blk_drew ?_ | refine blk_alloc ?_ _)); refine blk_far ?_ NB285_286.out _; (with_reducible repeat (first | refine blk_drewN ?_ _ | refine blk_drew ?_ | refine blk_alloc ?_ _)); refine blk_far ?_ NB285_286.out _; (with_reducible repeat (first | refine blk_drewN ?_ _ | refine blk_drew ?_ | refine blk_alloc ?_ _)); refine blk_far ?_ NB285_286.out _; (with_reducible repeat (first | refine blk_drewN ?_ _ | refine blk_drew ?_ | refine blk_alloc ?_ _)); refine blk_far ?_ NB285_286.out _; (with_reducible repeat (first | refine blk_drewN ?_ _ | refine blk_drew ?_ | refine blk_alloc ?_ _)); exact BK285.out))⟩; have n1_ : Aside0 (w30.heap[gb286]? = some (.cells #[.int .i64 0, .int .i64 0, .int .i64 0, .int .i64 0, .int .i64 0, .int .i64 0, .slice none 0 0, .slice none 0 0, .bool false] 29 (0, 0))) := ⟨(by rw [hw]; exact (by (with_reducible repeat (first | refine blk_drewN ?_ _ | refine blk_drew ?_ | refine blk_alloc ?_ _)); refine blk_put (cs := #[.int .i64 0, .int .i64 0, .int .i64 0, .int .i64 0, .int .i64 0, .int .i64 0, .slice none 0 0, .slice none 0 0, .bool false]) ?_ 8 _ rfl; (with_reducible repeat (first | refine blk_drewN ?_ _ | refine blk_drew ?_ | refine blk_alloc ?_ _)); refine blk_put (cs := #[.int .i64 0, .int .i64 0, .int .i64 0, .int .i64 0, .int .i64 0, .int .i64 0, .slice none 0 0, .slice none 0 0, .bool false]) ?_ 7 _ rfl; (with_reducible repeat (first | refine blk_drewN ?_ _ | refine blk_drew ?_ | refine blk_alloc ?_ _)); refine blk_put (cs := #[.int .i64 0, .int .i64 0, .int .i64 0, .int .i64 0, .int .i64 0, .int .i64 0, .slice none 0 0, .slice none 0 0, .bool false]) ?_ 6 _ rfl; (with_reducible repeat (first | refine blk_drewN ?_ _ | refine blk_drew ?_ | refine blk_alloc ?_ _)); refine blk_put (cs := #[.int .i64 0, .int .i64 0, .int .i64 0, .int .i64 0, .int .i64 0, .int .i64 0, .slice none 0 0, .slice none 0 0, .bool false]) ?_ 5 _ rfl; (with_reducible repeat (first | refine blk_drewN ?_ _ | refine blk_drew ?_ | refine blk_alloc ?_ _)); refine blk_put (cs := #[.int .i64 0, .int .i64 0, .int .i64 0, .int .i64 0, .int .i64 0, .int .i64 0, .slice none 0 0, .slice none 0 0, .bool false]) ?_ 4 _ rfl; (with_reducible repeat (first | refine blk_drewN ?_ _ | refine blk_drew ?_ | refine blk_alloc ?_ _)); refine blk_put (cs := #[.int .i64 0, .int .i64 0, .int .i64 0, .int .i64 0, .int .i64 0, .int .i64 0, .slice none 0 0, .slice none 0 0, .bool false]) ?_ 3 _ rfl; (with_reducible repeat (first | refine blk_drewN ?_ _ | refine blk_drew ?_ | refine blk_alloc ?_ _)); refine blk_put (cs := #[.int .i64 0, .int .i64 0, .int .i64 0, .int .i64 0, .int .i64 0, .int .i64 0, .slice none 0 0, .slice none 0 0, .bool false]) ?_ 2 _ rfl; (with_reducible repeat (first | refine blk_drewN ?_ _ | refine blk_drew ?_ | refine blk_alloc ?_ _)); refine blk_put (cs := #[.int .i64 0, .int .i64 0, .int .i64 0, .int .i64 0, .int .i64 0, .int .i64 0, .slice none 0 0, .slice none 0 0, .bool false]) ?_ 1 _ rfl; (with_reducible repeat (first | refine blk_drewN ?_ _ | refine blk_drew ?_ | refine blk_alloc ?_ _)); refine blk_put (cs := #[.int .i64 0, .int .i64 0, .int .i64 0, .int .i64 0, .int .i64 0, .int .i64 0, .slice none 0 0, .slice none 0 0, .bool false]) ?_ 0 _ rfl; (with_reducible repeat (first | refine blk_drewN ?_ _ | refine blk_drew ?_ | refine blk_alloc ?_ _)); exact BK286.out))⟩; have n2_ : Aside0 (Below w.heap.size w w30) := ⟨(by rw [hw]; exact lbt_)⟩; clear hw BK285 BK286 HB; have BK285 := n0_; have BK286 := n1_; have HB := n2_; clear n0_ n1_ n2_))
     refine bodyPost_ret (results_ct rfl _ _ gb286 29 #[.int .i64 0, .int .i64 0, .int .i64 0, .int .i64 0, .int .i64 0, .int .i64 0, .slice none 0 0, .slice none 0 0, .bool false] (0, 0) _ rfl (kb_ BK286.out) Try.underlying29 rfl (by kernel_rfl)) rfl ?_
     exact ⟨_, _, by first | rfl | (simp [errW_none, errW_some] <;> rfl) | (simp [*, errW_none, errW_some] <;> rfl), by first | exact Kd.R_nil _ _ _ _ _ | exact Kd.N_nil _ _ _ _ _ | exact Kd.V_nil _ _ _ _ _ | exact Kd.Q_nil _ _ _ _ _ | exact Kd.S_nil _ _ _ _ _, by first | exact Kd.R_nil _ _ _ _ _ | exact Kd.N_nil _ _ _ _ _ | exact Kd.V_nil _ _ _ _ _ | exact Kd.Q_nil _ _ _ _ _ | exact Kd.S_nil _ _ _ _ _, by repeat (first | (with_reducible first | exact HB.out | apply below_alloc | apply pw_below_drewN | apply below_drew1 | refine below_set ?_ GE285.out | refine below_set ?_ GE286.out) | exact HB.out)⟩
 · replace c4 := Bool.eq_false_iff.mpr c4
   subst c4
   rw [if_neg (show ¬ (false = true) by decide)] at H
   simp only [Option.some.injEq, Prod.mk.injEq] at H
   obtain ⟨rfl, rfl, rfl, rfl, rfl, rfl, rfl, rfl, rfl, rfl⟩ := H
   go_enter Try.func12, Try.ntmps12
   go_wp2_with (first | ((with_reducible refine gate_dst (N := 2) rfl ?_); refine bx_ 2 29 #[.int .i64 a0_0, .int .i64 a0_1, .int .i64 a0_2, .int .i64 a0_3, .int .i64 a0_4, .int .i64 a0_5, .slice A0_6 l0_6.length c0_6, .slice A0_7 l0_7.length c0_7, .bool a0_8] ?_; intro gb285 hg w31 hbox hb; have BK285 := Aside0.mk hbox; have GE285 := ge_ HB hg; replace HB := hs_ HB hb; clear hb hbox hg) | ((with_reducible refine gate_dst (N := 4) rfl ?_); refine bx_ 4 29 #[.int .i64 0, .int .i64 0, .int .i64 0, .int .i64 0, .int .i64 0, .int .i64 0, .slice none 0 0, .slice none 0 0, .bool false] ?_; intro gb286 hg w32 hbox hb; have BK286 := Aside0.mk hbox; have GE286 := ge_ HB hg; have NB285_286 := na_ hg BK285; have NB286_285 := nb_ hg BK285; replace BK285 := bb_ BK285 hb; replace HB := hs_ HB hb; clear hb hbox hg) | ((with_reducible refine gate_dst (N := 7) rfl ?_); (try (refine gate_guard (by rfl) ?_; dsimp only)); refine bl_ 7 BK285.out ⟨_, Try.underlying29, rfl⟩ ?_) | ((with_reducible refine gate_callee (f := 14) rfl ?_); refine gl_ (some 8) Try.func14 #[.agg #[.int .i64 a0_0, .int .i64 a0_1, .int .i64 a0_2, .int .i64 a0_3, .int .i64 a0_4, .int .i64 a0_5, .slice A0_6 l0_6.length c0_6, .slice A0_7 l0_7.length c0_7, .bool a0_8]] ?_; (with_reducible refine (command_Right.calls k a0_0 a0_1 a0_2 a0_3 a0_4 a0_5 _ _ l0_6 _ _ l0_7 a0_8 false _ ?side1 ?side2 ?side3 ?side4 A3.out).mono ?_); (case side1 => exact kc_ (Kd.C_below HR0_6.out HB.out)); (case side2 => exact HC0_6.out); (case side3 => exact kc_ (Kd.C_below HR0_7.out HB.out)); (case side4 => exact HC0_7.out); rintro e w34 ⟨rfl, hb⟩; refine ⟨_, rfl, ?_⟩; replace BK285 := bb_ BK285 hb; replace BK286 := bb_ BK286 hb; replace HB := hs_ HB hb; (try clear hb); refine ne2_ NB286_285 fun hnb35 hnc35 => ?_; refine blk9_ BK286.out fun hcz36_0 hcz36_1 hcz36_2 hcz36_3 hcz36_4 hcz36_5 hcz36_6 hcz36_7 hcz36_8 hfz36_0 hfz36_1 hfz36_2 hfz36_3 hfz36_4 hfz36_5 hfz36_6 hfz36_7 hfz36_8 => ?_) | ((with_reducible refine gate_store (t := 29) (p := 4) rfl ?_); refine store_event (t := 29) (p := 4) (v := ?vo_w37) (w1 := (((((((((w34.setCell ⟨gb286, 0, none⟩ (.int .i64 0)).setCell ⟨gb286, 1, none⟩ (.int .i64 0)).setCell ⟨gb286, 2, none⟩ (.int .i64 0)).setCell ⟨gb286, 3, none⟩ (.int .i64 0)).setCell ⟨gb286, 4, none⟩ (.int .i64 0)).setCell ⟨gb286, 5, none⟩ (.int .i64 0)).setCell ⟨gb286, 6, none⟩ (.slice none 0 0)).setCell ⟨gb286, 7, none⟩ (.slice none 0 0)).setCell ⟨gb286, 8, none⟩ (.bool false))) ?hg ?ho ?hn ?hr ?_; (case ho => rfl); (case hg => rfl); (case hn => rfl); (case hr => first | (go_simp; done) | (go_simp; rfl)); intro w37 hw; have n0_ : Aside0 (w37.heap[gb285]? = some (.cells #[.int .i64 a0_0, .int .i64 a0_1, .int .i64 a0_2, .int .i64 a0_3, .int .i64 a0_4, .int .i64 a0_5, .slice A0_6 l0_6.length c0_6, .slice A0_7 l0_7.length c0_7, .bool a0_8] 29 (0, 0))) := ⟨(by rw [hw]; exact (by (with_reducible repeat (first | refine blk_drewN ?_ _ | refine blk_drew ?_ | refine blk_alloc ?_ _)); refine blk_far ?_ NB285_286.out _; (with_reducible repeat (first | refine blk_drewN ?_ _ | refine blk_drew ?_ | refine blk_alloc ?_ _)); refine blk_far ?_ NB285_286.out _; (with_reducible repeat (first | refine blk_drewN ?_ _ | refine blk_drew ?_ | refine blk_alloc ?_ _)); refine blk_far ?_ NB285_286.out _; (with_reducible repeat (first | refine blk_drewN ?_ _ | refine blk_drew ?_ | refine blk_alloc ?_ _)); refine blk_far ?_ NB285_286.out _; (with_reducible repeat (first | refine blk_drewN ?_ _ | refine blk_drew ?_ | refine blk_alloc ?_ _)); refine blk_far ?_ NB285_286.out _; (with_reducible repeat (first | refine blk_drewN ?_ _ | refine blk_drew ?_ | refine blk_alloc ?_ _)); refine blk_far ?_ NB285_286.out _; (with_reducible repeat (first | refine blk_drewN ?_ _ | refine blk_drew ?_ | refine blk_alloc ?_ _)); refine blk_far ?_ NB285_286.out _; (with_reducible repeat (first | refine blk_drewN ?_ _ | refine blk_drew ?_ | refine blk_alloc ?_ _)); refine blk_far ?_ NB285_286.out _; (with_reducible repeat (first | refine blk_drewN ?_ _ | refine blk_drew ?_ | refine blk_alloc ?_ _)); refine blk_far ?_ NB285_286.out _; (with_reducible repeat (first | refine blk_drewN ?_ _ | refine blk_drew ?_ | refine blk_alloc ?_ _)); exact BK285.out))⟩; have n1_ : Aside0 (w37.heap[gb286]? = some (.cells #[.int .i64 0, .int .i64 0, .int .i64 0, .int .i64 0, .int .i64 0, .int .i64 0, .slice none 0 0, .slice none 0 0, .bool false] 29 (0, 0))) := ⟨(by rw [hw]; exact (by (with_reducible repeat (first | refine blk_drewN ?_ _ | refine blk_drew ?_ | refine blk_alloc ?_ _)); refine blk_put (cs := #[.int .i64 0, .int .i64 0, .int .i64 0, .int .i64 0, .int .i64 0, .int .i64 0, .slice none 0 0, .slice none 0 0, .bool false]) ?_ 8 _ rfl; (with_reducible repeat (first | refine blk_drewN ?_ _ | refine blk_drew ?_ | refine blk_alloc ?_ _)); refine blk_put (cs := #[.int .i64 0, .int .i64 0, .int .i64 0, .int .i64 0, .int .i64 0, .int .i64 0, .slice none 0 0, .slice none 0 0, .bool false]) ?_ 7 _ rfl; (with_reducible repeat (first | refine blk_drewN ?_ _ | refine blk_drew ?_ | refine blk_alloc ?_ _)); refine blk_put (cs := #[.int .i64 0, .int .i64 0, .int .i64 0, .int .i64 0, .int .i64 0, .int .i64 0, .slice none 0 0, .slice none 0 0, .bool false]) ?_ 6 _ rfl; (with_reducible repeat (first | refine blk_drewN ?_ _ | refine blk_drew ?_ | refine blk_alloc ?_ _)); refine blk_put (cs := #[.int .i64 0, .int .i64 0, .int .i64 0, .int .i64 0, .int .i64 0, .int .i64 0, .slice none 0 0, .slice none 0 0, .bool false]) ?_ 5 _ rfl; (with_reducible repeat (first | refine blk_drewN ?_ _ | refine blk_drew ?_ | refine blk_alloc ?_ _)); refine blk_put (cs := #[.int .i64 0, .int .i64 0, .int .i64 0, .int .i64 0, .int .i64 0, .int .i64 0, .slice none 0 0, .slice none 0 0, .bool false]) ?_ 4 _ rfl; (with_reducible repeat (first | refine blk_drewN ?_ _ | refine blk_drew ?_ | refine blk_alloc ?_ _)); refine blk_put (cs := #[.int .i64 0, .int .i64 0, .int .i64 0, .int .i64 0, .int .i64 0, .int .i64 0, .slice none 0 0, .slice none 0 0, .bool false]) ?_ 3 _ rfl; (with_reducible repeat (first | refine blk_drewN ?_ _ | refine blk_drew ?_ | refine blk_alloc ?_ _)); refine blk_put (cs := #[.int .i64 0, .int .i64 0, .int .i64 0, .int .i64 0, .int .i64 0, .int .i64 0, .slice none 0 0, .slice none 0 0, .bool false]) ?_ 2 _ rfl; (with_reducible repeat (first | refine blk_drewN ?_ _ | refine blk_drew ?_ | refine blk_alloc ?_ _)); refine blk_put (cs := #[.int .i64 0, .int .i64 0, .int .i64 0, .int .i64 0, .int .i64 0, .int .i64 0, .slice none 0 0, .slice none 0 0, .bool false]) ?_ 1 _ rfl; (with_reducible repeat (first | refine blk_drewN ?_ _ | refine blk_drew ?_ | refine blk_alloc ?_ _)); refine blk_put (cs := #[.int .i64 0, .int .i64 0, .int .i64 0, .int .i64 0, .int .i64 0, .int .i64 0, .slice none 0 0, .slice none 0 0, .bool false]) ?_ 0 _ rfl; (with_reducible repeat (first | refine blk_drewN ?_ _ | refine blk_drew ?_ | refine blk_alloc ?_ _)); exact BK286.out))⟩; have n2_ : Aside0 (Below w.heap.size w w37) := ⟨(by rw [hw]; exact lbt_)⟩; clear hw BK285 BK286 HB; have BK285 := n0_; have BK286 := n1_; have HB := n2_; clear n0_ n1_ n2_))
   refine bodyPost_ret (results_ct rfl _ _ gb286 29 #[.int .i64 0, .int .i64 0, .int .i64 0, .int .i64 0, .int .i64 0, .int .i64 0, .slice none 0 0, .slice none 0 0, .bool false] (0, 0) _ rfl (kb_ BK286.out) Try.underlying29 rfl (by kernel_rfl)) rfl ?_
   exact ⟨_, _, by first | rfl | (simp [errW_none, errW_some] <;> rfl) | (simp [*, errW_none, errW_some] <;> rfl), by first | exact Kd.R_nil _ _ _ _ _ | exact Kd.N_nil _ _ _ _ _ | exact Kd.V_nil _ _ _ _ _ | exact Kd.Q_nil _ _ _ _ _ | exact Kd.S_nil _ _ _ _ _, by first | exact Kd.R_nil _ _ _ _ _ | exact Kd.N_nil _ _ _ _ _ | exact Kd.V_nil _ _ _ _ _ | exact Kd.Q_nil _ _ _ _ _ | exact Kd.S_nil _ _ _ _ _, by repeat (first | (with_reducible first | exact HB.out | apply below_alloc | apply pw_below_drewN | apply below_drew1 | refine below_set ?_ GE285.out | refine below_set ?_ GE286.out) | exact HB.out)⟩
end Go.Proofs.Ytnjeeedndnfglaa.X
end
section
namespace Go.Proofs.Ytnjeeedndnfglaa.Keys
open Go.RowKit
set_option linter.unusedSimpArgs false
set_option linter.unusedVariables false
theorem width_le (s : ByteArray) (pos : Nat) (h : pos < s.size) : pos + (Utf8.decode s pos).2 ≤ s.size := by
  rw [Lib.decode_at]
  have : (Lib.decodeN (s.size - pos) (s.get! pos).toNat (s.get! (pos + 1)).toNat (s.get! (pos + 2)).toNat (s.get! (pos + 3)).toNat).2 ≤ s.size - pos := by
    generalize (s.get! pos).toNat = b0
    generalize (s.get! (pos + 1)).toNat = b1
    generalize (s.get! (pos + 2)).toNat = b2
    generalize (s.get! (pos + 3)).toNat = b3
    unfold Lib.decodeN
    (repeat' split) <;> simp only <;> omega
  omega
def rns (s : ByteArray) : Nat → Nat → List Int
  | 0, _ => []
  | b + 1, pos => if pos < s.size then ((Utf8.decode s pos).1 : Int) :: rns s b (pos + (Utf8.decode s pos).2) else []
def runes (s : ByteArray) : List Int := rns s s.size 0
theorem rns_end (s : ByteArray) (b pos : Nat) (h : ¬ pos < s.size) : rns s b pos = [] := by cases b <;> simp [rns, h]
theorem rns_len (s : ByteArray) : ∀ b pos, (rns s b pos).length ≤ s.size - pos
  | 0, _ => by simp [rns]
  | b + 1, pos => by
    unfold rns
    split
    · have := rns_len s b (pos + (Utf8.decode s pos).2)
      have := Lib.width_pos s pos
      simp only [List.length_cons]; omega
    · simp
theorem rns_range (s : ByteArray) : ∀ b pos, ∀ x ∈ rns s b pos, 0 ≤ x ∧ x ≤ 1114111
  | 0, _ => by simp [rns]
  | b + 1, pos => by
    unfold rns
    split
    · intro x hx
      rcases List.mem_cons.1 hx with rfl | hx
      · have := Lib.rune_le s pos; omega
      · exact rns_range s b _ x hx
    · simp
theorem runes_len (s : ByteArray) : (runes s).length ≤ s.size := by have := rns_len s s.size 0; unfold runes; omega
theorem runes_at (s : ByteArray) (i : Nat) : 0 ≤ (runes s).getD i 0 ∧ (runes s).getD i 0 ≤ 1114111 := by
  by_cases h : i < (runes s).length
  · have e : (runes s).getD i 0 = (runes s)[i] := by simp [List.getD_eq_getElem?_getD, h]
    rw [e]
    exact rns_range s s.size 0 _ (List.getElem_mem h)
  · have e : (runes s).getD i 0 = 0 := by simp [List.getD_eq_getElem?_getD, Nat.le_of_not_lt h]
    rw [e]; omega
def wsum (l : List Int) : Nat → Int
  | 0 => 0
  | k + 1 => wsum l k + ((k : Int) + 1) * l.getD k 0
def weight (s : ByteArray) : Int := wsum (runes s) (runes s).length
theorem wterm (k : Nat) (c : Int) (hk : k < 2000) (hc : 0 ≤ c ∧ c ≤ 1114111) : 0 ≤ ((k : Int) + 1) * c ∧ ((k : Int) + 1) * c ≤ 2228222000 := by
  refine ⟨Int.mul_nonneg (by omega) hc.1, ?_⟩
  calc ((k : Int) + 1) * c ≤ 2000 * c := Int.mul_le_mul_of_nonneg_right (by omega) hc.1
    _ ≤ 2228222000 := by omega
theorem wsum_range (l : List Int) (hl : ∀ i, 0 ≤ l.getD i 0 ∧ l.getD i 0 ≤ 1114111) : ∀ k, k ≤ 2000 → 0 ≤ wsum l k ∧ wsum l k ≤ 2228222000 * (k : Int)
  | 0, _ => by simp [wsum]
  | k + 1, h => by
    have ih := wsum_range l hl k (by omega)
    have ht := wterm k (l.getD k 0) (by omega) (hl k)
    unfold wsum
    omega
theorem weight_range (s : ByteArray) (hs : s.size ≤ 2000) : 0 ≤ weight s ∧ weight s ≤ 4456444000000 := by
  have hl := runes_len s
  have := wsum_range (runes s) (runes_at s) (runes s).length (by omega)
  unfold weight
  omega
end Go.Proofs.Ytnjeeedndnfglaa.Keys
end
section
namespace Go.Proofs.Ytnjeeedndnfglaa.Keys
open Go.RowKit Go.Proofs.YtnjeeedndnfglaaW.PrintWords Go.Proofs.YtnjeeedndnfglaaW.PrintLast Go.Proofs.YtnjeeedndnfglaaW.PrintMore Go.Proofs.Ytnjeeedndnfglaa.X
set_option linter.unusedSimpArgs false
set_option linter.unusedVariables false
theorem own_iter {w : World} {B e size n : Nat} {v : Value} {xs : List Value} {k : Nat} {s : ByteArray} {pos : Nat} (h : w.ownsRow B e size v n xs) (hk : w.heap[k]? = some (.stringIter s pos)) (pos' : Nat) : (w.iterAt k s pos').ownsRow B e size v n xs := by
  refine ⟨h.1, ?_⟩
  rcases h.2 with h0 | ⟨g, cap, cur, hv, hb, hg, rest⟩
  · exact .inl h0
  · refine .inr ⟨g, cap, cur, hv, hb, ?_, rest⟩
    rw [Lib.iterAt_other _ _ _ _ _ (fun e => by subst e; rw [hk] at hg; cases hg)]
    exact hg
theorem own_low {w : World} {B B' e size n : Nat} {v : Value} {xs : List Value} (h : w.ownsRow B e size v n xs) (hB : B' ≤ B) : w.ownsRow B' e size v n xs := by
  refine ⟨h.1, ?_⟩
  rcases h.2 with h0 | ⟨g, cap, cur, hv, hb, rest⟩
  · exact .inl h0
  · exact .inr ⟨g, cap, cur, hv, by omega, rest⟩
theorem own_cellsI {w : World} {base : Nat} {e : TypeId} {v : Value} {xs : List Int} (k : IntKind) (h : w.ownsRow base e 1 v xs.length (xs.map (Value.int k))) :
    ∃ A c, v = .slice A xs.length c ∧ ∀ j, j < xs.length → ∃ ad : Addr, A = some ad ∧ w.cell? (ad.add j) = some (.int k (xs.getD j 0)) ∧ ad.block < w.heap.size ∧ (ad.add j).block = ad.block := by
  rcases h.2 with ⟨rfl, h0⟩ | ⟨g, cap, cur, rfl, hg, hh, hn, _, hc, ht⟩
  · exact ⟨none, 0, by rw [h0], fun j hj => by omega⟩
  · refine ⟨_, cap, rfl, fun j hj => ⟨_, rfl, ?_⟩⟩
    have hj2 : j < cur.toList.length := by rw [Array.length_toList]; omega
    have e1 : (cur.toList.take (xs.length * 1))[j]? = (xs.map (Value.int k))[j]? := by rw [ht]
    rw [List.getElem?_take, if_pos (by omega), List.getElem?_map] at e1
    have e2 : xs[j]? = some (xs.getD j 0) := by simp [List.getD_eq_getElem?_getD, hj]
    rw [e2] at e1
    have h3 : w.cell? ⟨g, j, none⟩ = some (.int k (xs.getD j 0)) := by simp [World.cell?, hh]; simpa using e1
    have ha : (⟨g, 0, none⟩ : Addr).add j = ⟨g, j, none⟩ := by unfold Addr.add; split <;> simp_all
    rw [ha]
    exact ⟨h3, World.block_lt_of_cell? w ⟨g, j, none⟩ h3, rfl⟩
set_option maxRecDepth 1000000 in
set_option maxHeartbeats 4000000 in
theorem runes_any (s : ByteArray) (hs : s.size ≤ 2000) (w : World) :
    Calls Try.prog 59 #[.string s] w fun e w' => ∃ v, e = .returned v ∧ w'.ownsRow w.heap.size 21 1 v (runes s).length ((runes s).map (Value.int .i32)) ∧ Below w.heap.size w w' := by
  have hi : (Try.prog.info? 21).map (fun i => (i.zero, i.size, i.bytes)) = some (some (.int .i32 0), 1, 4) := by kernel_rfl
  have HI := Lib.hid hi
  clear hi
  go_enter Try.func59, Try.ntmps59
  go_wp2
  go_loopw [3] (fun v wr => ∃ (pos b : Nat) (acc : List Int), wr.heap[w.heap.size]? = some (.stringIter s pos) ∧ pos ≤ s.size ∧ acc.length ≤ pos ∧ s.size ≤ pos + b ∧ Hid (acc ++ rns s b pos = runes s) ∧ Hid (wr.ownsRow (w.heap.size + 1) 21 1 v acc.length (acc.map (Value.int .i32))) ∧ Hid (Below w.heap.size w wr)) (fun _ wr => s.size - wr.iterPos w.heap.size)
  case atStart => exact ⟨0, s.size, [], World.iter_heap w s 0, by omega, by simp, by omega, Lib.hid rfl, Lib.hid (own_none _ _ _ _), Lib.hid ((Below.refl _ w).alloc (Nat.le_refl _) _)⟩
  case round =>
    obtain ⟨pos, b, acc, hit, hpos, hacc, hfu, HL, HO, HB⟩ := hrel
    by_cases hps : pos < s.size
    · obtain ⟨b, rfl⟩ : ∃ b', b = b' + 1 := ⟨b - 1, by omega⟩
      have hnx : ∀ ty, (Instr.next (.pointer (some ⟨w.heap.size, 0, none⟩)) true ty).run Try.prog wr = _ := fun ty => Lib.run_next_any_at wr w.heap.size s pos ty hit hps
      have hwd := Lib.width_pos s pos
      have hwl := width_le s pos hps
      have hL2 := HL.out
      rw [rns, if_pos hps] at hL2
      obtain ⟨R, hR⟩ : ∃ R, (Utf8.decode s pos).1 = R := ⟨_, rfl⟩
      obtain ⟨K, hK⟩ : ∃ K, (Utf8.decode s pos).2 = K := ⟨_, rfl⟩
      rw [hR, hK] at hnx hL2
      rw [hK] at hwd hwl
      have HL3 := Lib.hid hL2
      have hit2 := Lib.iterAt_heap wr w.heap.size s pos (pos + K) hit
      have hbw2 := Lib.below_iterAt HB.out (k := w.heap.size) (Nat.le_refl _) s (pos + K)
      have hown2 := own_iter HO.out hit (pos + K)
      have hip : wr.iterPos w.heap.size = pos := by simp [World.iterPos, hit]
      clear hL2 hR hK HL HO HB hit
      obtain ⟨W, hWd⟩ : ∃ W, wr.iterAt w.heap.size s (pos + K) = W := ⟨_, rfl⟩
      rw [hWd] at hnx hit2 hbw2 hown2
      have HB2 := Lib.hid hbw2
      have HO2 := Lib.hid hown2
      have hsz2 : w.heap.size + 1 ≤ W.heap.size := (Array.getElem?_eq_some_iff.1 hit2).1
      clear hbw2 hown2
      go_wp2_with (at_builtin; refine append_one (w0 := W) (w.heap.size + 1) rfl (.tmp 11) (.tmp 13) 76 21 (.int .i32 0) 1 4 rfl Try.underlying76 HI.out rfl (by decide) (by decide) _ _ _ [.int .i32 (R : Int)] rfl rfl rfl (by simp [Value.oneCell']) HO2.out (Below.refl _ _) hsz2 (by omega) ?_; intro v1 w2 hown3 hb3 hs2; have HO3 := Lib.hid hown3; have HB3 := Lib.hid hb3; clear hown3 hb3)
      go_roundw
      case rel => exact ⟨pos + K, b, acc ++ [(R : Int)], (HB3.out.block _ (by omega)).trans hit2, hwl, (by simp only [List.length_append, List.length_singleton]; omega), (by omega), Lib.hid (by rw [List.append_assoc]; exact HL3.out), Lib.hid (by simpa using HO3.out), Lib.hid (HB2.out.trans (HB3.out.mono (by omega)))⟩
      case measure =>
        have : w2.iterPos w.heap.size = pos + K := by rw [World.iterPos, (HB3.out.block _ (by omega)).trans hit2]
        rw [hip, this]; omega
    · have hnx : ∀ ty, (Instr.next (.pointer (some ⟨w.heap.size, 0, none⟩)) true ty).run Try.prog wr = _ := fun ty => Lib.run_next_end_at wr w.heap.size s pos ty hit hps
      have hL2 := HL.out
      rw [rns_end s b pos hps, List.append_nil] at hL2
      subst hL2
      go_wp2
      go_ret
      exact ⟨_, rfl, own_low HO.out (by omega), HB.out⟩
set_option maxRecDepth 1000000 in
set_option maxHeartbeats 4000000 in
theorem weight_any (s : ByteArray) (hs : s.size ≤ 2000) (x : Int) (hx : x = weight s) (w : World) :
    Calls Try.prog 52 #[.string s] w fun e w' => e = .returned (.int .i64 x) ∧ Below w.heap.size w w' := by
  have hl := runes_len s
  have HX := Lib.hid hx
  clear hx
  go_enter Try.func52, Try.ntmps52
  go_wp2_with (go_at_call 59; refine (runes_any s hs _).mono ?_; rintro e w2 ⟨v, rfl, hown, hb2⟩; obtain ⟨A, c, rfl, hcs⟩ := own_cellsI .i32 hown; have KC := Lib.hid hcs; have HB := Lib.hid hb2; clear hown hcs hb2)
  have HX2 : Hid (x = wsum (runes s) (runes s).length) := Lib.hid (by rw [HX.out]; rfl)
  have HR := Lib.hid (runes_at s)
  clear HX
  generalize runes s = l at hl KC HX2 HR
  obtain ⟨L, hL⟩ : ∃ L, l.length = L := ⟨_, rfl⟩
  rw [hL] at KC hl HX2
  rw [hL]
  clear hL
  go_loopw [3, 9] (fun n i wr => ∃ j : Nat, j ≤ L ∧ i = .int .i64 j ∧ n = .int .i64 (wsum l j) ∧ Hid (Below w2.heap.size w2 wr)) (fun _ i _ => L - (intOf i).toNat)
  case atStart => exact ⟨0, by omega, rfl, rfl, Lib.hid (Below.refl _ _)⟩
  case round =>
    obtain ⟨j, hj, rfl, rfl, hb⟩ := hrel
    by_cases hlt : j < L
    · obtain ⟨ad, rfl, hc1, hk1, ha1⟩ := KC.out j hlt
      have hcell : wr.cell? (ad.add j) = some (.int .i32 (l.getD j 0)) := by
        rw [hb.out.cell (p := ad.add j) (by rw [ha1]; exact hk1), hc1]
      have hr := HR.out j
      have hsum := wsum_range l HR.out j (by omega)
      have hterm := wterm j (l.getD j 0) (by omega) hr
      have hstep : wsum l (j + 1) = wsum l j + ((j : Int) + 1) * l.getD j 0 := rfl
      clear hc1 hk1 ha1
      generalize l.getD j 0 = z at hcell hr hterm hstep
      obtain ⟨y, hy⟩ : ∃ y : Int, y = ((j : Int) + 1) * z := ⟨_, rfl⟩
      rw [← hy] at hterm hstep
      have HY := Lib.hid hy
      have HST := Lib.hid hstep
      clear hy hstep
      go_wp2
      go_roundw
      case rel => exact ⟨j + 1, by omega, by go_num, by rw [HST.out]; simp only [go_sem, wrap64, IntKind.wrap_i64]; rw [← HY.out]; congr 1; omega, hb⟩
      case measure => simp [intOf]; omega
    · have e : j = L := by omega
      subst e
      go_wp2
      go_ret
      exact ⟨ret_int HX2.out.symm, HB.out.trans (hb.out.mono HB.out.size)⟩
def okKey (s : ByteArray) : Bool := decide (1 ≤ s.size ∧ s.size ≤ 8)
theorem right_is (s : ByteArray) (x : Bool) (hx : x = okKey s) (w : World) :
    Calls Try.prog 51 #[.string s] w fun e w' => e = .returned (.bool x) ∧ Below w.heap.size w w' := by
  refine (keys_Right.calls s x w ?_).mono fun e w' h => ⟨h.1, h.2.below⟩
  unfold keys_Right.f
  rw [hx]; unfold okKey
  split
  · rw [Option.some.injEq, decide_eq_decide]; omega
  · simp; omega
def shardN (s : ByteArray) (m : Int) : Int := if okKey s = true ∧ 1 ≤ m ∧ m ≤ 4 then weight s % m else 0
def shardE (s : ByteArray) (m : Int) : Int := if okKey s = true ∧ 1 ≤ m ∧ m ≤ 4 then 0 else 1
theorem ret_two {a b c d : Int} {k k' : IntKind} (h : a = b) (h' : c = d) : Ending.returned (.tuple #[.int k a, .int k' c]) = .returned (.tuple #[.int k b, .int k' d]) := by rw [h, h']
theorem ok_size {s : ByteArray} (h : okKey s = true) : s.size ≤ 2000 := by
  have := of_decide_eq_true h
  omega
set_option maxRecDepth 1000000 in
set_option maxHeartbeats 4000000 in
theorem shard_is (s : ByteArray) (m : Int) (n e : Int) (hn : n = shardN s m) (he : e = shardE s m) (w : World) :
    Calls Try.prog 35 #[.string s, .int .i64 m] w fun x w' => x = .returned (.tuple #[.int .i64 n, .int .i64 e]) ∧ Below w.heap.size w w' := by
  cases hk : okKey s with
  | false =>
    have hn0 : n = 0 := by rw [hn]; simp [shardN, hk]
    have he0 : e = 1 := by rw [he]; simp [shardE, hk]
    subst hn0 he0
    clear hn he
    go_enter Try.func35, Try.ntmps35
    go_wp2_with (go_at_call 51; refine (right_is s false hk.symm _).mono ?_; rintro e w1 ⟨rfl, hb⟩)
    go_ret2
    exact ⟨rfl, hb⟩
  | true =>
    have hs := ok_size hk
    by_cases h1 : m < 1
    · have hn0 : n = 0 := by rw [hn]; unfold shardN; rw [if_neg (by omega)]
      have he0 : e = 1 := by rw [he]; unfold shardE; rw [if_neg (by omega)]
      have d1 : decide (m < 1) = true := decide_eq_true h1
      subst hn0 he0
      clear hn he
      go_enter Try.func35, Try.ntmps35
      go_wp2_with (go_at_call 51; refine (right_is s true hk.symm _).mono ?_; rintro e w1 ⟨rfl, hb⟩)
      go_ret2
      exact ⟨rfl, hb⟩
    · have d1 : decide (m < 1) = false := decide_eq_false h1
      by_cases h4 : 4 < m
      · have hn0 : n = 0 := by rw [hn]; unfold shardN; rw [if_neg (by omega)]
        have he0 : e = 1 := by rw [he]; unfold shardE; rw [if_neg (by omega)]
        have d4 : decide (4 < m) = true := decide_eq_true h4
        subst hn0 he0
        clear hn he
        go_enter Try.func35, Try.ntmps35
        go_wp2_with (go_at_call 51; refine (right_is s true hk.symm _).mono ?_; rintro e w1 ⟨rfl, hb⟩)
        go_ret2
        exact ⟨rfl, hb⟩
      · have d4 : decide (4 < m) = false := decide_eq_false h4
        have hw := weight_range s hs
        obtain ⟨W, hW⟩ : ∃ W : Int, W = weight s := ⟨_, rfl⟩
        have hn0 : n = W % m := by rw [hn, hW]; unfold shardN; rw [if_pos ⟨hk, by omega, by omega⟩]
        have he0 : e = 0 := by rw [he]; unfold shardE; rw [if_pos ⟨hk, by omega, by omega⟩]
        rw [← hW] at hw
        have HW := Lib.hid hW
        have HN := Lib.hid hn0
        have hm0 : ¬ m = 0 := by omega
        subst he0
        clear hn he hn0 hW
        go_enter Try.func35, Try.ntmps35
        go_wp2_with (first | (go_at_call 51; refine (right_is s true hk.symm _).mono ?_; rintro e w1 ⟨rfl, hb⟩) | (go_at_call 52; refine (weight_any s hs W HW.out _).mono ?_; rintro e w2 ⟨rfl, hb2⟩))
        go_ret2
        exact ⟨ret_two HN.out.symm rfl, hb.trans (hb2.mono hb.size)⟩
end Go.Proofs.Ytnjeeedndnfglaa.Keys
end
section
namespace Go.Proofs.Ytnjeeedndnfglaa.X
open Go.RowKit Go.Proofs.Ytnjeeedndnfglaa.Keys Go.Proofs.YtnjeeedndnfglaaW.PrintWords Go.Proofs.YtnjeeedndnfglaaW.PrintLast Go.Proofs.YtnjeeedndnfglaaW.PrintMore
set_option linter.unusedVariables false
def keys_Runes.f (a0 : ByteArray) : Option (List Int) := if a0.size ≤ 2000 then some (runes a0) else none
theorem keys_Runes.calls (a0 : ByteArray) (r : List Int) (w : World) (h : keys_Runes.f a0 = some r) :
    Calls Try.prog 59 #[.string a0] w fun e w' => ∃ v0_ : Value, e = .returned (v0_) ∧ Kd.R (Kd.int .i32) 21 w' w.heap.size (fun _ => True) v0_ r ∧ Below w.heap.size w w' := by
  unfold keys_Runes.f at h
  by_cases hs : a0.size ≤ 2000
  · rw [if_pos hs] at h
    obtain rfl := Option.some.inj h
    refine (runes_any a0 hs w).mono ?_
    rintro e w' ⟨v, rfl, ho, hB⟩
    exact ⟨v, rfl, Kd.R_of_own ho (fun _ _ => trivial), hB⟩
  · rw [if_neg hs] at h; cases h
def keys_Weight.f (a0 : ByteArray) : Option Int := if a0.size ≤ 2000 then some (weight a0) else none
theorem keys_Weight.calls (a0 : ByteArray) (r : Int) (w : World) (h : keys_Weight.f a0 = some r) :
    Calls Try.prog 52 #[.string a0] w fun e w' => e = .returned (.int .i64 r) ∧ Below w.heap.size w w' := by
  unfold keys_Weight.f at h
  by_cases hs : a0.size ≤ 2000
  · rw [if_pos hs] at h
    exact weight_any a0 hs r (Option.some.inj h).symm w
  · rw [if_neg hs] at h; cases h
def keys_Shard.f (a0 : ByteArray) (a1 : Int) : Option (Int × Int) := some (shardN a0 a1, shardE a0 a1)
theorem keys_Shard.calls (a0 : ByteArray) (a1 : Int) (r1 : Int) (r2 : Int) (w : World) (h : keys_Shard.f a0 a1 = some (r1, r2)) :
    Calls Try.prog 35 #[.string a0, .int .i64 a1] w fun e w' => e = .returned (.tuple #[.int .i64 r1, .int .i64 r2]) ∧ Below w.heap.size w w' := by
  injection h with h; injection h with h1 h2
  exact shard_is a0 a1 r1 r2 h1.symm h2.symm w
end Go.Proofs.Ytnjeeedndnfglaa.X
end
section
namespace Go.Proofs.Ytnjeeedndnfglaa.X
open Go.RowKit Go.Proofs.Ytnjeeedndnfglaa.Keys Go.Proofs.YtnjeeedndnfglaaW.PrintWords Go.Proofs.YtnjeeedndnfglaaW.PrintLast Go.Proofs.YtnjeeedndnfglaaW.PrintMore
set_option linter.unusedVariables false
set_option linter.unusedSimpArgs false
def command_Part_1.f (a0 : ByteArray) (a1 : Int) (a2 : Int) : Option (Bool) := some (decide (shardE a0 a1 = 0) && decide (shardN a0 a1 = a2))
set_option maxHeartbeats 2000000 in
theorem command_Part_1.calls {g1 g2 : Nat} (a0 : ByteArray) (a1 : Int) (a2 : Int) (r : Bool) (w : World)
    (hg1 : CapC w g1 0 (.int .i64 a1)) (hg2 : CapC w g2 0 (.int .i64 a2)) (h : command_Part_1.f a0 a1 a2 = some r) :
    Calls Try.prog 34 #[.string a0, .pointer (some ⟨g1, 0, none⟩), .pointer (some ⟨g2, 0, none⟩)] w fun e w' => e = .returned (.bool r) ∧ Below w.heap.size w w' := by
  have H1 := Aside0.mk hg1
  have H2 := Aside0.mk hg2
  obtain rfl := Option.some.inj h
  have c1 : w.cell? ⟨g1, 0, none⟩ = some (.int .i64 a1) := hg1.cell
  have c2 : w.cell? ⟨g2, 0, none⟩ = some (.int .i64 a2) := hg2.cell
  have f1 := hg1.frozen
  have f2 := hg2.frozen
  clear h hg1 hg2
  go_enter Try.func34, Try.ntmps34
  go_wp2_with (go_at_call 35; refine (keys_Shard.calls a0 a1 (shardN a0 a1) (shardE a0 a1) _ rfl).mono ?_; rintro e w1 ⟨rfl, hb⟩; have c3 : w1.cell? ⟨g2, 0, none⟩ = some (.int .i64 a2) := (H2.out.below hb).cell; have f3 := (H2.out.below hb).frozen)
  all_goals (go_ret; refine ⟨?_, hb⟩; first | rfl | (simp [*]; done) | (simp [*]; rfl))
end Go.Proofs.Ytnjeeedndnfglaa.X
end
section
namespace Go.Proofs.Ytnjeeedndnfglaa.X
open Go.RowKit Go.Proofs.YtnjeeedndnfglaaW.PrintWords Go.Proofs.YtnjeeedndnfglaaW.PrintLast Go.Proofs.YtnjeeedndnfglaaW.PrintMore
attribute [local go_sem] max2_int min2_int max_two min_two max_three min_three max_four min_four   -- for this text's walks alone
set_option linter.unusedVariables false
set_option linter.unusedSimpArgs false
mutual
def command_Part.j0 : Nat → Bool → Int → Int → Int → Int → Int → Int → List (S38) → List (S40) → Bool → Int → Int → Option (Int × Int × Int × Int × Int × Int × (List (S38)) × (List (S40)) × Bool × Int)
 | 0, _, _, _, _, _, _, _, _, _, _, _, _ => none
 | k + 1, x29, x405000, x405001, x405002, x405003, x405004, x405005, x405006, x405007, x405008, x406000, x407000 => if x29 = true then (some (0, 0, 0, 0, 0, 0, ([] : List (S38)), ([] : List (S40)), false, 1)) else (command_Part.l0 k x405006 (x405006.length : Int) 0 x405000 x405001 x405002 x405003 x405004 x405005 x405006 x405007 x405008 x406000 x407000 x405000 x405001 x405002 x405003 x405004 x405005 ([] : List (S38)) x405008)
def command_Part.l0 : Nat → List (S38) → Int → Int → Int → Int → Int → Int → Int → Int → List (S38) → List (S40) → Bool → Int → Int → Int → Int → Int → Int → Int → Int → List (S38) → Bool → Option (Int × Int × Int × Int × Int × Int × (List (S38)) × (List (S40)) × Bool × Int)
 | 0, _, _, _, _, _, _, _, _, _, _, _, _, _, _, _, _, _, _, _, _, _, _ => none
 | k + 1, x36, x37, x38, x405000, x405001, x405002, x405003, x405004, x405005, x405006, x405007, x405008, x406000, x407000, x410000, x410001, x410002, x410003, x410004, x410005, x410006, x410008 => if x38 < x37 then (if 0 ≤ x38 then (if x38 < (x36.length : Int) then ((command_Part_1.f ((rd_T38 x36 x38).f0) x407000 x406000).bind fun t412 => (if t412 = true then (if x410006.length < 4398046511104 then (command_Part.l0 k x36 x37 (wrap64 (x38 + 1)) x405000 x405001 x405002 x405003 x405004 x405005 x405006 x405007 x405008 x406000 x407000 x410000 x410001 x410002 x410003 x410004 x410005 (x410006 ++ [(⟨(rd_T38 x36 x38).f0, (⟨(rd_T38 x36 x38).f1.f0, (rd_T38 x36 x38).f1.f1⟩ : S25)⟩ : S38)]) x410008) else (none)) else (command_Part.l0 k x36 x37 (wrap64 (x38 + 1)) x405000 x405001 x405002 x405003 x405004 x405005 x405006 x405007 x405008 x406000 x407000 x410000 x410001 x410002 x410003 x410004 x410005 x410006 x410008))) else (none)) else (none)) else (command_Part.l1 k x405007 (x405007.length : Int) 0 x406000 x407000 x410000 x410001 x410002 x410003 x410004 x410005 x410006 ([] : List (S40)) x410008)
def command_Part.l1 : Nat → List (S40) → Int → Int → Int → Int → Int → Int → Int → Int → Int → Int → List (S38) → List (S40) → Bool → Option (Int × Int × Int × Int × Int × Int × (List (S38)) × (List (S40)) × Bool × Int)
 | 0, _, _, _, _, _, _, _, _, _, _, _, _, _, _ => none
 | k + 1, x54, x55, x56, x406000, x407000, x410000, x410001, x410002, x410003, x410004, x410005, x410006, x410007, x410008 => if x56 < x55 then (if 0 ≤ x56 then (if x56 < (x54.length : Int) then ((command_Part_1.f ((rd_T40 x54 x56).f0) x407000 x406000).bind fun t418 => (if t418 = true then (if x410007.length < 4398046511104 then (command_Part.l1 k x54 x55 (wrap64 (x56 + 1)) x406000 x407000 x410000 x410001 x410002 x410003 x410004 x410005 x410006 (x410007 ++ [(⟨(rd_T40 x54 x56).f0, (rd_T40 x54 x56).f1⟩ : S40)]) x410008) else (none)) else (command_Part.l1 k x54 x55 (wrap64 (x56 + 1)) x406000 x407000 x410000 x410001 x410002 x410003 x410004 x410005 x410006 x410007 x410008))) else (none)) else (none)) else (if (wrap64 ((x410006.length : Int) + (x410007.length : Int))) = 0 then (some (0, 0, 0, 0, 0, 0, ([] : List (S38)), ([] : List (S40)), false, 10)) else (some (x410000, x410001, x410002, x410003, x410004, x410005, x410006, x410007, x410008, 0)))
end
def command_Part.f (k : Nat) (a0_0 : Int) (a0_1 : Int) (a0_2 : Int) (a0_3 : Int) (a0_4 : Int) (a0_5 : Int) (l0_6 : List (S38)) (l0_7 : List (S40)) (a0_8 : Bool) (a1 : Int) (a2 : Int) : Option (Int × Int × Int × Int × Int × Int × (List (S38)) × (List (S40)) × Bool × Int) := (command_Right.f k a0_0 a0_1 a0_2 a0_3 a0_4 a0_5 l0_6 l0_7 a0_8).bind fun t408 => (if t408 = true then (if a0_0 = 0 then (command_Part.j0 k true a0_0 a0_1 a0_2 a0_3 a0_4 a0_5 l0_6 l0_7 a0_8 a1 a2) else (if a2 < 1 then (command_Part.j0 k true a0_0 a0_1 a0_2 a0_3 a0_4 a0_5 l0_6 l0_7 a0_8 a1 a2) else (command_Part.j0 k (decide (a2 > 4)) a0_0 a0_1 a0_2 a0_3 a0_4 a0_5 l0_6 l0_7 a0_8 a1 a2))) else (command_Part.j0 k true a0_0 a0_1 a0_2 a0_3 a0_4 a0_5 l0_6 l0_7 a0_8 a1 a2))
set_option maxHeartbeats 40000000 in
set_option maxRecDepth 100000 in
theorem command_Part.calls (k : Nat) (a0_0 : Int) (a0_1 : Int) (a0_2 : Int) (a0_3 : Int) (a0_4 : Int) (a0_5 : Int) (A0_6 : Option Addr) (c0_6 : Nat) (l0_6 : List (S38)) (A0_7 : Option Addr) (c0_7 : Nat) (l0_7 : List (S40)) (a0_8 : Bool) (a1 : Int) (a2 : Int) (r1 : Int) (r2 : Int) (r3 : Int) (r4 : Int) (r5 : Int) (r6 : Int) (r7 : List (S38)) (r8 : List (S40)) (r9 : Bool) (r10 : Int) (w : World) (hr0_6 : Kd.C k38 w A0_6 l0_6.length l0_6) (hc0_6 : l0_6.length ≤ c0_6) (hr0_7 : Kd.C k40 w A0_7 l0_7.length l0_7) (hc0_7 : l0_7.length ≤ c0_7) (h : command_Part.f k a0_0 a0_1 a0_2 a0_3 a0_4 a0_5 l0_6 l0_7 a0_8 a1 a2 = some (r1, r2, r3, r4, r5, r6, r7, r8, r9, r10)) :
 Calls Try.prog 15 #[.agg #[.int .i64 a0_0, .int .i64 a0_1, .int .i64 a0_2, .int .i64 a0_3, .int .i64 a0_4, .int .i64 a0_5, .slice A0_6 l0_6.length c0_6, .slice A0_7 l0_7.length c0_7, .bool a0_8], .int .i64 a1, .int .i64 a2] w fun e w' => ∃ v6_ v7_ : Value, e = .returned (.tuple #[.agg #[.int .i64 r1, .int .i64 r2, .int .i64 r3, .int .i64 r4, .int .i64 r5, .int .i64 r6, v6_, v7_, .bool r9], .int .i64 r10]) ∧ Kd.R k38 38 w' w.heap.size (fun _ => True) v6_ r7 ∧ Kd.R k40 40 w' w.heap.size (fun _ => True) v7_ r8 ∧ Below w.heap.size w w' := by
 have hu29 := Try.underlying29
 have hu38 := Try.underlying38
 have hu40 := Try.underlying40
 have HR0_6 := Aside0.mk hr0_6
 have HC0_6 := Aside0.mk hc0_6
 clear hr0_6 hc0_6
 have HR0_7 := Aside0.mk hr0_7
 have HC0_7 := Aside0.mk hc0_7
 clear hr0_7 hc0_7
 have HB := Aside0.mk (Below.refl w.heap.size w)
 have H : ((command_Right.f k a0_0 a0_1 a0_2 a0_3 a0_4 a0_5 l0_6 l0_7 a0_8).bind fun t408 => (if t408 = true then (if a0_0 = 0 then (command_Part.j0 k true a0_0 a0_1 a0_2 a0_3 a0_4 a0_5 l0_6 l0_7 a0_8 a1 a2) else (if a2 < 1 then (command_Part.j0 k true a0_0 a0_1 a0_2 a0_3 a0_4 a0_5 l0_6 l0_7 a0_8 a1 a2) else (command_Part.j0 k (decide (a2 > 4)) a0_0 a0_1 a0_2 a0_3 a0_4 a0_5 l0_6 l0_7 a0_8 a1 a2))) else (command_Part.j0 k true a0_0 a0_1 a0_2 a0_3 a0_4 a0_5 l0_6 l0_7 a0_8 a1 a2))) = some (r1, r2, r3, r4, r5, r6, r7, r8, r9, r10) := h
 clear h
 have HC4 := Aside0.mk H
 clear H
 go_enter Try.func15, Try.ntmps15
 go_upto_region 1 with (first | ((with_reducible refine gate_dst (N := 3) rfl ?_); refine bx_ 3 29 #[.int .i64 a0_0, .int .i64 a0_1, .int .i64 a0_2, .int .i64 a0_3, .int .i64 a0_4, .int .i64 a0_5, .slice A0_6 l0_6.length c0_6, .slice A0_7 l0_7.length c0_7, .bool a0_8] ?_; intro gb404 hg w5 hbox hb; have BK404 := Aside0.mk hbox; have GE404 := ge_ HB hg; replace HB := hs_ HB hb; clear hb hbox hg) | ((with_reducible refine gate_dst (N := 4) rfl ?_); refine bx_ 4 3 #[.int .i64 a1] ?_; intro gb405 hg w6 hbox hb; have BK405 := Aside0.mk hbox; have GE405 := ge_ HB hg; have NB404_405 := na_ hg BK404; replace BK404 := bb_ BK404 hb; replace HB := hs_ HB hb; clear hb hbox hg) | ((with_reducible refine gate_dst (N := 5) rfl ?_); refine bx_ 5 3 #[.int .i64 a2] ?_; intro gb406 hg w7 hbox hb; have BK406 := Aside0.mk hbox; have GE406 := ge_ HB hg; have NB404_406 := na_ hg BK404; have NB406_405 := nb_ hg BK405; replace BK404 := bb_ BK404 hb; replace BK405 := bb_ BK405 hb; replace HB := hs_ HB hb; clear hb hbox hg) | ((with_reducible refine gate_dst (N := 6) rfl ?_); refine bx_ 6 29 #[.int .i64 0, .int .i64 0, .int .i64 0, .int .i64 0, .int .i64 0, .int .i64 0, .slice none 0 0, .slice none 0 0, .bool false] ?_; intro gb407 hg w8 hbox hb; have BK407 := Aside0.mk hbox; have GE407 := ge_ HB hg; have NB404_407 := na_ hg BK404; have NB407_404 := nb_ hg BK404; have NB405_407 := na_ hg BK405; have NB407_405 := nb_ hg BK405; have NB406_407 := na_ hg BK406; have NB407_406 := nb_ hg BK406; replace BK404 := bb_ BK404 hb; replace BK405 := bb_ BK405 hb; replace BK406 := bb_ BK406 hb; replace HB := hs_ HB hb; clear hb hbox hg))
 (try simp only [Act.put, List.setIfInBounds_toArray, List.set_cons_zero, List.set_cons_succ])
 go_cut [29] (fun v29 wc => ∃ (kq : Nat) (x29_3 : Bool), v29 = .bool x29_3 ∧ Aside0 (command_Part.j0 kq x29_3 a0_0 a0_1 a0_2 a0_3 a0_4 a0_5 l0_6 l0_7 a0_8 a1 a2 = some (r1, r2, r3, r4, r5, r6, r7, r8, r9, r10)) ∧ Aside0 (kq ≤ k) ∧ Aside0 (wc.heap[gb404]? = some (.cells #[.int .i64 a0_0, .int .i64 a0_1, .int .i64 a0_2, .int .i64 a0_3, .int .i64 a0_4, .int .i64 a0_5, (.slice A0_6 l0_6.length c0_6), (.slice A0_7 l0_7.length c0_7), .bool a0_8] 29 (0, 0))) ∧ Aside0 (wc.heap[gb405]? = some (.cells #[.int .i64 a1] 3 (0, 0))) ∧ Aside0 (wc.heap[gb406]? = some (.cells #[.int .i64 a2] 3 (0, 0))) ∧ Aside0 (wc.heap[gb407]? = some (.cells #[.int .i64 0, .int .i64 0, .int .i64 0, .int .i64 0, .int .i64 0, .int .i64 0, (.slice none 0 0), (.slice none 0 0), .bool false] 29 (0, 0))) ∧ Aside0 (Below w.heap.size w wc))
 case first =>
  have H := HC4.out
  clear HC4
  obtain ⟨t408, A9, H⟩ := bs_ H
  by_cases c10 : t408 = true
  · subst c10
    rw [if_pos rfl] at H
    by_cases c11 : a0_0 = 0
    · rw [if_pos c11] at H
      have c11b0 : (a0_0 == 0) = true := beq_iff_eq.mpr c11
      have c11b1 : (a0_0 != 0) = false := bne_eq_false_iff_eq.mpr c11
      clear c11
      (first | rw [c11b0] | (simp only [i64_w, i32_w]; rw [c11b0]) | skip)
      have H' := Aside0.mk H
      clear H
      go_wp2_with (first | ((with_reducible refine gate_dst (N := 14) rfl ?_); (try (refine gate_guard (by rfl) ?_; dsimp only)); refine bl_ 14 BK404.out ⟨_, Try.underlying29, rfl⟩ ?_) | ((with_reducible refine gate_callee (f := 14) rfl ?_); refine gl_ (some 15) Try.func14 #[.agg #[.int .i64 a0_0, .int .i64 a0_1, .int .i64 a0_2, .int .i64 a0_3, .int .i64 a0_4, .int .i64 a0_5, .slice A0_6 l0_6.length c0_6, .slice A0_7 l0_7.length c0_7, .bool a0_8]] ?_; (with_reducible refine (command_Right.calls k a0_0 a0_1 a0_2 a0_3 a0_4 a0_5 _ _ l0_6 _ _ l0_7 a0_8 true _ ?side1 ?side2 ?side3 ?side4 A9.out).mono ?_); (case side1 => exact kc_ (Kd.C_below HR0_6.out HB.out)); (case side2 => exact HC0_6.out); (case side3 => exact kc_ (Kd.C_below HR0_7.out HB.out)); (case side4 => exact HC0_7.out); rintro e w13 ⟨rfl, hb⟩; refine ⟨_, rfl, ?_⟩; replace BK404 := bb_ BK404 hb; replace BK405 := bb_ BK405 hb; replace BK406 := bb_ BK406 hb; replace BK407 := bb_ BK407 hb; replace HB := hs_ HB hb; (try clear hb); refine ne2_ NB404_405 fun hnb14 hnc14 => ?_; refine ne2_ NB404_406 fun hnb15 hnc15 => ?_; refine ne2_ NB404_407 fun hnb16 hnc16 => ?_; refine blk9_ BK404.out fun hcz17_0 hcz17_1 hcz17_2 hcz17_3 hcz17_4 hcz17_5 hcz17_6 hcz17_7 hcz17_8 hfz17_0 hfz17_1 hfz17_2 hfz17_3 hfz17_4 hfz17_5 hfz17_6 hfz17_7 hfz17_8 => ?_))
      go_meet
      case rel => exact ⟨_, (true), sm_, H', ⟨by first | omega | exact Nat.le_refl _⟩, ⟨by (with_reducible repeat (first | refine blk_drewN ?_ _ | refine blk_drew ?_ | refine blk_alloc ?_ _)); exact BK404.out⟩, ⟨by (with_reducible repeat (first | refine blk_drewN ?_ _ | refine blk_drew ?_ | refine blk_alloc ?_ _)); exact BK405.out⟩, ⟨by (with_reducible repeat (first | refine blk_drewN ?_ _ | refine blk_drew ?_ | refine blk_alloc ?_ _)); exact BK406.out⟩, ⟨by (with_reducible repeat (first | refine blk_drewN ?_ _ | refine blk_drew ?_ | refine blk_alloc ?_ _)); exact BK407.out⟩, ⟨by repeat (first | (with_reducible first | exact HB.out | apply below_alloc | apply pw_below_drewN | apply below_drew1 | refine below_set ?_ GE404.out | refine below_set ?_ GE405.out | refine below_set ?_ GE406.out | refine below_set ?_ GE407.out) | exact HB.out)⟩⟩
    · rw [if_neg c11] at H
      have c11b0 : (a0_0 == 0) = false := beq_eq_false_iff_ne.mpr c11
      have c11b1 : (a0_0 != 0) = true := bne_iff_ne.mpr c11
      (first | rw [c11b0] | (simp only [i64_w, i32_w]; rw [c11b0]) | skip)
      by_cases c18 : a2 < 1
      · rw [if_pos c18] at H
        have c18b0 : decide (a2 < 1) = true := decide_eq_true c18
        clear c18
        have H' := Aside0.mk H
        clear H
        go_wp2_with (first | ((with_reducible refine gate_dst (N := 14) rfl ?_); (try (refine gate_guard (by rfl) ?_; dsimp only)); refine bl_ 14 BK404.out ⟨_, Try.underlying29, rfl⟩ ?_) | ((with_reducible refine gate_callee (f := 14) rfl ?_); refine gl_ (some 15) Try.func14 #[.agg #[.int .i64 a0_0, .int .i64 a0_1, .int .i64 a0_2, .int .i64 a0_3, .int .i64 a0_4, .int .i64 a0_5, .slice A0_6 l0_6.length c0_6, .slice A0_7 l0_7.length c0_7, .bool a0_8]] ?_; (with_reducible refine (command_Right.calls k a0_0 a0_1 a0_2 a0_3 a0_4 a0_5 _ _ l0_6 _ _ l0_7 a0_8 true _ ?side1 ?side2 ?side3 ?side4 A9.out).mono ?_); (case side1 => exact kc_ (Kd.C_below HR0_6.out HB.out)); (case side2 => exact HC0_6.out); (case side3 => exact kc_ (Kd.C_below HR0_7.out HB.out)); (case side4 => exact HC0_7.out); rintro e w20 ⟨rfl, hb⟩; refine ⟨_, rfl, ?_⟩; replace BK404 := bb_ BK404 hb; replace BK405 := bb_ BK405 hb; replace BK406 := bb_ BK406 hb; replace BK407 := bb_ BK407 hb; replace HB := hs_ HB hb; (try clear hb); refine ne2_ NB404_405 fun hnb21 hnc21 => ?_; refine ne2_ NB404_406 fun hnb22 hnc22 => ?_; refine ne2_ NB404_407 fun hnb23 hnc23 => ?_; refine blk9_ BK404.out fun hcz24_0 hcz24_1 hcz24_2 hcz24_3 hcz24_4 hcz24_5 hcz24_6 hcz24_7 hcz24_8 hfz24_0 hfz24_1 hfz24_2 hfz24_3 hfz24_4 hfz24_5 hfz24_6 hfz24_7 hfz24_8 => ?_; refine ne2_ NB406_405 fun hnb25 hnc25 => ?_; refine ne2_ NB406_407 fun hnb26 hnc26 => ?_; refine blk1_ BK406.out fun hcz27_0 hfz27_0 => ?_))
        go_meet
        case rel => exact ⟨_, (true), sm_, H', ⟨by first | omega | exact Nat.le_refl _⟩, ⟨by (with_reducible repeat (first | refine blk_drewN ?_ _ | refine blk_drew ?_ | refine blk_alloc ?_ _)); exact BK404.out⟩, ⟨by (with_reducible repeat (first | refine blk_drewN ?_ _ | refine blk_drew ?_ | refine blk_alloc ?_ _)); exact BK405.out⟩, ⟨by (with_reducible repeat (first | refine blk_drewN ?_ _ | refine blk_drew ?_ | refine blk_alloc ?_ _)); exact BK406.out⟩, ⟨by (with_reducible repeat (first | refine blk_drewN ?_ _ | refine blk_drew ?_ | refine blk_alloc ?_ _)); exact BK407.out⟩, ⟨by repeat (first | (with_reducible first | exact HB.out | apply below_alloc | apply pw_below_drewN | apply below_drew1 | refine below_set ?_ GE404.out | refine below_set ?_ GE405.out | refine below_set ?_ GE406.out | refine below_set ?_ GE407.out) | exact HB.out)⟩⟩
      · rw [if_neg c18] at H
        have c18b0 : decide (a2 < 1) = false := decide_eq_false c18
        clear c18
        have H' := Aside0.mk H
        clear H
        go_wp2_with (first | ((with_reducible refine gate_dst (N := 14) rfl ?_); (try (refine gate_guard (by rfl) ?_; dsimp only)); refine bl_ 14 BK404.out ⟨_, Try.underlying29, rfl⟩ ?_) | ((with_reducible refine gate_callee (f := 14) rfl ?_); refine gl_ (some 15) Try.func14 #[.agg #[.int .i64 a0_0, .int .i64 a0_1, .int .i64 a0_2, .int .i64 a0_3, .int .i64 a0_4, .int .i64 a0_5, .slice A0_6 l0_6.length c0_6, .slice A0_7 l0_7.length c0_7, .bool a0_8]] ?_; (with_reducible refine (command_Right.calls k a0_0 a0_1 a0_2 a0_3 a0_4 a0_5 _ _ l0_6 _ _ l0_7 a0_8 true _ ?side1 ?side2 ?side3 ?side4 A9.out).mono ?_); (case side1 => exact kc_ (Kd.C_below HR0_6.out HB.out)); (case side2 => exact HC0_6.out); (case side3 => exact kc_ (Kd.C_below HR0_7.out HB.out)); (case side4 => exact HC0_7.out); rintro e w29 ⟨rfl, hb⟩; refine ⟨_, rfl, ?_⟩; replace BK404 := bb_ BK404 hb; replace BK405 := bb_ BK405 hb; replace BK406 := bb_ BK406 hb; replace BK407 := bb_ BK407 hb; replace HB := hs_ HB hb; (try clear hb); refine ne2_ NB404_405 fun hnb30 hnc30 => ?_; refine ne2_ NB404_406 fun hnb31 hnc31 => ?_; refine ne2_ NB404_407 fun hnb32 hnc32 => ?_; refine blk9_ BK404.out fun hcz33_0 hcz33_1 hcz33_2 hcz33_3 hcz33_4 hcz33_5 hcz33_6 hcz33_7 hcz33_8 hfz33_0 hfz33_1 hfz33_2 hfz33_3 hfz33_4 hfz33_5 hfz33_6 hfz33_7 hfz33_8 => ?_; refine ne2_ NB406_405 fun hnb34 hnc34 => ?_; refine ne2_ NB406_407 fun hnb35 hnc35 => ?_; refine blk1_ BK406.out fun hcz36_0 hfz36_0 => ?_))
        go_meet
        case rel => exact ⟨_, (decide (a2 > 4)), sm_, H', ⟨by first | omega | exact Nat.le_refl _⟩, ⟨by (with_reducible repeat (first | refine blk_drewN ?_ _ | refine blk_drew ?_ | refine blk_alloc ?_ _)); exact BK404.out⟩, ⟨by (with_reducible repeat (first | refine blk_drewN ?_ _ | refine blk_drew ?_ | refine blk_alloc ?_ _)); exact BK405.out⟩, ⟨by (with_reducible repeat (first | refine blk_drewN ?_ _ | refine blk_drew ?_ | refine blk_alloc ?_ _)); exact BK406.out⟩, ⟨by (with_reducible repeat (first | refine blk_drewN ?_ _ | refine blk_drew ?_ | refine blk_alloc ?_ _)); exact BK407.out⟩, ⟨by repeat (first | (with_reducible first | exact HB.out | apply below_alloc | apply pw_below_drewN | apply below_drew1 | refine below_set ?_ GE404.out | refine below_set ?_ GE405.out | refine below_set ?_ GE406.out | refine below_set ?_ GE407.out) | exact HB.out)⟩⟩
  · replace c10 := Bool.eq_false_iff.mpr c10
    subst c10
    rw [if_neg (show ¬ (false = true) by decide)] at H
    have H' := Aside0.mk H
    clear H
    go_wp2_with (first | ((with_reducible refine gate_dst (N := 14) rfl ?_); (try (refine gate_guard (by rfl) ?_; dsimp only)); refine bl_ 14 BK404.out ⟨_, Try.underlying29, rfl⟩ ?_) | ((with_reducible refine gate_callee (f := 14) rfl ?_); refine gl_ (some 15) Try.func14 #[.agg #[.int .i64 a0_0, .int .i64 a0_1, .int .i64 a0_2, .int .i64 a0_3, .int .i64 a0_4, .int .i64 a0_5, .slice A0_6 l0_6.length c0_6, .slice A0_7 l0_7.length c0_7, .bool a0_8]] ?_; (with_reducible refine (command_Right.calls k a0_0 a0_1 a0_2 a0_3 a0_4 a0_5 _ _ l0_6 _ _ l0_7 a0_8 false _ ?side1 ?side2 ?side3 ?side4 A9.out).mono ?_); (case side1 => exact kc_ (Kd.C_below HR0_6.out HB.out)); (case side2 => exact HC0_6.out); (case side3 => exact kc_ (Kd.C_below HR0_7.out HB.out)); (case side4 => exact HC0_7.out); rintro e w38 ⟨rfl, hb⟩; refine ⟨_, rfl, ?_⟩; replace BK404 := bb_ BK404 hb; replace BK405 := bb_ BK405 hb; replace BK406 := bb_ BK406 hb; replace BK407 := bb_ BK407 hb; replace HB := hs_ HB hb; (try clear hb); (try clear hi)))
    go_meet
    case rel => exact ⟨_, (true), sm_, H', ⟨by first | omega | exact Nat.le_refl _⟩, ⟨by (with_reducible repeat (first | refine blk_drewN ?_ _ | refine blk_drew ?_ | refine blk_alloc ?_ _)); exact BK404.out⟩, ⟨by (with_reducible repeat (first | refine blk_drewN ?_ _ | refine blk_drew ?_ | refine blk_alloc ?_ _)); exact BK405.out⟩, ⟨by (with_reducible repeat (first | refine blk_drewN ?_ _ | refine blk_drew ?_ | refine blk_alloc ?_ _)); exact BK406.out⟩, ⟨by (with_reducible repeat (first | refine blk_drewN ?_ _ | refine blk_drew ?_ | refine blk_alloc ?_ _)); exact BK407.out⟩, ⟨by repeat (first | (with_reducible first | exact HB.out | apply below_alloc | apply pw_below_drewN | apply below_drew1 | refine below_set ?_ GE404.out | refine below_set ?_ GE405.out | refine below_set ?_ GE406.out | refine below_set ?_ GE407.out) | exact HB.out)⟩⟩
 case rest =>
  clear HC4
  try clear c1
  try clear c2
  try clear p2
  try clear c3
  try clear c10
  try clear c11
  try clear c11b0
  try clear c11b1
  try clear c14
  try clear c15
  try clear c16
  try clear c18
  try clear c18b0
  try clear c21
  try clear c22
  try clear c23
  try clear c25
  try clear c26
  try clear c30
  try clear c31
  try clear c32
  try clear c34
  try clear c35
  try clear hcz17_0 hcz17_1 hcz17_2 hcz17_3 hcz17_4 hcz17_5 hcz17_6 hcz17_7 hcz17_8
  try clear hcz24_0 hcz24_1 hcz24_2 hcz24_3 hcz24_4 hcz24_5 hcz24_6 hcz24_7 hcz24_8
  try clear hcz27_0
  try clear hcz33_0 hcz33_1 hcz33_2 hcz33_3 hcz33_4 hcz33_5 hcz33_6 hcz33_7 hcz33_8
  try clear hcz36_0
  try clear hfz17_0 hfz17_1 hfz17_2 hfz17_3 hfz17_4 hfz17_5 hfz17_6 hfz17_7 hfz17_8
  try clear hfz24_0 hfz24_1 hfz24_2 hfz24_3 hfz24_4 hfz24_5 hfz24_6 hfz24_7 hfz24_8
  try clear hfz27_0
  try clear hfz33_0 hfz33_1 hfz33_2 hfz33_3 hfz33_4 hfz33_5 hfz33_6 hfz33_7 hfz33_8
  try clear hfz36_0
  obtain ⟨kq, x29_3, rfl, HA, HJ3, BK404, BK405, BK406, BK407, HB⟩ := hcut
  cases kq with
  | zero => exact absurd HA.out (by simp [command_Part.j0])
  | succ kj3 =>
   have H := HA.out
   clear HA
   simp only [command_Part.j0] at H
   by_cases c39 : x29_3 = true
   · subst c39
     rw [if_pos rfl] at H
     simp only [Option.some.injEq, Prod.mk.injEq] at H
     obtain ⟨rfl, rfl, rfl, rfl, rfl, rfl, rfl, rfl, rfl, rfl⟩ := H
     refine ne2_ NB407_404 fun hnb40 hnc40 => ?_
     refine ne2_ NB407_405 fun hnb41 hnc41 => ?_
     refine ne2_ NB407_406 fun hnb42 hnc42 => ?_
     refine blk9_ BK407.out fun hcz43_0 hcz43_1 hcz43_2 hcz43_3 hcz43_4 hcz43_5 hcz43_6 hcz43_7 hcz43_8 hfz43_0 hfz43_1 hfz43_2 hfz43_3 hfz43_4 hfz43_5 hfz43_6 hfz43_7 hfz43_8 => ?_
     go_wp2_with (first | ((with_reducible refine gate_store (t := 29) (p := 6) rfl ?_); refine store_event (t := 29) (p := 6) (v := ?vo_w44) (w1 := (((((((((wc.setCell ⟨gb407, 0, none⟩ (.int .i64 0)).setCell ⟨gb407, 1, none⟩ (.int .i64 0)).setCell ⟨gb407, 2, none⟩ (.int .i64 0)).setCell ⟨gb407, 3, none⟩ (.int .i64 0)).setCell ⟨gb407, 4, none⟩ (.int .i64 0)).setCell ⟨gb407, 5, none⟩ (.int .i64 0)).setCell ⟨gb407, 6, none⟩ (.slice none 0 0)).setCell ⟨gb407, 7, none⟩ (.slice none 0 0)).setCell ⟨gb407, 8, none⟩ (.bool false))) ?hg ?ho ?hn ?hr ?_; (case ho => rfl); (case hg => rfl); (case hn => rfl); (case hr => first | (go_simp; done) | (go_simp; rfl)); intro w44 hw; have n0_ : Aside0 (w44.heap[gb404]? = some (.cells #[.int .i64 a0_0, .int .i64 a0_1, .int .i64 a0_2, .int .i64 a0_3, .int .i64 a0_4, .int .i64 a0_5, .slice A0_6 l0_6.length c0_6, .slice A0_7 l0_7.length c0_7, .bool a0_8] 29 (0, 0))) := ⟨(by rw [hw]; exact (by (with_reducible repeat (first | refine blk_drewN ?_ _ | refine blk_drew ?_ | refine blk_alloc ?_ _)); refine blk_far ?_ NB404_407.out _; (with_reducible repeat (first | refine blk_drewN ?_ _ | refine blk_drew ?_ | refine blk_alloc ?_ _)); refine blk_far ?_ NB404_407.out _; (with_reducible repeat (first | refine blk_drewN ?_ _ | refine blk_drew ?_ | refine blk_alloc ?_ _)); refine blk_far ?_ NB404_407.out _; (with_reducible repeat (first | refine blk_drewN ?_ _ | refine blk_drew ?_ | refine blk_alloc ?_ _)); refine blk_far ?_ NB404_407.out _; (with_reducible repeat (first | refine blk_drewN ?_ _ | refine blk_drew ?_ | refine blk_alloc ?_ _)); refine blk_far ?_ NB404_407.out _; (with_reducible repeat (first | refine blk_drewN ?_ _ | refine blk_drew ?_ | refine blk_alloc ?_ _)); refine blk_far ?_ NB404_407.out _; (with_reducible repeat (first | refine blk_drewN ?_ _ | refine blk_drew ?_ | refine blk_alloc ?_ _)); refine blk_far ?_ NB404_407.out _; (with_reducible repeat (first | refine blk_drewN ?_ _ | refine blk_drew ?_ | refine blk_alloc ?_ _)); refine blk_far ?_ NB404_407.out _; (with_reducible repeat (first | refine blk_drewN ?_ _ | refine blk_drew ?_ | refine blk_alloc ?_ _)); refine blk_far ?_ NB404_407.out _; (with_reducible repeat (first | refine blk_drewN ?_ _ | refine blk_drew ?_ | refine blk_alloc ?_ _)); exact BK404.out))⟩; have n1_ : Aside0 (w44.heap[gb405]? = some (.cells #[.int .i64 a1] 3 (0, 0))) := ⟨(by rw [hw]; exact (by (with_reducible repeat (first | refine blk_drewN ?_ _ | refine blk_drew ?_ | refine blk_alloc ?_ _)); refine blk_far ?_ NB405_407.out _; (with_reducible repeat (first | refine blk_drewN ?_ _ | refine blk_drew ?_ | refine blk_alloc ?_ _)); refine blk_far ?_ NB405_407.out _; (with_reducible repeat (first | refine blk_drewN ?_ _ | refine blk_drew ?_ | refine blk_alloc ?_ _)); refine blk_far ?_ NB405_407.out _; (with_reducible repeat (first | refine blk_drewN ?_ _ | refine blk_drew ?_ | refine blk_alloc ?_ _)); refine blk_far ?_ NB405_407.out _; (with_reducible repeat (first | refine blk_drewN ?_ _ | refine blk_drew ?_ | refine blk_alloc ?_ _)); refine blk_far ?_ NB405_407.out _; (with_reducible repeat (first | refine blk_drewN ?_ _ | refine blk_drew ?_ | refine blk_alloc ?_ _)); refine blk_far ?_ NB405_407.out _; (with_reducible repeat (first | refine blk_drewN ?_ _ | refine blk_drew ?_ | refine blk_alloc ?_ _)); refine blk_far ?_ NB405_407.out _; (with_reducible repeat (first | refine blk_drewN ?_ _ | refine blk_drew ?_ | refine blk_alloc ?_ _)); refine blk_far ?_ NB405_407.out _; (with_reducible repeat (first | refine blk_drewN ?_ _ | refine blk_drew ?_ | refine blk_alloc ?_ _)); refine blk_far ?_ NB405_407.out _; (with_reducible repeat (first | refine blk_drewN ?_ _ | refine blk_drew ?_ | refine blk_alloc ?_ _)); exact BK405.out))⟩; have n2_ : Aside0 (w44.heap[gb406]? = some (.cells #[.int .i64 a2] 3 (0, 0))) := ⟨(by rw [hw]; exact (by (with_reducible repeat (first | refine blk_drewN ?_ _ | refine blk_drew ?_ | refine blk_alloc ?_ _)); refine blk_far ?_ NB406_407.out _; (with_reducible repeat (first | refine blk_drewN ?_ _ | refine blk_drew ?_ | refine blk_alloc ?_ _)); refine blk_far ?_ NB406_407.out _; (with_reducible repeat (first | refine blk_drewN ?_ _ | refine blk_drew ?_ | refine blk_alloc ?_ _)); refine blk_far ?_ NB406_407.out _; (with_reducible repeat (first | refine blk_drewN ?_ _ | refine blk_drew ?_ | refine blk_alloc ?_ _)); refine blk_far ?_ NB406_407.out _; (with_reducible repeat (first | refine blk_drewN ?_ _ | refine blk_drew ?_ | refine blk_alloc ?_ _)); refine blk_far ?_ NB406_407.out _; (with_reducible repeat (first | refine blk_drewN ?_ _ | refine blk_drew ?_ | refine blk_alloc ?_ _)); refine blk_far ?_ NB406_407.out _; (with_reducible repeat (first | refine blk_drewN ?_ _ | refine blk_drew ?_ | refine blk_alloc ?_ _)); refine blk_far ?_ NB406_407.out _; (with_reducible repeat (first | refine blk_drewN ?_ _ | refine blk_drew ?_ | refine blk_alloc ?_ _)); refine blk_far ?_ NB406_407.out _; (with_reducible repeat (first | refine blk_drewN ?_ _ | refine blk_drew ?_ | refine blk_alloc ?_ _)); refine blk_far ?_ NB406_407.out _; (with_reducible repeat (first | refine blk_drewN ?_ _ | refine blk_drew ?_ | refine blk_alloc ?_ _)); exact BK406.out))⟩; have n3_ : Aside0 (w44.heap[gb407]? = some (.cells #[.int .i64 0, .int .i64 0, .int .i64 0, .int .i64 0, .int .i64 0, .int .i64 0, .slice none 0 0, .slice none 0 0, .bool false] 29 (0, 0))) := ⟨(by rw [hw]; exact (by (with_reducible repeat (first | refine blk_drewN ?_ _ | refine blk_drew ?_ | refine blk_alloc ?_ _)); refine blk_put (cs := #[.int .i64 0, .int .i64 0, .int .i64 0, .int .i64 0, .int .i64 0, .int .i64 0, .slice none 0 0, .slice none 0 0, .bool false]) ?_ 8 _ rfl; (with_reducible repeat (first | refine blk_drewN ?_ _ | refine blk_drew ?_ | refine blk_alloc ?_ _)); refine blk_put (cs := #[.int .i64 0, .int .i64 0, .int .i64 0, .int .i64 0, .int .i64 0, .int .i64 0, .slice none 0 0, .slice none 0 0, .bool false]) ?_ 7 _ rfl; (with_reducible repeat (first | refine blk_drewN ?_ _ | refine blk_drew ?_ | refine blk_alloc ?_ _)); refine blk_put (cs := #[.int .i64 0, .int .i64 0, .int .i64 0, .int .i64 0, .int .i64 0, .int .i64 0, .slice none 0 0, .slice none 0 0, .bool false]) ?_ 6 _ rfl; (with_reducible repeat (first | refine blk_drewN ?_ _ | refine blk_drew ?_ | refine blk_alloc ?_ _)); refine blk_put (cs := #[.int .i64 0, .int .i64 0, .int .i64 0, .int .i64 0, .int .i64 0, .int .i64 0, .slice none 0 0, .slice none 0 0, .bool false]) ?_ 5 _ rfl; (with_reducible repeat (first | refine blk_drewN ?_ _ | refine blk_drew ?_ | refine blk_alloc ?_ _)); refine blk_put (cs := #[.int .i64 0, .int .i64 0, .int .i64 0, .int .i64 0, .int .i64 0, .int .i64 0, .slice none 0 0, .slice none 0 0, .bool false]) ?_ 4 _ rfl; (with_reducible repeat (first | refine blk_drewN ?_ _ | refine blk_drew ?_ | refine blk_alloc ?_ _)); refine blk_put (cs := #[.int .i64 0, .int .i64 0, .int .i64 0, .int .i64 0, .int .i64 0, .int .i64 0, .slice none 0 0, .slice none 0 0, .bool false]) ?_ 3 _ rfl; (with_reducible repeat (first | refine blk_drewN ?_ _ | refine blk_drew ?_ | refine blk_alloc ?_ _)); refine blk_put (cs := #[.int .i64 0, .int .i64 0, .int .i64 0, .int .i64 0, .int .i64 0, .int .i64 0, .slice none 0 0, .slice none 0 0, .bool false]) ?_ 2 _ rfl; (with_reducible repeat (first | refine blk_drewN ?_ _ | refine blk_drew ?_ | refine blk_alloc ?_ _)); refine blk_put (cs := #[.int .i64 0, .int .i64 0, .int .i64 0, .int .i64 0, .int .i64 0, .int .i64 0, .slice none 0 0, .slice none 0 0, .bool false]) ?_ 1 _ rfl; (with_reducible repeat (first | refine blk_drewN ?_ _ | refine blk_drew ?_ | refine blk_alloc ?_ _)); refine blk_put (cs := #[.int .i64 0, .int .i64 0, .int .i64 0, .int .i64 0, .int .i64 0, .int .i64 0, .slice none 0 0, .slice none 0 0, .bool false]) ?_ 0 _ rfl; (with_reducible repeat (first | refine blk_drewN ?_ _ | refine blk_drew ?_ | refine blk_alloc ?_ _)); exact BK407.out))⟩; have n4_ : Aside0 (Below w.heap.size w w44) := ⟨(by rw [hw]; exact lbt_)⟩; clear hw BK404 BK405 BK406 BK407 HB; have BK404 := n0_; have BK405 := n1_; have BK406 := n2_; have BK407 := n3_; have HB := n4_; clear n0_ n1_ n2_ n3_ n4_))
     refine bodyPost_ret (results_ct rfl _ _ gb407 29 #[.int .i64 0, .int .i64 0, .int .i64 0, .int .i64 0, .int .i64 0, .int .i64 0, .slice none 0 0, .slice none 0 0, .bool false] (0, 0) _ rfl (kb_ BK407.out) Try.underlying29 rfl (by kernel_rfl)) rfl ?_
     exact ⟨_, _, by first | rfl | (simp [errW_none, errW_some] <;> rfl) | (simp [*, errW_none, errW_some] <;> rfl), by first | exact Kd.R_nil _ _ _ _ _ | exact Kd.N_nil _ _ _ _ _ | exact Kd.V_nil _ _ _ _ _ | exact Kd.Q_nil _ _ _ _ _ | exact Kd.S_nil _ _ _ _ _, by first | exact Kd.R_nil _ _ _ _ _ | exact Kd.N_nil _ _ _ _ _ | exact Kd.V_nil _ _ _ _ _ | exact Kd.Q_nil _ _ _ _ _ | exact Kd.S_nil _ _ _ _ _, by repeat (first | (with_reducible first | exact HB.out | apply below_alloc | apply pw_below_drewN | apply below_drew1 | refine below_set ?_ GE404.out | refine below_set ?_ GE405.out | refine below_set ?_ GE406.out | refine below_set ?_ GE407.out) | exact HB.out)⟩
   · replace c39 := Bool.eq_false_iff.mpr c39
     subst c39
     rw [if_neg (show ¬ (false = true) by decide)] at H
     have H' := Aside0.mk H
     clear H
     go_wp2_with (first | ((with_reducible refine gate_dst (N := 32) rfl ?_); (try (refine gate_guard (by rfl) ?_; dsimp only)); refine bl_ 32 BK404.out ⟨_, Try.underlying29, rfl⟩ ?_) | ((with_reducible refine gate_dst (N := 9) rfl ?_); refine alloc_store_event ?hg1 (N := 9) ?hd1 ?hg2 ?hd2 ?ho2 (cs0 := #[.int .i64 0, .int .i64 0, .int .i64 0, .int .i64 0, .int .i64 0, .int .i64 0, .slice none 0 0, .slice none 0 0, .bool false]) (cs := #[.int .i64 a0_0, .int .i64 a0_1, .int .i64 a0_2, .int .i64 a0_3, .int .i64 a0_4, .int .i64 a0_5, .slice A0_6 l0_6.length c0_6, .slice A0_7 l0_7.length c0_7, .bool a0_8]) (t := 29) (x := ?xxw46) ?hr ?hp ?hx ?hs ?h1 ?ht ?_; (case hg1 => rfl); (case hd1 => rfl); (case hg2 => rfl); (case hd2 => rfl); (case ho2 => rfl); (case hr => first | (go_simp; done) | (go_simp; rfl)); (case hp => rfl); (case hx => rfl); (case hs => rfl); (case h1 => rfl); (case ht => kernel_rfl); intro gb409 hg w46 hbox hb; have BK409 := Aside0.mk hbox; have GE409 := ge_ HB hg; have NB404_409 := na_ hg BK404; have NB409_404 := nb_ hg BK404; have NB405_409 := na_ hg BK405; have NB409_405 := nb_ hg BK405; have NB406_409 := na_ hg BK406; have NB409_406 := nb_ hg BK406; have NB407_409 := na_ hg BK407; have NB409_407 := nb_ hg BK407; replace BK404 := bb_ BK404 hb; replace BK405 := bb_ BK405 hb; replace BK406 := bb_ BK406 hb; replace BK407 := bb_ BK407 hb; replace HB := hs_ HB hb; clear hb hbox hg; refine ne2_ NB409_404 fun hnb47 hnc47 => ?_; refine ne2_ NB409_405 fun hnb48 hnc48 => ?_; refine ne2_ NB409_406 fun hnb49 hnc49 => ?_; refine ne2_ NB409_407 fun hnb50 hnc50 => ?_; refine blk9_ BK409.out fun hcz51_0 hcz51_1 hcz51_2 hcz51_3 hcz51_4 hcz51_5 hcz51_6 hcz51_7 hcz51_8 hfz51_0 hfz51_1 hfz51_2 hfz51_3 hfz51_4 hfz51_5 hfz51_6 hfz51_7 hfz51_8 => ?_; refine ne2_ NB404_405 fun hnb52 hnc52 => ?_; refine ne2_ NB404_406 fun hnb53 hnc53 => ?_; refine ne2_ NB404_407 fun hnb54 hnc54 => ?_; refine blk9_ BK404.out fun hcz55_0 hcz55_1 hcz55_2 hcz55_3 hcz55_4 hcz55_5 hcz55_6 hcz55_7 hcz55_8 hfz55_0 hfz55_1 hfz55_2 hfz55_3 hfz55_4 hfz55_5 hfz55_6 hfz55_7 hfz55_8 => ?_))
     go_loopg [38] kj3 (fun kq v38 w' => ∃ (x38_2 : Int) (x410006_2 : List (S38)) (u410006 : Value), v38 = .int .i64 x38_2 ∧ Aside0 (command_Part.l0 kq l0_6 (l0_6.length : Int) x38_2 a0_0 a0_1 a0_2 a0_3 a0_4 a0_5 l0_6 l0_7 a0_8 a1 a2 a0_0 a0_1 a0_2 a0_3 a0_4 a0_5 x410006_2 a0_8 = some (r1, r2, r3, r4, r5, r6, r7, r8, r9, r10)) ∧ Aside0 (kq ≤ kj3) ∧ Aside0 (Kd.R k38 38 w' w.heap.size (fun _ => True) u410006 x410006_2) ∧ Aside0 (w'.heap[gb404]? = some (.cells #[.int .i64 a0_0, .int .i64 a0_1, .int .i64 a0_2, .int .i64 a0_3, .int .i64 a0_4, .int .i64 a0_5, (.slice A0_6 l0_6.length c0_6), (.slice A0_7 l0_7.length c0_7), .bool a0_8] 29 (0, 0))) ∧ Aside0 (w'.heap[gb405]? = some (.cells #[.int .i64 a1] 3 (0, 0))) ∧ Aside0 (w'.heap[gb406]? = some (.cells #[.int .i64 a2] 3 (0, 0))) ∧ Aside0 (w'.heap[gb407]? = some (.cells #[.int .i64 0, .int .i64 0, .int .i64 0, .int .i64 0, .int .i64 0, .int .i64 0, (.slice none 0 0), (.slice none 0 0), .bool false] 29 (0, 0))) ∧ Aside0 (w'.heap[gb409]? = some (.cells #[.int .i64 a0_0, .int .i64 a0_1, .int .i64 a0_2, .int .i64 a0_3, .int .i64 a0_4, .int .i64 a0_5, u410006, (.slice none 0 0), .bool a0_8] 29 (0, 0))) ∧ Aside0 (Below w.heap.size w w'))
     case atStart => exact ⟨(0), (([] : List (S38))), (.slice none 0 0), sm_, H', ⟨Nat.le_refl _⟩, ⟨by first | exact Kd.R_nil _ _ _ _ _ | exact Kd.N_nil _ _ _ _ _ | exact Kd.V_nil _ _ _ _ _ | exact Kd.Q_nil _ _ _ _ _ | exact Kd.S_nil _ _ _ _ _⟩, ⟨by (with_reducible repeat (first | refine blk_drewN ?_ _ | refine blk_drew ?_ | refine blk_alloc ?_ _)); refine blk_far ?_ NB404_409.out _; (with_reducible repeat (first | refine blk_drewN ?_ _ | refine blk_drew ?_ | refine blk_alloc ?_ _)); refine blk_far ?_ NB404_409.out _; (with_reducible repeat (first | refine blk_drewN ?_ _ | refine blk_drew ?_ | refine blk_alloc ?_ _)); exact BK404.out⟩, ⟨by (with_reducible repeat (first | refine blk_drewN ?_ _ | refine blk_drew ?_ | refine blk_alloc ?_ _)); refine blk_far ?_ NB405_409.out _; (with_reducible repeat (first | refine blk_drewN ?_ _ | refine blk_drew ?_ | refine blk_alloc ?_ _)); refine blk_far ?_ NB405_409.out _; (with_reducible repeat (first | refine blk_drewN ?_ _ | refine blk_drew ?_ | refine blk_alloc ?_ _)); exact BK405.out⟩, ⟨by (with_reducible repeat (first | refine blk_drewN ?_ _ | refine blk_drew ?_ | refine blk_alloc ?_ _)); refine blk_far ?_ NB406_409.out _; (with_reducible repeat (first | refine blk_drewN ?_ _ | refine blk_drew ?_ | refine blk_alloc ?_ _)); refine blk_far ?_ NB406_409.out _; (with_reducible repeat (first | refine blk_drewN ?_ _ | refine blk_drew ?_ | refine blk_alloc ?_ _)); exact BK406.out⟩, ⟨by (with_reducible repeat (first | refine blk_drewN ?_ _ | refine blk_drew ?_ | refine blk_alloc ?_ _)); refine blk_far ?_ NB407_409.out _; (with_reducible repeat (first | refine blk_drewN ?_ _ | refine blk_drew ?_ | refine blk_alloc ?_ _)); refine blk_far ?_ NB407_409.out _; (with_reducible repeat (first | refine blk_drewN ?_ _ | refine blk_drew ?_ | refine blk_alloc ?_ _)); exact BK407.out⟩, ⟨by (with_reducible repeat (first | refine blk_drewN ?_ _ | refine blk_drew ?_ | refine blk_alloc ?_ _)); refine blk_put (cs := #[.int .i64 a0_0, .int .i64 a0_1, .int .i64 a0_2, .int .i64 a0_3, .int .i64 a0_4, .int .i64 a0_5, .slice none 0 0, .slice A0_7 l0_7.length c0_7, .bool a0_8]) ?_ 7 _ rfl; (with_reducible repeat (first | refine blk_drewN ?_ _ | refine blk_drew ?_ | refine blk_alloc ?_ _)); refine blk_put (cs := #[.int .i64 a0_0, .int .i64 a0_1, .int .i64 a0_2, .int .i64 a0_3, .int .i64 a0_4, .int .i64 a0_5, .slice A0_6 l0_6.length c0_6, .slice A0_7 l0_7.length c0_7, .bool a0_8]) ?_ 6 _ rfl; (with_reducible repeat (first | refine blk_drewN ?_ _ | refine blk_drew ?_ | refine blk_alloc ?_ _)); exact BK409.out⟩, ⟨by repeat (first | (with_reducible first | exact HB.out | apply below_alloc | apply pw_below_drewN | apply below_drew1 | refine below_set ?_ GE404.out | refine below_set ?_ GE405.out | refine below_set ?_ GE406.out | refine below_set ?_ GE407.out | refine below_set ?_ GE409.out) | exact HB.out)⟩⟩
     case round =>
      clear H'
      try clear c1
      try clear c2
      try clear p2
      try clear c3
      try clear c4
      try clear c5
      try clear c10
      try clear c11
      try clear c11b0
      try clear c11b1
      try clear c14
      try clear c15
      try clear c16
      try clear c18
      try clear c18b0
      try clear c21
      try clear c22
      try clear c23
      try clear c25
      try clear c26
      try clear c30
      try clear c31
      try clear c32
      try clear c34
      try clear c35
      try clear c39
      try clear c40
      try clear c41
      try clear c42
      try clear c47
      try clear c48
      try clear c49
      try clear c50
      try clear c52
      try clear c53
      try clear c54
      try clear hcz17_0 hcz17_1 hcz17_2 hcz17_3 hcz17_4 hcz17_5 hcz17_6 hcz17_7 hcz17_8
      try clear hcz24_0 hcz24_1 hcz24_2 hcz24_3 hcz24_4 hcz24_5 hcz24_6 hcz24_7 hcz24_8
      try clear hcz27_0
      try clear hcz33_0 hcz33_1 hcz33_2 hcz33_3 hcz33_4 hcz33_5 hcz33_6 hcz33_7 hcz33_8
      try clear hcz36_0
      try clear hcz43_0 hcz43_1 hcz43_2 hcz43_3 hcz43_4 hcz43_5 hcz43_6 hcz43_7 hcz43_8
      try clear hcz51_0 hcz51_1 hcz51_2 hcz51_3 hcz51_4 hcz51_5 hcz51_6 hcz51_7 hcz51_8
      try clear hcz55_0 hcz55_1 hcz55_2 hcz55_3 hcz55_4 hcz55_5 hcz55_6 hcz55_7 hcz55_8
      try clear hfz17_0 hfz17_1 hfz17_2 hfz17_3 hfz17_4 hfz17_5 hfz17_6 hfz17_7 hfz17_8
      try clear hfz24_0 hfz24_1 hfz24_2 hfz24_3 hfz24_4 hfz24_5 hfz24_6 hfz24_7 hfz24_8
      try clear hfz27_0
      try clear hfz33_0 hfz33_1 hfz33_2 hfz33_3 hfz33_4 hfz33_5 hfz33_6 hfz33_7 hfz33_8
      try clear hfz36_0
      try clear hfz43_0 hfz43_1 hfz43_2 hfz43_3 hfz43_4 hfz43_5 hfz43_6 hfz43_7 hfz43_8
      try clear hfz51_0 hfz51_1 hfz51_2 hfz51_3 hfz51_4 hfz51_5 hfz51_6 hfz51_7 hfz51_8
      try clear hfz55_0 hfz55_1 hfz55_2 hfz55_3 hfz55_4 hfz55_5 hfz55_6 hfz55_7 hfz55_8
      try clear p2
      (try clear BK404); (try clear BK405); (try clear BK406); (try clear BK407); (try clear BK409)
      obtain ⟨x38_2, x410006_2, u410006, rfl, HA, HK2, HO_410006, BK404, BK405, BK406, BK407, BK409, HB⟩ := hrel
      cases gk with
      | zero => exact absurd HA.out (by simp [command_Part.l0])
      | succ k2 =>
       have H := HA.out
       clear HA
       simp only [command_Part.l0] at H
       by_cases c56 : x38_2 < (l0_6.length : Int)
       · rw [if_pos c56] at H
         have c56b0 : decide (x38_2 < (l0_6.length : Int)) = true := decide_eq_true c56
         clear c56
         by_cases c57 : 0 ≤ x38_2
         · rw [if_pos c57] at H
           have c57b0 : decide (0 ≤ x38_2) = true := decide_eq_true c57
           clear c57
           by_cases c58 : x38_2 < (l0_6.length : Int)
           · rw [if_pos c58] at H
             have c58b0 : decide (x38_2 < (l0_6.length : Int)) = true := decide_eq_true c58
             clear c58
             obtain ⟨t412, A59, H⟩ := bs_ H
             by_cases c60 : t412 = true
             · subst c60
               rw [if_pos rfl] at H
               by_cases c61 : x410006_2.length < 4398046511104
               · rw [if_pos c61] at H
                 have LMc61 := Aside0.mk c61
                 clear c61
                 obtain ⟨y413, hy413⟩ : ∃ y_ : List (S38), y_ = (x410006_2 ++ [(⟨(rd_T38 l0_6 x38_2).f0, (⟨(rd_T38 l0_6 x38_2).f1.f0, (rd_T38 l0_6 x38_2).f1.f1⟩ : S25)⟩ : S38)]) := ⟨_, rfl⟩
                 replace H : (command_Part.l0 k2 l0_6 (l0_6.length : Int) (wrap64 (x38_2 + 1)) a0_0 a0_1 a0_2 a0_3 a0_4 a0_5 l0_6 l0_7 a0_8 a1 a2 a0_0 a0_1 a0_2 a0_3 a0_4 a0_5 y413 a0_8) = some (r1, r2, r3, r4, r5, r6, r7, r8, r9, r10) := by first | (rw [hy413]; with_reducible exact H) | (have H2_ := (Option.bind_some _ _).symm.trans H; rw [hy413]; with_reducible exact H2_) | (have H2_ := (Option.bind_some _ _).symm.trans H; with_reducible exact H2_) | with_reducible exact H | (rw [hy413]; exact H) | exact H
                 have Ny413 := Aside0.mk hy413
                 clear hy413
                 have H' := Aside0.mk H
                 clear H
                 have p410 : 0 ≤ (x38_2 : Int) := of_decide_eq_true (by first | (with_reducible assumption) | assumption)
                 have q410 : x38_2 < (l0_6.length : Int) := of_decide_eq_true (by first | (with_reducible assumption) | assumption)
                 obtain ⟨ad410, e410, hx410_0, hx410_1, hx410_2⟩ := at_T38 HR0_6.out x38_2 p410 q410
                 cases e410
                 replace hx410_0 := (HB.out.cell (World.block_lt_of_cell? w _ hx410_0)).trans hx410_0
                 replace hx410_1 := (HB.out.cell (World.block_lt_of_cell? w _ hx410_1)).trans hx410_1
                 replace hx410_2 := (HB.out.cell (World.block_lt_of_cell? w _ hx410_2)).trans hx410_2
                 replace p410 := eq_true p410
                 replace q410 := eq_true q410
                 go_wp2_with (first | ((with_reducible refine gate_dst (N := 11) rfl ?_); refine bx_ 11 38 #[.string (⟨#[]⟩ : ByteArray), .int .i64 0, .int .i64 0] ?_; intro gb411 hg w62 hbox hb; have BK411 := Aside0.mk hbox; have GE411 := ge_ HB hg; have NB404_411 := na_ hg BK404; have NB411_404 := nb_ hg BK404; have NB405_411 := na_ hg BK405; have NB411_405 := nb_ hg BK405; have NB406_411 := na_ hg BK406; have NB411_406 := nb_ hg BK406; have NB407_411 := na_ hg BK407; have NB411_407 := nb_ hg BK407; have NB409_411 := na_ hg BK409; have NB411_409 := nb_ hg BK409; replace HO_410006 := re_ HO_410006 hg hb; replace BK404 := bb_ BK404 hb; replace BK405 := bb_ BK405 hb; replace BK406 := bb_ BK406 hb; replace BK407 := bb_ BK407 hb; replace BK409 := bb_ BK409 hb; replace HB := hs_ HB hb; clear hb hbox hg; refine ne2_ NB411_404 fun hnb63 hnc63 => ?_; refine ne2_ NB411_405 fun hnb64 hnc64 => ?_; refine ne2_ NB411_406 fun hnb65 hnc65 => ?_; refine ne2_ NB411_407 fun hnb66 hnc66 => ?_; refine ne2_ NB411_409 fun hnb67 hnc67 => ?_; refine blk3_ BK411.out fun hcz68_0 hcz68_1 hcz68_2 hfz68_0 hfz68_1 hfz68_2 => ?_) | (go_at_call 34; (with_reducible refine (command_Part_1.calls ((rd_T38 l0_6 x38_2).f0) a2 a1 true _ ?side1 ?side2 A59.out).mono ?_); (case side1 => exact CapC.mk (bo_ BK406) rfl); (case side2 => exact CapC.mk (bo_ BK405) rfl); rintro e w69 ⟨rfl, hb⟩; replace HO_410006 := Aside0.mk (Kd.R_below (by (with_reducible repeat (first | apply Kd.R_alloc | apply Kd.R_drewN | apply Kd.R_drew)); exact (Kd.R_mono (Kd.R_far (p := ⟨gb411, 2, none⟩) (Kd.R_far (p := ⟨gb411, 1, none⟩) (Kd.R_far (p := ⟨gb411, 0, none⟩) (Kd.R_mono HO_410006.out (fun k_ hk => (⟨hk, hk.2⟩ : _ ∧ k_ ≠ gb411))) (fun _ hk => hk.2) (.string ((rd_T38 l0_6 x38_2).f0))) (fun _ hk => hk.2) (.int .i64 ((rd_T38 l0_6 x38_2).f1.f0))) (fun _ hk => hk.2) (.int .i64 ((rd_T38 l0_6 x38_2).f1.f1))) (fun _ h_ => h_.1))) hb); replace BK404 := bf_ BK404 hb; replace BK405 := bf_ BK405 hb; replace BK406 := bf_ BK406 hb; replace BK407 := bf_ BK407 hb; replace BK409 := bf_ BK409 hb; replace BK411 := Aside0.mk (blk_below (g := gb411) (o := .cells #[.string ((rd_T38 l0_6 x38_2).f0), .int .i64 ((rd_T38 l0_6 x38_2).f1.f0), .int .i64 ((rd_T38 l0_6 x38_2).f1.f1)] 38 (0, 0)) (by (with_reducible repeat (first | refine blk_drewN ?_ _ | refine blk_drew ?_ | refine blk_alloc ?_ _)); refine blk_put (cs := #[.string ((rd_T38 l0_6 x38_2).f0), .int .i64 ((rd_T38 l0_6 x38_2).f1.f0), .int .i64 0]) ?_ 2 _ rfl; (with_reducible repeat (first | refine blk_drewN ?_ _ | refine blk_drew ?_ | refine blk_alloc ?_ _)); refine blk_put (cs := #[.string ((rd_T38 l0_6 x38_2).f0), .int .i64 0, .int .i64 0]) ?_ 1 _ rfl; (with_reducible repeat (first | refine blk_drewN ?_ _ | refine blk_drew ?_ | refine blk_alloc ?_ _)); refine blk_put (cs := #[.string (⟨#[]⟩ : ByteArray), .int .i64 0, .int .i64 0]) ?_ 0 _ rfl; (with_reducible repeat (first | refine blk_drewN ?_ _ | refine blk_drew ?_ | refine blk_alloc ?_ _)); exact BK411.out) hb); replace HB := hs_ HB hb; (try clear hb); (try clear hk); refine ne2_ NB409_404 fun hnb70 hnc70 => ?_; refine ne2_ NB409_405 fun hnb71 hnc71 => ?_; refine ne2_ NB409_406 fun hnb72 hnc72 => ?_; refine ne2_ NB409_407 fun hnb73 hnc73 => ?_; refine blk9_ BK409.out fun hcz74_0 hcz74_1 hcz74_2 hcz74_3 hcz74_4 hcz74_5 hcz74_6 hcz74_7 hcz74_8 hfz74_0 hfz74_1 hfz74_2 hfz74_3 hfz74_4 hfz74_5 hfz74_6 hfz74_7 hfz74_8 => ?_; refine blk3_ BK411.out fun hcz75_0 hcz75_1 hcz75_2 hfz75_0 hfz75_1 hfz75_2 => ?_) | ((with_reducible refine gate_builtin (b := .append) (xs := #[.tmp 47, .tmp 49]) rfl ?_); at_builtin; refine Kd.R_append k38 (w0 := w) w.heap.size rfl (.tmp 47) (.tmp 49) 26 38 (.agg #[(.string ⟨#[]⟩), (.int .i64 0), (.int .i64 0)]) 32 rfl Try.underlying26 info38 rfl (by decide) (by omega) u410006 x410006_2 (⟨(rd_T38 l0_6 x38_2).f0, (⟨(rd_T38 l0_6 x38_2).f1.f0, (rd_T38 l0_6 x38_2).f1.f1⟩ : S25)⟩ : S38) [.string ((rd_T38 l0_6 x38_2).f0), .int .i64 ((rd_T38 l0_6 x38_2).f1.f0), .int .i64 ((rd_T38 l0_6 x38_2).f1.f1)] (fun k_ => k_ ≠ gb411) (fun _ => False) rfl rfl ?aP (fun _ hk => hk.elim) ?aF ?aO ?aB ?aS ?aL ?_; (case aP => exact k38_mkM _ _ _ (⟨(rd_T38 l0_6 x38_2).f0, (⟨(rd_T38 l0_6 x38_2).f1.f0, (rd_T38 l0_6 x38_2).f1.f1⟩ : S25)⟩ : S38)); (case aB => exact lbt_); (case aF => exact (fun k_ hk => Kd.freshB (g := gb411) (o := .cells #[.string ((rd_T38 l0_6 x38_2).f0), .int .i64 ((rd_T38 l0_6 x38_2).f1.f0), .int .i64 ((rd_T38 l0_6 x38_2).f1.f1)] 38 (0, 0)) (kb_ BK411.out) k_ hk)); (case aO => exact (by (with_reducible repeat (first | apply Kd.R_alloc | apply Kd.R_drewN | apply Kd.R_drew)); exact Kd.R_mono HO_410006.out (fun _ hk => hk.2))); (case aS => exact (below_size lbt_)); (case aL => have := LMc61.out; omega); intro v414 w76 ho hb hg hat; rw [← Ny413.out] at ho; have n0_ := Aside0.mk (blk_grown (kb_ BK404.out) hg (Kd.R_ne HO_410006.out BK404.out (by decide))); have n1_ := Aside0.mk (blk_grown (kb_ BK405.out) hg (Kd.R_ne HO_410006.out BK405.out (by decide))); have n2_ := Aside0.mk (blk_grown (kb_ BK406.out) hg (Kd.R_ne HO_410006.out BK406.out (by decide))); have n3_ := Aside0.mk (blk_grown (kb_ BK407.out) hg (Kd.R_ne HO_410006.out BK407.out (by decide))); have n4_ := Aside0.mk (blk_grown (kb_ BK409.out) hg (Kd.R_ne HO_410006.out BK409.out (by decide))); have n5_ := Aside0.mk (blk_grown (kb_ BK411.out) hg (Kd.R_away HO_410006.out (fun _ hk => hk.2))); have n6_ := Aside0.mk (hb); have n7_ := Aside0.mk (ho); clear BK404 BK405 BK406 BK407 BK409 BK411 HB HO_410006; have BK404 := n0_; have BK405 := n1_; have BK406 := n2_; have BK407 := n3_; have BK409 := n4_; have BK411 := n5_; have HB := n6_; have HO415 := n7_; clear n0_ n1_ n2_ n3_ n4_ n5_ n6_ n7_ ho hb hg hat; obtain ⟨Ao77, co77, eo77⟩ := Kd.R_slice HO415.out; subst eo77; refine blk9_ BK409.out fun hcz78_0 hcz78_1 hcz78_2 hcz78_3 hcz78_4 hcz78_5 hcz78_6 hcz78_7 hcz78_8 hfz78_0 hfz78_1 hfz78_2 hfz78_3 hfz78_4 hfz78_5 hfz78_6 hfz78_7 hfz78_8 => ?_))
                 go_roundg k2
                 case measure => have := HJ3.out; have := HK2.out; omega
                 case rel => exact ⟨(wrap64 (x38_2 + 1)), (y413), (.slice Ao77 y413.length co77), sm_, H', ⟨by have := HJ3.out; have := HK2.out; omega⟩, ⟨by (with_reducible repeat (first | apply Kd.R_alloc | apply Kd.R_drewN | apply Kd.R_drew)); exact Kd.R_mono (Kd.R_far (p := ⟨gb409, 6, none⟩) (Kd.R_types HO415.out BK409.out (by decide)) (fun _ hk => hk.2) (.slice Ao77 y413.length co77)) (fun _ hk => trivial)⟩, ⟨by (with_reducible repeat (first | refine blk_drewN ?_ _ | refine blk_drew ?_ | refine blk_alloc ?_ _)); refine blk_far ?_ NB404_409.out _; (with_reducible repeat (first | refine blk_drewN ?_ _ | refine blk_drew ?_ | refine blk_alloc ?_ _)); exact BK404.out⟩, ⟨by (with_reducible repeat (first | refine blk_drewN ?_ _ | refine blk_drew ?_ | refine blk_alloc ?_ _)); refine blk_far ?_ NB405_409.out _; (with_reducible repeat (first | refine blk_drewN ?_ _ | refine blk_drew ?_ | refine blk_alloc ?_ _)); exact BK405.out⟩, ⟨by (with_reducible repeat (first | refine blk_drewN ?_ _ | refine blk_drew ?_ | refine blk_alloc ?_ _)); refine blk_far ?_ NB406_409.out _; (with_reducible repeat (first | refine blk_drewN ?_ _ | refine blk_drew ?_ | refine blk_alloc ?_ _)); exact BK406.out⟩, ⟨by (with_reducible repeat (first | refine blk_drewN ?_ _ | refine blk_drew ?_ | refine blk_alloc ?_ _)); refine blk_far ?_ NB407_409.out _; (with_reducible repeat (first | refine blk_drewN ?_ _ | refine blk_drew ?_ | refine blk_alloc ?_ _)); exact BK407.out⟩, ⟨by (with_reducible repeat (first | refine blk_drewN ?_ _ | refine blk_drew ?_ | refine blk_alloc ?_ _)); refine blk_put (cs := #[.int .i64 a0_0, .int .i64 a0_1, .int .i64 a0_2, .int .i64 a0_3, .int .i64 a0_4, .int .i64 a0_5, u410006, .slice none 0 0, .bool a0_8]) ?_ 6 _ rfl; (with_reducible repeat (first | refine blk_drewN ?_ _ | refine blk_drew ?_ | refine blk_alloc ?_ _)); exact BK409.out⟩, ⟨by repeat (first | (with_reducible first | exact HB.out | apply below_alloc | apply pw_below_drewN | apply below_drew1 | refine below_set ?_ GE404.out | refine below_set ?_ GE405.out | refine below_set ?_ GE406.out | refine below_set ?_ GE407.out | refine below_set ?_ GE409.out | refine below_set ?_ GE411.out) | exact HB.out)⟩⟩
               · rw [if_neg c61] at H
                 exact absurd H (by simp)
             · replace c60 := Bool.eq_false_iff.mpr c60
               subst c60
               rw [if_neg (show ¬ (false = true) by decide)] at H
               have H' := Aside0.mk H
               clear H
               have p410 : 0 ≤ (x38_2 : Int) := of_decide_eq_true (by first | (with_reducible assumption) | assumption)
               have q410 : x38_2 < (l0_6.length : Int) := of_decide_eq_true (by first | (with_reducible assumption) | assumption)
               obtain ⟨ad410, e410, hx410_0, hx410_1, hx410_2⟩ := at_T38 HR0_6.out x38_2 p410 q410
               cases e410
               replace hx410_0 := (HB.out.cell (World.block_lt_of_cell? w _ hx410_0)).trans hx410_0
               replace hx410_1 := (HB.out.cell (World.block_lt_of_cell? w _ hx410_1)).trans hx410_1
               replace hx410_2 := (HB.out.cell (World.block_lt_of_cell? w _ hx410_2)).trans hx410_2
               replace p410 := eq_true p410
               replace q410 := eq_true q410
               go_wp2_with (first | ((with_reducible refine gate_dst (N := 11) rfl ?_); refine bx_ 11 38 #[.string (⟨#[]⟩ : ByteArray), .int .i64 0, .int .i64 0] ?_; intro gb411 hg w79 hbox hb; have BK411 := Aside0.mk hbox; have GE411 := ge_ HB hg; have NB404_411 := na_ hg BK404; have NB411_404 := nb_ hg BK404; have NB405_411 := na_ hg BK405; have NB411_405 := nb_ hg BK405; have NB406_411 := na_ hg BK406; have NB411_406 := nb_ hg BK406; have NB407_411 := na_ hg BK407; have NB411_407 := nb_ hg BK407; have NB409_411 := na_ hg BK409; have NB411_409 := nb_ hg BK409; replace HO_410006 := re_ HO_410006 hg hb; replace BK404 := bb_ BK404 hb; replace BK405 := bb_ BK405 hb; replace BK406 := bb_ BK406 hb; replace BK407 := bb_ BK407 hb; replace BK409 := bb_ BK409 hb; replace HB := hs_ HB hb; clear hb hbox hg; refine ne2_ NB411_404 fun hnb80 hnc80 => ?_; refine ne2_ NB411_405 fun hnb81 hnc81 => ?_; refine ne2_ NB411_406 fun hnb82 hnc82 => ?_; refine ne2_ NB411_407 fun hnb83 hnc83 => ?_; refine ne2_ NB411_409 fun hnb84 hnc84 => ?_; refine blk3_ BK411.out fun hcz85_0 hcz85_1 hcz85_2 hfz85_0 hfz85_1 hfz85_2 => ?_) | (go_at_call 34; (with_reducible refine (command_Part_1.calls ((rd_T38 l0_6 x38_2).f0) a2 a1 false _ ?side1 ?side2 A59.out).mono ?_); (case side1 => exact CapC.mk (bo_ BK406) rfl); (case side2 => exact CapC.mk (bo_ BK405) rfl); rintro e w86 ⟨rfl, hb⟩; replace HO_410006 := Aside0.mk (Kd.R_below (by (with_reducible repeat (first | apply Kd.R_alloc | apply Kd.R_drewN | apply Kd.R_drew)); exact (Kd.R_mono (Kd.R_far (p := ⟨gb411, 2, none⟩) (Kd.R_far (p := ⟨gb411, 1, none⟩) (Kd.R_far (p := ⟨gb411, 0, none⟩) (Kd.R_mono HO_410006.out (fun k_ hk => (⟨hk, hk.2⟩ : _ ∧ k_ ≠ gb411))) (fun _ hk => hk.2) (.string ((rd_T38 l0_6 x38_2).f0))) (fun _ hk => hk.2) (.int .i64 ((rd_T38 l0_6 x38_2).f1.f0))) (fun _ hk => hk.2) (.int .i64 ((rd_T38 l0_6 x38_2).f1.f1))) (fun _ h_ => h_.1))) hb); replace BK404 := bf_ BK404 hb; replace BK405 := bf_ BK405 hb; replace BK406 := bf_ BK406 hb; replace BK407 := bf_ BK407 hb; replace BK409 := bf_ BK409 hb; replace BK411 := Aside0.mk (blk_below (g := gb411) (o := .cells #[.string ((rd_T38 l0_6 x38_2).f0), .int .i64 ((rd_T38 l0_6 x38_2).f1.f0), .int .i64 ((rd_T38 l0_6 x38_2).f1.f1)] 38 (0, 0)) (by (with_reducible repeat (first | refine blk_drewN ?_ _ | refine blk_drew ?_ | refine blk_alloc ?_ _)); refine blk_put (cs := #[.string ((rd_T38 l0_6 x38_2).f0), .int .i64 ((rd_T38 l0_6 x38_2).f1.f0), .int .i64 0]) ?_ 2 _ rfl; (with_reducible repeat (first | refine blk_drewN ?_ _ | refine blk_drew ?_ | refine blk_alloc ?_ _)); refine blk_put (cs := #[.string ((rd_T38 l0_6 x38_2).f0), .int .i64 0, .int .i64 0]) ?_ 1 _ rfl; (with_reducible repeat (first | refine blk_drewN ?_ _ | refine blk_drew ?_ | refine blk_alloc ?_ _)); refine blk_put (cs := #[.string (⟨#[]⟩ : ByteArray), .int .i64 0, .int .i64 0]) ?_ 0 _ rfl; (with_reducible repeat (first | refine blk_drewN ?_ _ | refine blk_drew ?_ | refine blk_alloc ?_ _)); exact BK411.out) hb); replace HB := hs_ HB hb; (try clear hb); (try clear hk); (try clear hi)))
               go_roundg k2
               case measure => have := HJ3.out; have := HK2.out; omega
               case rel => exact ⟨(wrap64 (x38_2 + 1)), (x410006_2), (u410006), sm_, H', ⟨by have := HJ3.out; have := HK2.out; omega⟩, ⟨kr_ (Kd.R_mono HO_410006.out (fun _ hk => trivial))⟩, ⟨by (with_reducible repeat (first | refine blk_drewN ?_ _ | refine blk_drew ?_ | refine blk_alloc ?_ _)); exact BK404.out⟩, ⟨by (with_reducible repeat (first | refine blk_drewN ?_ _ | refine blk_drew ?_ | refine blk_alloc ?_ _)); exact BK405.out⟩, ⟨by (with_reducible repeat (first | refine blk_drewN ?_ _ | refine blk_drew ?_ | refine blk_alloc ?_ _)); exact BK406.out⟩, ⟨by (with_reducible repeat (first | refine blk_drewN ?_ _ | refine blk_drew ?_ | refine blk_alloc ?_ _)); exact BK407.out⟩, ⟨by (with_reducible repeat (first | refine blk_drewN ?_ _ | refine blk_drew ?_ | refine blk_alloc ?_ _)); exact BK409.out⟩, ⟨by repeat (first | (with_reducible first | exact HB.out | apply below_alloc | apply pw_below_drewN | apply below_drew1 | refine below_set ?_ GE404.out | refine below_set ?_ GE405.out | refine below_set ?_ GE406.out | refine below_set ?_ GE407.out | refine below_set ?_ GE409.out | refine below_set ?_ GE411.out) | exact HB.out)⟩⟩
           · rw [if_neg c58] at H
             exact absurd H (by simp)
         · rw [if_neg c57] at H
           exact absurd H (by simp)
       · rw [if_neg c56] at H
         have c56b0 : decide (x38_2 < (l0_6.length : Int)) = false := decide_eq_false c56
         clear c56
         have H' := Aside0.mk H
         clear H
         refine ne2_ NB404_405 fun hnb87 hnc87 => ?_
         refine ne2_ NB404_406 fun hnb88 hnc88 => ?_
         refine ne2_ NB404_407 fun hnb89 hnc89 => ?_
         refine ne2_ NB404_409 fun hnb90 hnc90 => ?_
         refine blk9_ BK404.out fun hcz91_0 hcz91_1 hcz91_2 hcz91_3 hcz91_4 hcz91_5 hcz91_6 hcz91_7 hcz91_8 hfz91_0 hfz91_1 hfz91_2 hfz91_3 hfz91_4 hfz91_5 hfz91_6 hfz91_7 hfz91_8 => ?_
         go_wp2
         go_loopg [56] k2 (fun kq v56 w' => ∃ (x56_3 : Int) (x410007_3 : List (S40)) (u410007 : Value), v56 = .int .i64 x56_3 ∧ Aside0 (command_Part.l1 kq l0_7 (l0_7.length : Int) x56_3 a1 a2 a0_0 a0_1 a0_2 a0_3 a0_4 a0_5 x410006_2 x410007_3 a0_8 = some (r1, r2, r3, r4, r5, r6, r7, r8, r9, r10)) ∧ Aside0 (kq ≤ k2) ∧ Aside0 (Kd.R k38 38 w' w.heap.size (fun _ => True) u410006 x410006_2) ∧ Aside0 (Kd.R k40 40 w' w.heap.size (fun _ => True) u410007 x410007_3) ∧ Aside0 (w'.heap[gb404]? = some (.cells #[.int .i64 a0_0, .int .i64 a0_1, .int .i64 a0_2, .int .i64 a0_3, .int .i64 a0_4, .int .i64 a0_5, (.slice A0_6 l0_6.length c0_6), (.slice A0_7 l0_7.length c0_7), .bool a0_8] 29 (0, 0))) ∧ Aside0 (w'.heap[gb405]? = some (.cells #[.int .i64 a1] 3 (0, 0))) ∧ Aside0 (w'.heap[gb406]? = some (.cells #[.int .i64 a2] 3 (0, 0))) ∧ Aside0 (w'.heap[gb407]? = some (.cells #[.int .i64 0, .int .i64 0, .int .i64 0, .int .i64 0, .int .i64 0, .int .i64 0, (.slice none 0 0), (.slice none 0 0), .bool false] 29 (0, 0))) ∧ Aside0 (w'.heap[gb409]? = some (.cells #[.int .i64 a0_0, .int .i64 a0_1, .int .i64 a0_2, .int .i64 a0_3, .int .i64 a0_4, .int .i64 a0_5, u410006, u410007, .bool a0_8] 29 (0, 0))) ∧ Aside0 (Below w.heap.size w w'))
         case atStart => exact ⟨(0), (([] : List (S40))), (.slice none 0 0), sm_, H', ⟨Nat.le_refl _⟩, ⟨kr_ HO_410006.out⟩, ⟨by first | exact Kd.R_nil _ _ _ _ _ | exact Kd.N_nil _ _ _ _ _ | exact Kd.V_nil _ _ _ _ _ | exact Kd.Q_nil _ _ _ _ _ | exact Kd.S_nil _ _ _ _ _⟩, ⟨by (with_reducible repeat (first | refine blk_drewN ?_ _ | refine blk_drew ?_ | refine blk_alloc ?_ _)); exact BK404.out⟩, ⟨by (with_reducible repeat (first | refine blk_drewN ?_ _ | refine blk_drew ?_ | refine blk_alloc ?_ _)); exact BK405.out⟩, ⟨by (with_reducible repeat (first | refine blk_drewN ?_ _ | refine blk_drew ?_ | refine blk_alloc ?_ _)); exact BK406.out⟩, ⟨by (with_reducible repeat (first | refine blk_drewN ?_ _ | refine blk_drew ?_ | refine blk_alloc ?_ _)); exact BK407.out⟩, ⟨by (with_reducible repeat (first | refine blk_drewN ?_ _ | refine blk_drew ?_ | refine blk_alloc ?_ _)); exact BK409.out⟩, ⟨by repeat (first | (with_reducible first | exact HB.out | apply below_alloc | apply pw_below_drewN | apply below_drew1 | refine below_set ?_ GE404.out | refine below_set ?_ GE405.out | refine below_set ?_ GE406.out | refine below_set ?_ GE407.out | refine below_set ?_ GE409.out) | exact HB.out)⟩⟩
         case round =>
          clear H'
          try clear c1
          try clear c2
          try clear p2
          try clear c3
          try clear c4
          try clear p4
          try clear q4
          try clear hx4
          try clear c5
          try clear c6
          try clear p6
          try clear c7
          try clear c8
          try clear c9
          try clear c10
          try clear c11
          try clear c11b0
          try clear c11b1
          try clear c14
          try clear c15
          try clear c16
          try clear c18
          try clear c18b0
          try clear c21
          try clear c22
          try clear c23
          try clear c25
          try clear c26
          try clear c30
          try clear c31
          try clear c32
          try clear c34
          try clear c35
          try clear c39
          try clear c40
          try clear c41
          try clear p41
          try clear q41
          try clear hx41
          try clear c42
          try clear c47
          try clear c48
          try clear c49
          try clear c50
          try clear c52
          try clear c53
          try clear c54
          try clear c56
          try clear c56b0
          try clear c57
          try clear c57b0
          try clear c58
          try clear c58b0
          try clear c60
          try clear c61
          try clear c63
          try clear c64
          try clear p64
          try clear c65
          try clear c66
          try clear c67
          try clear c70
          try clear c71
          try clear c72
          try clear c73
          try clear c80
          try clear c81
          try clear c82
          try clear c83
          try clear c84
          try clear c87
          try clear c88
          try clear c89
          try clear c90
          try clear hcz17_0 hcz17_1 hcz17_2 hcz17_3 hcz17_4 hcz17_5 hcz17_6 hcz17_7 hcz17_8
          try clear hcz24_0 hcz24_1 hcz24_2 hcz24_3 hcz24_4 hcz24_5 hcz24_6 hcz24_7 hcz24_8
          try clear hcz27_0
          try clear hcz33_0 hcz33_1 hcz33_2 hcz33_3 hcz33_4 hcz33_5 hcz33_6 hcz33_7 hcz33_8
          try clear hcz36_0
          try clear hcz43_0 hcz43_1 hcz43_2 hcz43_3 hcz43_4 hcz43_5 hcz43_6 hcz43_7 hcz43_8
          try clear hcz51_0 hcz51_1 hcz51_2 hcz51_3 hcz51_4 hcz51_5 hcz51_6 hcz51_7 hcz51_8
          try clear hcz55_0 hcz55_1 hcz55_2 hcz55_3 hcz55_4 hcz55_5 hcz55_6 hcz55_7 hcz55_8
          try clear hcz68_0 hcz68_1 hcz68_2
          try clear hcz74_0 hcz74_1 hcz74_2 hcz74_3 hcz74_4 hcz74_5 hcz74_6 hcz74_7 hcz74_8
          try clear hcz75_0 hcz75_1 hcz75_2
          try clear hcz78_0 hcz78_1 hcz78_2 hcz78_3 hcz78_4 hcz78_5 hcz78_6 hcz78_7 hcz78_8
          try clear hcz85_0 hcz85_1 hcz85_2
          try clear hcz91_0 hcz91_1 hcz91_2 hcz91_3 hcz91_4 hcz91_5 hcz91_6 hcz91_7 hcz91_8
          try clear hfz17_0 hfz17_1 hfz17_2 hfz17_3 hfz17_4 hfz17_5 hfz17_6 hfz17_7 hfz17_8
          try clear hfz24_0 hfz24_1 hfz24_2 hfz24_3 hfz24_4 hfz24_5 hfz24_6 hfz24_7 hfz24_8
          try clear hfz27_0
          try clear hfz33_0 hfz33_1 hfz33_2 hfz33_3 hfz33_4 hfz33_5 hfz33_6 hfz33_7 hfz33_8
          try clear hfz36_0
          try clear hfz43_0 hfz43_1 hfz43_2 hfz43_3 hfz43_4 hfz43_5 hfz43_6 hfz43_7 hfz43_8
          try clear hfz51_0 hfz51_1 hfz51_2 hfz51_3 hfz51_4 hfz51_5 hfz51_6 hfz51_7 hfz51_8
          try clear hfz55_0 hfz55_1 hfz55_2 hfz55_3 hfz55_4 hfz55_5 hfz55_6 hfz55_7 hfz55_8
          try clear hfz68_0 hfz68_1 hfz68_2
          try clear hfz74_0 hfz74_1 hfz74_2 hfz74_3 hfz74_4 hfz74_5 hfz74_6 hfz74_7 hfz74_8
          try clear hfz75_0 hfz75_1 hfz75_2
          try clear hfz78_0 hfz78_1 hfz78_2 hfz78_3 hfz78_4 hfz78_5 hfz78_6 hfz78_7 hfz78_8
          try clear hfz85_0 hfz85_1 hfz85_2
          try clear hfz91_0 hfz91_1 hfz91_2 hfz91_3 hfz91_4 hfz91_5 hfz91_6 hfz91_7 hfz91_8
          try clear hx410_0
          try clear hx410_1
          try clear hx410_2
          try clear p2
          try clear p410
          try clear q410
          (try clear BK404); (try clear BK405); (try clear BK406); (try clear BK407); (try clear BK409)
          obtain ⟨x56_3, x410007_3, u410007, rfl, HA, HK3, HO_410006, HO_410007, BK404, BK405, BK406, BK407, BK409, HB⟩ := hrel
          cases gk with
          | zero => exact absurd HA.out (by simp [command_Part.l1])
          | succ k3 =>
           have H := HA.out
           clear HA
           simp only [command_Part.l1] at H
           by_cases c92 : x56_3 < (l0_7.length : Int)
           · rw [if_pos c92] at H
             have c92b0 : decide (x56_3 < (l0_7.length : Int)) = true := decide_eq_true c92
             clear c92
             by_cases c93 : 0 ≤ x56_3
             · rw [if_pos c93] at H
               have c93b0 : decide (0 ≤ x56_3) = true := decide_eq_true c93
               clear c93
               by_cases c94 : x56_3 < (l0_7.length : Int)
               · rw [if_pos c94] at H
                 have c94b0 : decide (x56_3 < (l0_7.length : Int)) = true := decide_eq_true c94
                 clear c94
                 obtain ⟨t418, A95, H⟩ := bs_ H
                 by_cases c96 : t418 = true
                 · subst c96
                   rw [if_pos rfl] at H
                   by_cases c97 : x410007_3.length < 4398046511104
                   · rw [if_pos c97] at H
                     have LMc97 := Aside0.mk c97
                     clear c97
                     obtain ⟨y419, hy419⟩ : ∃ y_ : List (S40), y_ = (x410007_3 ++ [(⟨(rd_T40 l0_7 x56_3).f0, (rd_T40 l0_7 x56_3).f1⟩ : S40)]) := ⟨_, rfl⟩
                     replace H : (command_Part.l1 k3 l0_7 (l0_7.length : Int) (wrap64 (x56_3 + 1)) a1 a2 a0_0 a0_1 a0_2 a0_3 a0_4 a0_5 x410006_2 y419 a0_8) = some (r1, r2, r3, r4, r5, r6, r7, r8, r9, r10) := by first | (rw [hy419]; with_reducible exact H) | (have H2_ := (Option.bind_some _ _).symm.trans H; rw [hy419]; with_reducible exact H2_) | (have H2_ := (Option.bind_some _ _).symm.trans H; with_reducible exact H2_) | with_reducible exact H | (rw [hy419]; exact H) | exact H
                     have Ny419 := Aside0.mk hy419
                     clear hy419
                     have H' := Aside0.mk H
                     clear H
                     have p416 : 0 ≤ (x56_3 : Int) := of_decide_eq_true (by first | (with_reducible assumption) | assumption)
                     have q416 : x56_3 < (l0_7.length : Int) := of_decide_eq_true (by first | (with_reducible assumption) | assumption)
                     obtain ⟨ad416, e416, hx416_0, hx416_1⟩ := at_T40 HR0_7.out x56_3 p416 q416
                     cases e416
                     replace hx416_0 := (HB.out.cell (World.block_lt_of_cell? w _ hx416_0)).trans hx416_0
                     replace hx416_1 := (HB.out.cell (World.block_lt_of_cell? w _ hx416_1)).trans hx416_1
                     replace p416 := eq_true p416
                     replace q416 := eq_true q416
                     go_wp2_with (first | ((with_reducible refine gate_dst (N := 13) rfl ?_); refine bx_ 13 40 #[.string (⟨#[]⟩ : ByteArray), .string (⟨#[]⟩ : ByteArray)] ?_; intro gb417 hg w98 hbox hb; have BK417 := Aside0.mk hbox; have GE417 := ge_ HB hg; have NB404_417 := na_ hg BK404; have NB417_404 := nb_ hg BK404; have NB405_417 := na_ hg BK405; have NB417_405 := nb_ hg BK405; have NB406_417 := na_ hg BK406; have NB417_406 := nb_ hg BK406; have NB407_417 := na_ hg BK407; have NB417_407 := nb_ hg BK407; have NB409_417 := na_ hg BK409; have NB417_409 := nb_ hg BK409; replace HO_410006 := rb_ HO_410006 hb; replace HO_410007 := re_ HO_410007 hg hb; replace BK404 := bb_ BK404 hb; replace BK405 := bb_ BK405 hb; replace BK406 := bb_ BK406 hb; replace BK407 := bb_ BK407 hb; replace BK409 := bb_ BK409 hb; replace HB := hs_ HB hb; clear hb hbox hg; refine ne2_ NB417_404 fun hnb99 hnc99 => ?_; refine ne2_ NB417_405 fun hnb100 hnc100 => ?_; refine ne2_ NB417_406 fun hnb101 hnc101 => ?_; refine ne2_ NB417_407 fun hnb102 hnc102 => ?_; refine ne2_ NB417_409 fun hnb103 hnc103 => ?_; refine blk2_ BK417.out fun hcz104_0 hcz104_1 hfz104_0 hfz104_1 => ?_) | (go_at_call 34; (with_reducible refine (command_Part_1.calls ((rd_T40 l0_7 x56_3).f0) a2 a1 true _ ?side1 ?side2 A95.out).mono ?_); (case side1 => exact CapC.mk (bo_ BK406) rfl); (case side2 => exact CapC.mk (bo_ BK405) rfl); rintro e w105 ⟨rfl, hb⟩; replace HO_410006 := Aside0.mk (Kd.R_below (by (with_reducible repeat (first | apply Kd.R_alloc | apply Kd.R_drewN | apply Kd.R_drew)); exact (Kd.R_mono (Kd.R_far (p := ⟨gb417, 1, none⟩) (Kd.R_far (p := ⟨gb417, 0, none⟩) (Kd.R_types HO_410006.out BK417.out (by decide)) (fun _ hk => hk.2) (.string ((rd_T40 l0_7 x56_3).f0))) (fun _ hk => hk.2) (.string ((rd_T40 l0_7 x56_3).f1))) (fun _ h_ => h_.1))) hb); replace HO_410007 := Aside0.mk (Kd.R_below (by (with_reducible repeat (first | apply Kd.R_alloc | apply Kd.R_drewN | apply Kd.R_drew)); exact (Kd.R_mono (Kd.R_far (p := ⟨gb417, 1, none⟩) (Kd.R_far (p := ⟨gb417, 0, none⟩) (Kd.R_mono HO_410007.out (fun k_ hk => (⟨hk, hk.2⟩ : _ ∧ k_ ≠ gb417))) (fun _ hk => hk.2) (.string ((rd_T40 l0_7 x56_3).f0))) (fun _ hk => hk.2) (.string ((rd_T40 l0_7 x56_3).f1))) (fun _ h_ => h_.1))) hb); replace BK404 := bf_ BK404 hb; replace BK405 := bf_ BK405 hb; replace BK406 := bf_ BK406 hb; replace BK407 := bf_ BK407 hb; replace BK409 := bf_ BK409 hb; replace BK417 := Aside0.mk (blk_below (g := gb417) (o := .cells #[.string ((rd_T40 l0_7 x56_3).f0), .string ((rd_T40 l0_7 x56_3).f1)] 40 (0, 0)) (by (with_reducible repeat (first | refine blk_drewN ?_ _ | refine blk_drew ?_ | refine blk_alloc ?_ _)); refine blk_put (cs := #[.string ((rd_T40 l0_7 x56_3).f0), .string (⟨#[]⟩ : ByteArray)]) ?_ 1 _ rfl; (with_reducible repeat (first | refine blk_drewN ?_ _ | refine blk_drew ?_ | refine blk_alloc ?_ _)); refine blk_put (cs := #[.string (⟨#[]⟩ : ByteArray), .string (⟨#[]⟩ : ByteArray)]) ?_ 0 _ rfl; (with_reducible repeat (first | refine blk_drewN ?_ _ | refine blk_drew ?_ | refine blk_alloc ?_ _)); exact BK417.out) hb); replace HB := hs_ HB hb; (try clear hb); (try clear hk); refine ne2_ NB409_404 fun hnb106 hnc106 => ?_; refine ne2_ NB409_405 fun hnb107 hnc107 => ?_; refine ne2_ NB409_406 fun hnb108 hnc108 => ?_; refine ne2_ NB409_407 fun hnb109 hnc109 => ?_; refine blk9_ BK409.out fun hcz110_0 hcz110_1 hcz110_2 hcz110_3 hcz110_4 hcz110_5 hcz110_6 hcz110_7 hcz110_8 hfz110_0 hfz110_1 hfz110_2 hfz110_3 hfz110_4 hfz110_5 hfz110_6 hfz110_7 hfz110_8 => ?_; refine blk2_ BK417.out fun hcz111_0 hcz111_1 hfz111_0 hfz111_1 => ?_) | ((with_reducible refine gate_builtin (b := .append) (xs := #[.tmp 65, .tmp 67]) rfl ?_); at_builtin; refine Kd.R_append k40 (w0 := w) w.heap.size rfl (.tmp 65) (.tmp 67) 27 40 (.agg #[(.string ⟨#[]⟩), (.string ⟨#[]⟩)]) 32 rfl Try.underlying27 info40 rfl (by decide) (by omega) u410007 x410007_3 (⟨(rd_T40 l0_7 x56_3).f0, (rd_T40 l0_7 x56_3).f1⟩ : S40) [.string ((rd_T40 l0_7 x56_3).f0), .string ((rd_T40 l0_7 x56_3).f1)] (fun k_ => k_ ≠ gb417) (fun _ => False) rfl rfl ?aP (fun _ hk => hk.elim) ?aF ?aO ?aB ?aS ?aL ?_; (case aP => exact k40_mkM _ _ _ (⟨(rd_T40 l0_7 x56_3).f0, (rd_T40 l0_7 x56_3).f1⟩ : S40)); (case aB => exact lbt_); (case aF => exact (fun k_ hk => Kd.freshB (g := gb417) (o := .cells #[.string ((rd_T40 l0_7 x56_3).f0), .string ((rd_T40 l0_7 x56_3).f1)] 40 (0, 0)) (kb_ BK417.out) k_ hk)); (case aO => exact (by (with_reducible repeat (first | apply Kd.R_alloc | apply Kd.R_drewN | apply Kd.R_drew)); exact Kd.R_mono HO_410007.out (fun _ hk => hk.2))); (case aS => exact (below_size lbt_)); (case aL => have := LMc97.out; omega); intro v420 w112 ho hb hg hat; rw [← Ny419.out] at ho; have n0_ := Aside0.mk (Kd.R_over' (kr_ HO_410006.out) (Kd.R_typed (kr_ HO_410007.out)) (by decide) hg); have n1_ := Aside0.mk (blk_grown (kb_ BK404.out) hg (Kd.R_ne HO_410007.out BK404.out (by decide))); have n2_ := Aside0.mk (blk_grown (kb_ BK405.out) hg (Kd.R_ne HO_410007.out BK405.out (by decide))); have n3_ := Aside0.mk (blk_grown (kb_ BK406.out) hg (Kd.R_ne HO_410007.out BK406.out (by decide))); have n4_ := Aside0.mk (blk_grown (kb_ BK407.out) hg (Kd.R_ne HO_410007.out BK407.out (by decide))); have n5_ := Aside0.mk (blk_grown (kb_ BK409.out) hg (Kd.R_ne HO_410007.out BK409.out (by decide))); have n6_ := Aside0.mk (blk_grown (kb_ BK417.out) hg (Kd.R_away HO_410007.out (fun _ hk => hk.2))); have n7_ := Aside0.mk (hb); have n8_ := Aside0.mk (ho); clear HO_410006 BK404 BK405 BK406 BK407 BK409 BK417 HB HO_410007; have HO_410006 := n0_; have BK404 := n1_; have BK405 := n2_; have BK406 := n3_; have BK407 := n4_; have BK409 := n5_; have BK417 := n6_; have HB := n7_; have HO421 := n8_; clear n0_ n1_ n2_ n3_ n4_ n5_ n6_ n7_ n8_ ho hb hg hat; obtain ⟨Ao113, co113, eo113⟩ := Kd.R_slice HO421.out; subst eo113; refine blk9_ BK409.out fun hcz114_0 hcz114_1 hcz114_2 hcz114_3 hcz114_4 hcz114_5 hcz114_6 hcz114_7 hcz114_8 hfz114_0 hfz114_1 hfz114_2 hfz114_3 hfz114_4 hfz114_5 hfz114_6 hfz114_7 hfz114_8 => ?_))
                     go_roundg k3
                     case measure => have := HJ3.out; have := HK2.out; have := HK3.out; omega
                     case rel => exact ⟨(wrap64 (x56_3 + 1)), (y419), (.slice Ao113 y419.length co113), sm_, H', ⟨by have := HJ3.out; have := HK2.out; have := HK3.out; omega⟩, ⟨by (with_reducible repeat (first | apply Kd.R_alloc | apply Kd.R_drewN | apply Kd.R_drew)); exact Kd.R_mono (Kd.R_far (p := ⟨gb409, 7, none⟩) (Kd.R_types HO_410006.out BK409.out (by decide)) (fun _ hk => hk.2) (.slice Ao113 y419.length co113)) (fun _ hk => trivial)⟩, ⟨by (with_reducible repeat (first | apply Kd.R_alloc | apply Kd.R_drewN | apply Kd.R_drew)); exact Kd.R_mono (Kd.R_far (p := ⟨gb409, 7, none⟩) (Kd.R_types HO421.out BK409.out (by decide)) (fun _ hk => hk.2) (.slice Ao113 y419.length co113)) (fun _ hk => trivial)⟩, ⟨by (with_reducible repeat (first | refine blk_drewN ?_ _ | refine blk_drew ?_ | refine blk_alloc ?_ _)); refine blk_far ?_ NB404_409.out _; (with_reducible repeat (first | refine blk_drewN ?_ _ | refine blk_drew ?_ | refine blk_alloc ?_ _)); exact BK404.out⟩, ⟨by (with_reducible repeat (first | refine blk_drewN ?_ _ | refine blk_drew ?_ | refine blk_alloc ?_ _)); refine blk_far ?_ NB405_409.out _; (with_reducible repeat (first | refine blk_drewN ?_ _ | refine blk_drew ?_ | refine blk_alloc ?_ _)); exact BK405.out⟩, ⟨by (with_reducible repeat (first | refine blk_drewN ?_ _ | refine blk_drew ?_ | refine blk_alloc ?_ _)); refine blk_far ?_ NB406_409.out _; (with_reducible repeat (first | refine blk_drewN ?_ _ | refine blk_drew ?_ | refine blk_alloc ?_ _)); exact BK406.out⟩, ⟨by (with_reducible repeat (first | refine blk_drewN ?_ _ | refine blk_drew ?_ | refine blk_alloc ?_ _)); refine blk_far ?_ NB407_409.out _; (with_reducible repeat (first | refine blk_drewN ?_ _ | refine blk_drew ?_ | refine blk_alloc ?_ _)); exact BK407.out⟩, ⟨by (with_reducible repeat (first | refine blk_drewN ?_ _ | refine blk_drew ?_ | refine blk_alloc ?_ _)); refine blk_put (cs := #[.int .i64 a0_0, .int .i64 a0_1, .int .i64 a0_2, .int .i64 a0_3, .int .i64 a0_4, .int .i64 a0_5, u410006, u410007, .bool a0_8]) ?_ 7 _ rfl; (with_reducible repeat (first | refine blk_drewN ?_ _ | refine blk_drew ?_ | refine blk_alloc ?_ _)); exact BK409.out⟩, ⟨by repeat (first | (with_reducible first | exact HB.out | apply below_alloc | apply pw_below_drewN | apply below_drew1 | refine below_set ?_ GE404.out | refine below_set ?_ GE405.out | refine below_set ?_ GE406.out | refine below_set ?_ GE407.out | refine below_set ?_ GE409.out | refine below_set ?_ GE417.out) | exact HB.out)⟩⟩
                   · rw [if_neg c97] at H
                     exact absurd H (by simp)
                 · replace c96 := Bool.eq_false_iff.mpr c96
                   subst c96
                   rw [if_neg (show ¬ (false = true) by decide)] at H
                   have H' := Aside0.mk H
                   clear H
                   have p416 : 0 ≤ (x56_3 : Int) := of_decide_eq_true (by first | (with_reducible assumption) | assumption)
                   have q416 : x56_3 < (l0_7.length : Int) := of_decide_eq_true (by first | (with_reducible assumption) | assumption)
                   obtain ⟨ad416, e416, hx416_0, hx416_1⟩ := at_T40 HR0_7.out x56_3 p416 q416
                   cases e416
                   replace hx416_0 := (HB.out.cell (World.block_lt_of_cell? w _ hx416_0)).trans hx416_0
                   replace hx416_1 := (HB.out.cell (World.block_lt_of_cell? w _ hx416_1)).trans hx416_1
                   replace p416 := eq_true p416
                   replace q416 := eq_true q416
                   go_wp2_with (first | ((with_reducible refine gate_dst (N := 13) rfl ?_); refine bx_ 13 40 #[.string (⟨#[]⟩ : ByteArray), .string (⟨#[]⟩ : ByteArray)] ?_; intro gb417 hg w115 hbox hb; have BK417 := Aside0.mk hbox; have GE417 := ge_ HB hg; have NB404_417 := na_ hg BK404; have NB417_404 := nb_ hg BK404; have NB405_417 := na_ hg BK405; have NB417_405 := nb_ hg BK405; have NB406_417 := na_ hg BK406; have NB417_406 := nb_ hg BK406; have NB407_417 := na_ hg BK407; have NB417_407 := nb_ hg BK407; have NB409_417 := na_ hg BK409; have NB417_409 := nb_ hg BK409; replace HO_410006 := rb_ HO_410006 hb; replace HO_410007 := re_ HO_410007 hg hb; replace BK404 := bb_ BK404 hb; replace BK405 := bb_ BK405 hb; replace BK406 := bb_ BK406 hb; replace BK407 := bb_ BK407 hb; replace BK409 := bb_ BK409 hb; replace HB := hs_ HB hb; clear hb hbox hg; refine ne2_ NB417_404 fun hnb116 hnc116 => ?_; refine ne2_ NB417_405 fun hnb117 hnc117 => ?_; refine ne2_ NB417_406 fun hnb118 hnc118 => ?_; refine ne2_ NB417_407 fun hnb119 hnc119 => ?_; refine ne2_ NB417_409 fun hnb120 hnc120 => ?_; refine blk2_ BK417.out fun hcz121_0 hcz121_1 hfz121_0 hfz121_1 => ?_) | (go_at_call 34; (with_reducible refine (command_Part_1.calls ((rd_T40 l0_7 x56_3).f0) a2 a1 false _ ?side1 ?side2 A95.out).mono ?_); (case side1 => exact CapC.mk (bo_ BK406) rfl); (case side2 => exact CapC.mk (bo_ BK405) rfl); rintro e w122 ⟨rfl, hb⟩; replace HO_410006 := Aside0.mk (Kd.R_below (by (with_reducible repeat (first | apply Kd.R_alloc | apply Kd.R_drewN | apply Kd.R_drew)); exact (Kd.R_mono (Kd.R_far (p := ⟨gb417, 1, none⟩) (Kd.R_far (p := ⟨gb417, 0, none⟩) (Kd.R_types HO_410006.out BK417.out (by decide)) (fun _ hk => hk.2) (.string ((rd_T40 l0_7 x56_3).f0))) (fun _ hk => hk.2) (.string ((rd_T40 l0_7 x56_3).f1))) (fun _ h_ => h_.1))) hb); replace HO_410007 := Aside0.mk (Kd.R_below (by (with_reducible repeat (first | apply Kd.R_alloc | apply Kd.R_drewN | apply Kd.R_drew)); exact (Kd.R_mono (Kd.R_far (p := ⟨gb417, 1, none⟩) (Kd.R_far (p := ⟨gb417, 0, none⟩) (Kd.R_mono HO_410007.out (fun k_ hk => (⟨hk, hk.2⟩ : _ ∧ k_ ≠ gb417))) (fun _ hk => hk.2) (.string ((rd_T40 l0_7 x56_3).f0))) (fun _ hk => hk.2) (.string ((rd_T40 l0_7 x56_3).f1))) (fun _ h_ => h_.1))) hb); replace BK404 := bf_ BK404 hb; replace BK405 := bf_ BK405 hb; replace BK406 := bf_ BK406 hb; replace BK407 := bf_ BK407 hb; replace BK409 := bf_ BK409 hb; replace BK417 := Aside0.mk (blk_below (g := gb417) (o := .cells #[.string ((rd_T40 l0_7 x56_3).f0), .string ((rd_T40 l0_7 x56_3).f1)] 40 (0, 0)) (by (with_reducible repeat (first | refine blk_drewN ?_ _ | refine blk_drew ?_ | refine blk_alloc ?_ _)); refine blk_put (cs := #[.string ((rd_T40 l0_7 x56_3).f0), .string (⟨#[]⟩ : ByteArray)]) ?_ 1 _ rfl; (with_reducible repeat (first | refine blk_drewN ?_ _ | refine blk_drew ?_ | refine blk_alloc ?_ _)); refine blk_put (cs := #[.string (⟨#[]⟩ : ByteArray), .string (⟨#[]⟩ : ByteArray)]) ?_ 0 _ rfl; (with_reducible repeat (first | refine blk_drewN ?_ _ | refine blk_drew ?_ | refine blk_alloc ?_ _)); exact BK417.out) hb); replace HB := hs_ HB hb; (try clear hb); (try clear hk); (try clear hi)))
                   go_roundg k3
                   case measure => have := HJ3.out; have := HK2.out; have := HK3.out; omega
                   case rel => exact ⟨(wrap64 (x56_3 + 1)), (x410007_3), (u410007), sm_, H', ⟨by have := HJ3.out; have := HK2.out; have := HK3.out; omega⟩, ⟨kr_ HO_410006.out⟩, ⟨kr_ (Kd.R_mono HO_410007.out (fun _ hk => trivial))⟩, ⟨by (with_reducible repeat (first | refine blk_drewN ?_ _ | refine blk_drew ?_ | refine blk_alloc ?_ _)); exact BK404.out⟩, ⟨by (with_reducible repeat (first | refine blk_drewN ?_ _ | refine blk_drew ?_ | refine blk_alloc ?_ _)); exact BK405.out⟩, ⟨by (with_reducible repeat (first | refine blk_drewN ?_ _ | refine blk_drew ?_ | refine blk_alloc ?_ _)); exact BK406.out⟩, ⟨by (with_reducible repeat (first | refine blk_drewN ?_ _ | refine blk_drew ?_ | refine blk_alloc ?_ _)); exact BK407.out⟩, ⟨by (with_reducible repeat (first | refine blk_drewN ?_ _ | refine blk_drew ?_ | refine blk_alloc ?_ _)); exact BK409.out⟩, ⟨by repeat (first | (with_reducible first | exact HB.out | apply below_alloc | apply pw_below_drewN | apply below_drew1 | refine below_set ?_ GE404.out | refine below_set ?_ GE405.out | refine below_set ?_ GE406.out | refine below_set ?_ GE407.out | refine below_set ?_ GE409.out | refine below_set ?_ GE417.out) | exact HB.out)⟩⟩
               · rw [if_neg c94] at H
                 exact absurd H (by simp)
             · rw [if_neg c93] at H
               exact absurd H (by simp)
           · rw [if_neg c92] at H
             have c92b0 : decide (x56_3 < (l0_7.length : Int)) = false := decide_eq_false c92
             clear c92
             by_cases c123 : (wrap64 ((x410006_2.length : Int) + (x410007_3.length : Int))) = 0
             · rw [if_pos c123] at H
               have c123b0 : ((wrap64 ((x410006_2.length : Int) + (x410007_3.length : Int))) == 0) = true := beq_iff_eq.mpr c123
               have c123b1 : ((wrap64 ((x410006_2.length : Int) + (x410007_3.length : Int))) != 0) = false := bne_eq_false_iff_eq.mpr c123
               clear c123
               simp only [Option.some.injEq, Prod.mk.injEq] at H
               obtain ⟨rfl, rfl, rfl, rfl, rfl, rfl, rfl, rfl, rfl, rfl⟩ := H
               refine ne2_ NB409_404 fun hnb124 hnc124 => ?_
               refine ne2_ NB409_405 fun hnb125 hnc125 => ?_
               refine ne2_ NB409_406 fun hnb126 hnc126 => ?_
               refine ne2_ NB409_407 fun hnb127 hnc127 => ?_
               refine blk9_ BK409.out fun hcz128_0 hcz128_1 hcz128_2 hcz128_3 hcz128_4 hcz128_5 hcz128_6 hcz128_7 hcz128_8 hfz128_0 hfz128_1 hfz128_2 hfz128_3 hfz128_4 hfz128_5 hfz128_6 hfz128_7 hfz128_8 => ?_
               obtain ⟨Ao129, co129, eo129⟩ := Kd.R_slice HO_410006.out
               subst eo129
               obtain ⟨Ao130, co130, eo130⟩ := Kd.R_slice HO_410007.out
               subst eo130
               refine ne2_ NB407_404 fun hnb131 hnc131 => ?_
               refine ne2_ NB407_405 fun hnb132 hnc132 => ?_
               refine ne2_ NB407_406 fun hnb133 hnc133 => ?_
               refine blk9_ BK407.out fun hcz134_0 hcz134_1 hcz134_2 hcz134_3 hcz134_4 hcz134_5 hcz134_6 hcz134_7 hcz134_8 hfz134_0 hfz134_1 hfz134_2 hfz134_3 hfz134_4 hfz134_5 hfz134_6 hfz134_7 hfz134_8 => ?_
               go_wp2_with (first | ((with_reducible refine gate_store (t := 29) (p := 6) rfl ?_); refine store_event (t := 29) (p := 6) (v := ?vo_w135) (w1 := (((((((((wr.setCell ⟨gb407, 0, none⟩ (.int .i64 0)).setCell ⟨gb407, 1, none⟩ (.int .i64 0)).setCell ⟨gb407, 2, none⟩ (.int .i64 0)).setCell ⟨gb407, 3, none⟩ (.int .i64 0)).setCell ⟨gb407, 4, none⟩ (.int .i64 0)).setCell ⟨gb407, 5, none⟩ (.int .i64 0)).setCell ⟨gb407, 6, none⟩ (.slice none 0 0)).setCell ⟨gb407, 7, none⟩ (.slice none 0 0)).setCell ⟨gb407, 8, none⟩ (.bool false))) ?hg ?ho ?hn ?hr ?_; (case ho => rfl); (case hg => rfl); (case hn => rfl); (case hr => first | (go_simp; done) | (go_simp; rfl)); intro w135 hw; have n0_ : Aside0 (Kd.R k38 38 w135 w.heap.size (fun _ => True) (.slice Ao129 x410006_2.length co129) x410006_2) := ⟨(by rw [hw]; exact (by (with_reducible repeat (first | apply Kd.R_alloc | apply Kd.R_drewN | apply Kd.R_drew)); exact Kd.R_mono (Kd.R_far (p := ⟨gb407, 8, none⟩) (Kd.R_far (p := ⟨gb407, 7, none⟩) (Kd.R_far (p := ⟨gb407, 6, none⟩) (Kd.R_far (p := ⟨gb407, 5, none⟩) (Kd.R_far (p := ⟨gb407, 4, none⟩) (Kd.R_far (p := ⟨gb407, 3, none⟩) (Kd.R_far (p := ⟨gb407, 2, none⟩) (Kd.R_far (p := ⟨gb407, 1, none⟩) (Kd.R_far (p := ⟨gb407, 0, none⟩) (Kd.R_types HO_410006.out BK407.out (by decide)) (fun _ hk => hk.2) (.int .i64 0)) (fun _ hk => hk.2) (.int .i64 0)) (fun _ hk => hk.2) (.int .i64 0)) (fun _ hk => hk.2) (.int .i64 0)) (fun _ hk => hk.2) (.int .i64 0)) (fun _ hk => hk.2) (.int .i64 0)) (fun _ hk => hk.2) (.slice none 0 0)) (fun _ hk => hk.2) (.slice none 0 0)) (fun _ hk => hk.2) (.bool false)) (fun _ hk => trivial)))⟩; have n1_ : Aside0 (Kd.R k40 40 w135 w.heap.size (fun _ => True) (.slice Ao130 x410007_3.length co130) x410007_3) := ⟨(by rw [hw]; exact (by (with_reducible repeat (first | apply Kd.R_alloc | apply Kd.R_drewN | apply Kd.R_drew)); exact Kd.R_mono (Kd.R_far (p := ⟨gb407, 8, none⟩) (Kd.R_far (p := ⟨gb407, 7, none⟩) (Kd.R_far (p := ⟨gb407, 6, none⟩) (Kd.R_far (p := ⟨gb407, 5, none⟩) (Kd.R_far (p := ⟨gb407, 4, none⟩) (Kd.R_far (p := ⟨gb407, 3, none⟩) (Kd.R_far (p := ⟨gb407, 2, none⟩) (Kd.R_far (p := ⟨gb407, 1, none⟩) (Kd.R_far (p := ⟨gb407, 0, none⟩) (Kd.R_types HO_410007.out BK407.out (by decide)) (fun _ hk => hk.2) (.int .i64 0)) (fun _ hk => hk.2) (.int .i64 0)) (fun _ hk => hk.2) (.int .i64 0)) (fun _ hk => hk.2) (.int .i64 0)) (fun _ hk => hk.2) (.int .i64 0)) (fun _ hk => hk.2) (.int .i64 0)) (fun _ hk => hk.2) (.slice none 0 0)) (fun _ hk => hk.2) (.slice none 0 0)) (fun _ hk => hk.2) (.bool false)) (fun _ hk => trivial)))⟩; have n2_ : Aside0 (w135.heap[gb404]? = some (.cells #[.int .i64 a0_0, .int .i64 a0_1, .int .i64 a0_2, .int .i64 a0_3, .int .i64 a0_4, .int .i64 a0_5, .slice A0_6 l0_6.length c0_6, .slice A0_7 l0_7.length c0_7, .bool a0_8] 29 (0, 0))) := ⟨(by rw [hw]; exact (by (with_reducible repeat (first | refine blk_drewN ?_ _ | refine blk_drew ?_ | refine blk_alloc ?_ _)); refine blk_far ?_ NB404_407.out _; (with_reducible repeat (first | refine blk_drewN ?_ _ | refine blk_drew ?_ | refine blk_alloc ?_ _)); refine blk_far ?_ NB404_407.out _; (with_reducible repeat (first | refine blk_drewN ?_ _ | refine blk_drew ?_ | refine blk_alloc ?_ _)); refine blk_far ?_ NB404_407.out _; (with_reducible repeat (first | refine blk_drewN ?_ _ | refine blk_drew ?_ | refine blk_alloc ?_ _)); refine blk_far ?_ NB404_407.out _; (with_reducible repeat (first | refine blk_drewN ?_ _ | refine blk_drew ?_ | refine blk_alloc ?_ _)); refine blk_far ?_ NB404_407.out _; (with_reducible repeat (first | refine blk_drewN ?_ _ | refine blk_drew ?_ | refine blk_alloc ?_ _)); refine blk_far ?_ NB404_407.out _; (with_reducible repeat (first | refine blk_drewN ?_ _ | refine blk_drew ?_ | refine blk_alloc ?_ _)); refine blk_far ?_ NB404_407.out _; (with_reducible repeat (first | refine blk_drewN ?_ _ | refine blk_drew ?_ | refine blk_alloc ?_ _)); refine blk_far ?_ NB404_407.out _; (with_reducible repeat (first | refine blk_drewN ?_ _ | refine blk_drew ?_ | refine blk_alloc ?_ _)); refine blk_far ?_ NB404_407.out _; (with_reducible repeat (first | refine blk_drewN ?_ _ | refine blk_drew ?_ | refine blk_alloc ?_ _)); exact BK404.out))⟩; have n3_ : Aside0 (w135.heap[gb405]? = some (.cells #[.int .i64 a1] 3 (0, 0))) := ⟨(by rw [hw]; exact (by (with_reducible repeat (first | refine blk_drewN ?_ _ | refine blk_drew ?_ | refine blk_alloc ?_ _)); refine blk_far ?_ NB405_407.out _; (with_reducible repeat (first | refine blk_drewN ?_ _ | refine blk_drew ?_ | refine blk_alloc ?_ _)); refine blk_far ?_ NB405_407.out _; (with_reducible repeat (first | refine blk_drewN ?_ _ | refine blk_drew ?_ | refine blk_alloc ?_ _)); refine blk_far ?_ NB405_407.out _; (with_reducible repeat (first | refine blk_drewN ?_ _ | refine blk_drew ?_ | refine blk_alloc ?_ _)); refine blk_far ?_ NB405_407.out _; (with_reducible repeat (first | refine blk_drewN ?_ _ | refine blk_drew ?_ | refine blk_alloc ?_ _)); refine blk_far ?_ NB405_407.out _; (with_reducible repeat (first | refine blk_drewN ?_ _ | refine blk_drew ?_ | refine blk_alloc ?_ _)); refine blk_far ?_ NB405_407.out _; (with_reducible repeat (first | refine blk_drewN ?_ _ | refine blk_drew ?_ | refine blk_alloc ?_ _)); refine blk_far ?_ NB405_407.out _; (with_reducible repeat (first | refine blk_drewN ?_ _ | refine blk_drew ?_ | refine blk_alloc ?_ _)); refine blk_far ?_ NB405_407.out _; (with_reducible repeat (first | refine blk_drewN ?_ _ | refine blk_drew ?_ | refine blk_alloc ?_ _)); refine blk_far ?_ NB405_407.out _; (with_reducible repeat (first | refine blk_drewN ?_ _ | refine blk_drew ?_ | refine blk_alloc ?_ _)); exact BK405.out))⟩; have n4_ : Aside0 (w135.heap[gb406]? = some (.cells #[.int .i64 a2] 3 (0, 0))) := ⟨(by rw [hw]; exact (by (with_reducible repeat (first | refine blk_drewN ?_ _ | refine blk_drew ?_ | refine blk_alloc ?_ _)); refine blk_far ?_ NB406_407.out _; (with_reducible repeat (first | refine blk_drewN ?_ _ | refine blk_drew ?_ | refine blk_alloc ?_ _)); refine blk_far ?_ NB406_407.out _; (with_reducible repeat (first | refine blk_drewN ?_ _ | refine blk_drew ?_ | refine blk_alloc ?_ _)); refine blk_far ?_ NB406_407.out _; (with_reducible repeat (first | refine blk_drewN ?_ _ | refine blk_drew ?_ | refine blk_alloc ?_ _)); refine blk_far ?_ NB406_407.out _; (with_reducible repeat (first | refine blk_drewN ?_ _ | refine blk_drew ?_ | refine blk_alloc ?_ _)); refine blk_far ?_ NB406_407.out _; (with_reducible repeat (first | refine blk_drewN ?_ _ | refine blk_drew ?_ | refine blk_alloc ?_ _)); refine blk_far ?_ NB406_407.out _; (with_reducible repeat (first | refine blk_drewN ?_ _ | refine blk_drew ?_ | refine blk_alloc ?_ _)); refine blk_far ?_ NB406_407.out _; (with_reducible repeat (first | refine blk_drewN ?_ _ | refine blk_drew ?_ | refine blk_alloc ?_ _)); refine blk_far ?_ NB406_407.out _; (with_reducible repeat (first | refine blk_drewN ?_ _ | refine blk_drew ?_ | refine blk_alloc ?_ _)); refine blk_far ?_ NB406_407.out _; (with_reducible repeat (first | refine blk_drewN ?_ _ | refine blk_drew ?_ | refine blk_alloc ?_ _)); exact BK406.out))⟩; have n5_ : Aside0 (w135.heap[gb407]? = some (.cells #[.int .i64 0, .int .i64 0, .int .i64 0, .int .i64 0, .int .i64 0, .int .i64 0, .slice none 0 0, .slice none 0 0, .bool false] 29 (0, 0))) := ⟨(by rw [hw]; exact (by (with_reducible repeat (first | refine blk_drewN ?_ _ | refine blk_drew ?_ | refine blk_alloc ?_ _)); refine blk_put (cs := #[.int .i64 0, .int .i64 0, .int .i64 0, .int .i64 0, .int .i64 0, .int .i64 0, .slice none 0 0, .slice none 0 0, .bool false]) ?_ 8 _ rfl; (with_reducible repeat (first | refine blk_drewN ?_ _ | refine blk_drew ?_ | refine blk_alloc ?_ _)); refine blk_put (cs := #[.int .i64 0, .int .i64 0, .int .i64 0, .int .i64 0, .int .i64 0, .int .i64 0, .slice none 0 0, .slice none 0 0, .bool false]) ?_ 7 _ rfl; (with_reducible repeat (first | refine blk_drewN ?_ _ | refine blk_drew ?_ | refine blk_alloc ?_ _)); refine blk_put (cs := #[.int .i64 0, .int .i64 0, .int .i64 0, .int .i64 0, .int .i64 0, .int .i64 0, .slice none 0 0, .slice none 0 0, .bool false]) ?_ 6 _ rfl; (with_reducible repeat (first | refine blk_drewN ?_ _ | refine blk_drew ?_ | refine blk_alloc ?_ _)); refine blk_put (cs := #[.int .i64 0, .int .i64 0, .int .i64 0, .int .i64 0, .int .i64 0, .int .i64 0, .slice none 0 0, .slice none 0 0, .bool false]) ?_ 5 _ rfl; (with_reducible repeat (first | refine blk_drewN ?_ _ | refine blk_drew ?_ | refine blk_alloc ?_ _)); refine blk_put (cs := #[.int .i64 0, .int .i64 0, .int .i64 0, .int .i64 0, .int .i64 0, .int .i64 0, .slice none 0 0, .slice none 0 0, .bool false]) ?_ 4 _ rfl; (with_reducible repeat (first | refine blk_drewN ?_ _ | refine blk_drew ?_ | refine blk_alloc ?_ _)); refine blk_put (cs := #[.int .i64 0, .int .i64 0, .int .i64 0, .int .i64 0, .int .i64 0, .int .i64 0, .slice none 0 0, .slice none 0 0, .bool false]) ?_ 3 _ rfl; (with_reducible repeat (first | refine blk_drewN ?_ _ | refine blk_drew ?_ | refine blk_alloc ?_ _)); refine blk_put (cs := #[.int .i64 0, .int .i64 0, .int .i64 0, .int .i64 0, .int .i64 0, .int .i64 0, .slice none 0 0, .slice none 0 0, .bool false]) ?_ 2 _ rfl; (with_reducible repeat (first | refine blk_drewN ?_ _ | refine blk_drew ?_ | refine blk_alloc ?_ _)); refine blk_put (cs := #[.int .i64 0, .int .i64 0, .int .i64 0, .int .i64 0, .int .i64 0, .int .i64 0, .slice none 0 0, .slice none 0 0, .bool false]) ?_ 1 _ rfl; (with_reducible repeat (first | refine blk_drewN ?_ _ | refine blk_drew ?_ | refine blk_alloc ?_ _)); refine blk_put (cs := #[.int .i64 0, .int .i64 0, .int .i64 0, .int .i64 0, .int .i64 0, .int .i64 0, .slice none 0 0, .slice none 0 0, .bool false]) ?_ 0 _ rfl; (with_reducible repeat (first | refine blk_drewN ?_ _ | refine blk_drew ?_ | refine blk_alloc ?_ _)); exact BK407.out))⟩; have n6_ : Aside0 (w135.heap[gb409]? = some (.cells #[.int .i64 a0_0, .int .i64 a0_1, .int .i64 a0_2, .int .i64 a0_3, .int .i64 a0_4, .int .i64 a0_5, .slice Ao129 x410006_2.length co129, .slice Ao130 x410007_3.length co130, .bool a0_8] 29 (0, 0))) := ⟨(by rw [hw]; exact (by (with_reducible repeat (first | refine blk_drewN ?_ _ | refine blk_drew ?_ | refine blk_alloc ?_ _)); refine blk_far ?_ NB409_407.out _; (with_reducible repeat (first | refine blk_drewN ?_ _ | refine blk_drew ?_ | refine blk_alloc ?_ _)); refine blk_far ?_ NB409_407.out _; (with_reducible repeat (first | refine blk_drewN ?_ _ | refine blk_drew ?_ | refine blk_alloc ?_ _)); refine blk_far ?_ NB409_407.out _; (with_reducible repeat (first | refine blk_drewN ?_ _ | refine blk_drew ?_ | refine blk_alloc ?_ _)); refine blk_far ?_ NB409_407.out _; (with_reducible repeat (first | refine blk_drewN ?_ _ | refine blk_drew ?_ | refine blk_alloc ?_ _)); refine blk_far ?_ NB409_407.out _; (with_reducible repeat (first | refine blk_drewN ?_ _ | refine blk_drew ?_ | refine blk_alloc ?_ _)); refine blk_far ?_ NB409_407.out _; (with_reducible repeat (first | refine blk_drewN ?_ _ | refine blk_drew ?_ | refine blk_alloc ?_ _)); refine blk_far ?_ NB409_407.out _; (with_reducible repeat (first | refine blk_drewN ?_ _ | refine blk_drew ?_ | refine blk_alloc ?_ _)); refine blk_far ?_ NB409_407.out _; (with_reducible repeat (first | refine blk_drewN ?_ _ | refine blk_drew ?_ | refine blk_alloc ?_ _)); refine blk_far ?_ NB409_407.out _; (with_reducible repeat (first | refine blk_drewN ?_ _ | refine blk_drew ?_ | refine blk_alloc ?_ _)); exact BK409.out))⟩; have n7_ : Aside0 (Below w.heap.size w w135) := ⟨(by rw [hw]; exact lbt_)⟩; clear hw HO_410006 HO_410007 BK404 BK405 BK406 BK407 BK409 HB; have HO_410006 := n0_; have HO_410007 := n1_; have BK404 := n2_; have BK405 := n3_; have BK406 := n4_; have BK407 := n5_; have BK409 := n6_; have HB := n7_; clear n0_ n1_ n2_ n3_ n4_ n5_ n6_ n7_))
               refine bodyPost_ret (results_ct rfl _ _ gb407 29 #[.int .i64 0, .int .i64 0, .int .i64 0, .int .i64 0, .int .i64 0, .int .i64 0, .slice none 0 0, .slice none 0 0, .bool false] (0, 0) _ rfl (kb_ BK407.out) Try.underlying29 rfl (by kernel_rfl)) rfl ?_
               exact ⟨_, _, by first | rfl | (simp [errW_none, errW_some] <;> rfl) | (simp [*, errW_none, errW_some] <;> rfl), by first | exact Kd.R_nil _ _ _ _ _ | exact Kd.N_nil _ _ _ _ _ | exact Kd.V_nil _ _ _ _ _ | exact Kd.Q_nil _ _ _ _ _ | exact Kd.S_nil _ _ _ _ _, by first | exact Kd.R_nil _ _ _ _ _ | exact Kd.N_nil _ _ _ _ _ | exact Kd.V_nil _ _ _ _ _ | exact Kd.Q_nil _ _ _ _ _ | exact Kd.S_nil _ _ _ _ _, by repeat (first | (with_reducible first | exact HB.out | apply below_alloc | apply pw_below_drewN | apply below_drew1 | refine below_set ?_ GE404.out | refine below_set ?_ GE405.out | refine below_set ?_ GE406.out | refine below_set ?_ GE407.out | refine below_set ?_ GE409.out) | exact HB.out)⟩
             · rw [if_neg c123] at H
               have c123b0 : ((wrap64 ((x410006_2.length : Int) + (x410007_3.length : Int))) == 0) = false := beq_eq_false_iff_ne.mpr c123
               have c123b1 : ((wrap64 ((x410006_2.length : Int) + (x410007_3.length : Int))) != 0) = true := bne_iff_ne.mpr c123
               simp only [Option.some.injEq, Prod.mk.injEq] at H
               obtain ⟨rfl, rfl, rfl, rfl, rfl, rfl, rfl, rfl, rfl, rfl⟩ := H
               refine ne2_ NB409_404 fun hnb136 hnc136 => ?_
               refine ne2_ NB409_405 fun hnb137 hnc137 => ?_
               refine ne2_ NB409_406 fun hnb138 hnc138 => ?_
               refine ne2_ NB409_407 fun hnb139 hnc139 => ?_
               refine blk9_ BK409.out fun hcz140_0 hcz140_1 hcz140_2 hcz140_3 hcz140_4 hcz140_5 hcz140_6 hcz140_7 hcz140_8 hfz140_0 hfz140_1 hfz140_2 hfz140_3 hfz140_4 hfz140_5 hfz140_6 hfz140_7 hfz140_8 => ?_
               obtain ⟨Ao141, co141, eo141⟩ := Kd.R_slice HO_410006.out
               subst eo141
               obtain ⟨Ao142, co142, eo142⟩ := Kd.R_slice HO_410007.out
               subst eo142
               refine ne2_ NB407_404 fun hnb144 hnc144 => ?_
               refine ne2_ NB407_405 fun hnb145 hnc145 => ?_
               refine ne2_ NB407_406 fun hnb146 hnc146 => ?_
               refine blk9_ BK407.out fun hcz147_0 hcz147_1 hcz147_2 hcz147_3 hcz147_4 hcz147_5 hcz147_6 hcz147_7 hcz147_8 hfz147_0 hfz147_1 hfz147_2 hfz147_3 hfz147_4 hfz147_5 hfz147_6 hfz147_7 hfz147_8 => ?_
               go_wp2_with (first | ((with_reducible refine gate_dst (N := 80) rfl ?_); (try (refine gate_guard (by rfl) ?_; dsimp only)); refine bl_ 80 BK409.out ⟨_, Try.underlying29, rfl⟩ ?_) | ((with_reducible refine gate_store (t := 29) (p := 6) rfl ?_); refine store_event (t := 29) (p := 6) (v := ?vo_w148) (w1 := (((((((((wr.setCell ⟨gb407, 0, none⟩ (.int .i64 a0_0)).setCell ⟨gb407, 1, none⟩ (.int .i64 a0_1)).setCell ⟨gb407, 2, none⟩ (.int .i64 a0_2)).setCell ⟨gb407, 3, none⟩ (.int .i64 a0_3)).setCell ⟨gb407, 4, none⟩ (.int .i64 a0_4)).setCell ⟨gb407, 5, none⟩ (.int .i64 a0_5)).setCell ⟨gb407, 6, none⟩ (.slice Ao141 x410006_2.length co141)).setCell ⟨gb407, 7, none⟩ (.slice Ao142 x410007_3.length co142)).setCell ⟨gb407, 8, none⟩ (.bool a0_8))) ?hg ?ho ?hn ?hr ?_; (case ho => rfl); (case hg => rfl); (case hn => rfl); (case hr => first | (go_simp; done) | (go_simp; rfl)); intro w148 hw; have n0_ : Aside0 (Kd.R k38 38 w148 w.heap.size (fun _ => True) (.slice Ao141 x410006_2.length co141) x410006_2) := ⟨(by rw [hw]; exact (by (with_reducible repeat (first | apply Kd.R_alloc | apply Kd.R_drewN | apply Kd.R_drew)); exact Kd.R_mono (Kd.R_far (p := ⟨gb407, 8, none⟩) (Kd.R_far (p := ⟨gb407, 7, none⟩) (Kd.R_far (p := ⟨gb407, 6, none⟩) (Kd.R_far (p := ⟨gb407, 5, none⟩) (Kd.R_far (p := ⟨gb407, 4, none⟩) (Kd.R_far (p := ⟨gb407, 3, none⟩) (Kd.R_far (p := ⟨gb407, 2, none⟩) (Kd.R_far (p := ⟨gb407, 1, none⟩) (Kd.R_far (p := ⟨gb407, 0, none⟩) (Kd.R_types HO_410006.out BK407.out (by decide)) (fun _ hk => hk.2) (.int .i64 a0_0)) (fun _ hk => hk.2) (.int .i64 a0_1)) (fun _ hk => hk.2) (.int .i64 a0_2)) (fun _ hk => hk.2) (.int .i64 a0_3)) (fun _ hk => hk.2) (.int .i64 a0_4)) (fun _ hk => hk.2) (.int .i64 a0_5)) (fun _ hk => hk.2) (.slice Ao141 x410006_2.length co141)) (fun _ hk => hk.2) (.slice Ao142 x410007_3.length co142)) (fun _ hk => hk.2) (.bool a0_8)) (fun _ hk => trivial)))⟩; have n1_ : Aside0 (Kd.R k40 40 w148 w.heap.size (fun _ => True) (.slice Ao142 x410007_3.length co142) x410007_3) := ⟨(by rw [hw]; exact (by (with_reducible repeat (first | apply Kd.R_alloc | apply Kd.R_drewN | apply Kd.R_drew)); exact Kd.R_mono (Kd.R_far (p := ⟨gb407, 8, none⟩) (Kd.R_far (p := ⟨gb407, 7, none⟩) (Kd.R_far (p := ⟨gb407, 6, none⟩) (Kd.R_far (p := ⟨gb407, 5, none⟩) (Kd.R_far (p := ⟨gb407, 4, none⟩) (Kd.R_far (p := ⟨gb407, 3, none⟩) (Kd.R_far (p := ⟨gb407, 2, none⟩) (Kd.R_far (p := ⟨gb407, 1, none⟩) (Kd.R_far (p := ⟨gb407, 0, none⟩) (Kd.R_types HO_410007.out BK407.out (by decide)) (fun _ hk => hk.2) (.int .i64 a0_0)) (fun _ hk => hk.2) (.int .i64 a0_1)) (fun _ hk => hk.2) (.int .i64 a0_2)) (fun _ hk => hk.2) (.int .i64 a0_3)) (fun _ hk => hk.2) (.int .i64 a0_4)) (fun _ hk => hk.2) (.int .i64 a0_5)) (fun _ hk => hk.2) (.slice Ao141 x410006_2.length co141)) (fun _ hk => hk.2) (.slice Ao142 x410007_3.length co142)) (fun _ hk => hk.2) (.bool a0_8)) (fun _ hk => trivial)))⟩; have n2_ : Aside0 (w148.heap[gb404]? = some (.cells #[.int .i64 a0_0, .int .i64 a0_1, .int .i64 a0_2, .int .i64 a0_3, .int .i64 a0_4, .int .i64 a0_5, .slice A0_6 l0_6.length c0_6, .slice A0_7 l0_7.length c0_7, .bool a0_8] 29 (0, 0))) := ⟨(by rw [hw]; exact (by (with_reducible repeat (first | refine blk_drewN ?_ _ | refine blk_drew ?_ | refine blk_alloc ?_ _)); refine blk_far ?_ NB404_407.out _; (with_reducible repeat (first | refine blk_drewN ?_ _ | refine blk_drew ?_ | refine blk_alloc ?_ _)); refine blk_far ?_ NB404_407.out _; (with_reducible repeat (first | refine blk_drewN ?_ _ | refine blk_drew ?_ | refine blk_alloc ?_ _)); refine blk_far ?_ NB404_407.out _; (with_reducible repeat (first | refine blk_drewN ?_ _ | refine blk_drew ?_ | refine blk_alloc ?_ _)); refine blk_far ?_ NB404_407.out _; (with_reducible repeat (first | refine blk_drewN ?_ _ | refine blk_drew ?_ | refine blk_alloc ?_ _)); refine blk_far ?_ NB404_407.out _; (with_reducible repeat (first | refine blk_drewN ?_ _ | refine blk_drew ?_ | refine blk_alloc ?_ _)); refine blk_far ?_ NB404_407.out _; (with_reducible repeat (first | refine blk_drewN ?_ _ | refine blk_drew ?_ | refine blk_alloc ?_ _)); refine blk_far ?_ NB404_407.out _; (with_reducible repeat (first | refine blk_drewN ?_ _ | refine blk_drew ?_ | refine blk_alloc ?_ _)); refine blk_far ?_ NB404_407.out _; (with_reducible repeat (first | refine blk_drewN ?_ _ | refine blk_drew ?_ | refine blk_alloc ?_ _)); refine blk_far ?_ NB404_407.out _; (with_reducible repeat (first | refine blk_drewN ?_ _ | refine blk_drew ?_ | refine blk_alloc ?_ _)); exact BK404.out))⟩; have n3_ : Aside0 (w148.heap[gb405]? = some (.cells #[.int .i64 a1] 3 (0, 0))) := ⟨(by rw [hw]; exact (by (with_reducible repeat (first | refine blk_drewN ?_ _ | refine blk_drew ?_ | refine blk_alloc ?_ _)); refine blk_far ?_ NB405_407.out _; (with_reducible repeat (first | refine blk_drewN ?_ _ | refine blk_drew ?_ | refine blk_alloc ?_ _)); refine blk_far ?_ NB405_407.out _; (with_reducible repeat (first | refine blk_drewN ?_ _ | refine blk_drew ?_ | refine blk_alloc ?_ _)); refine blk_far ?_ NB405_407.out _; (with_reducible repeat (first | refine blk_drewN ?_ _ | refine blk_drew ?_ | refine blk_alloc ?_ _)); refine blk_far ?_ NB405_407.out _; (with_reducible repeat (first | refine blk_drewN ?_ _ | refine blk_drew ?_ | refine blk_alloc ?_ _)); refine blk_far ?_ NB405_407.out _; (with_reducible repeat (first | refine blk_drewN ?_ _ | refine blk_drew ?_ | refine blk_alloc ?_ _)); refine blk_far ?_ NB405_407.out _; (with_reducible repeat (first | refine blk_drewN ?_ _ | refine blk_drew ?_ | refine blk_alloc ?_ _)); refine blk_far ?_ NB405_407.out _; (with_reducible repeat (first | refine blk_drewN ?_ _ | refine blk_drew ?_ | refine blk_alloc ?_ _)); refine blk_far ?_ NB405_407.out _; (with_reducible repeat (first | refine blk_drewN ?_ _ | refine blk_drew ?_ | refine blk_alloc ?_ _)); refine blk_far ?_ NB405_407.out _; (with_reducible repeat (first | refine blk_drewN ?_ _ | refine blk_drew ?_ | refine blk_alloc ?_ _)); exact BK405.out))⟩; have n4_ : Aside0 (w148.heap[gb406]? = some (.cells #[.int .i64 a2] 3 (0, 0))) := ⟨(by rw [hw]; exact (by (with_reducible repeat (first | refine blk_drewN ?_ _ | refine blk_drew ?_ | refine blk_alloc ?_ _)); refine blk_far ?_ NB406_407.out _; (with_reducible repeat (first | refine blk_drewN ?_ _ | refine blk_drew ?_ | refine blk_alloc ?_ _)); refine blk_far ?_ NB406_407.out _; (with_reducible repeat (first | refine blk_drewN ?_ _ | refine blk_drew ?_ | refine blk_alloc ?_ _)); refine blk_far ?_ NB406_407.out _; (with_reducible repeat (first | refine blk_drewN ?_ _ | refine blk_drew ?_ | refine blk_alloc ?_ _)); refine blk_far ?_ NB406_407.out _; (with_reducible repeat (first | refine blk_drewN ?_ _ | refine blk_drew ?_ | refine blk_alloc ?_ _)); refine blk_far ?_ NB406_407.out _; (with_reducible repeat (first | refine blk_drewN ?_ _ | refine blk_drew ?_ | refine blk_alloc ?_ _)); refine blk_far ?_ NB406_407.out _; (with_reducible repeat (first | refine blk_drewN ?_ _ | refine blk_drew ?_ | refine blk_alloc ?_ _)); refine blk_far ?_ NB406_407.out _; (with_reducible repeat (first | refine blk_drewN ?_ _ | refine blk_drew ?_ | refine blk_alloc ?_ _)); refine blk_far ?_ NB406_407.out _; (with_reducible repeat (first | refine blk_drewN ?_ _ | refine blk_drew ?_ | refine blk_alloc ?_ _)); refine blk_far ?_ NB406_407.out _; (with_reducible repeat (first | refine blk_drewN ?_ _ | refine blk_drew ?_ | refine blk_alloc ?_ _)); exact BK406.out))⟩; have n5_ : Aside0 (w148.heap[gb407]? = some (.cells #[.int .i64 a0_0, .int .i64 a0_1, .int .i64 a0_2, .int .i64 a0_3, .int .i64 a0_4, .int .i64 a0_5, .slice Ao141 x410006_2.length co141, .slice Ao142 x410007_3.length co142, .bool a0_8] 29 (0, 0))) := ⟨(by rw [hw]; exact (by (with_reducible repeat (first | refine blk_drewN ?_ _ | refine blk_drew ?_ | refine blk_alloc ?_ _)); refine blk_put (cs := #[.int .i64 a0_0, .int .i64 a0_1, .int .i64 a0_2, .int .i64 a0_3, .int .i64 a0_4, .int .i64 a0_5, .slice Ao141 x410006_2.length co141, .slice Ao142 x410007_3.length co142, .bool false]) ?_ 8 _ rfl; (with_reducible repeat (first | refine blk_drewN ?_ _ | refine blk_drew ?_ | refine blk_alloc ?_ _)); refine blk_put (cs := #[.int .i64 a0_0, .int .i64 a0_1, .int .i64 a0_2, .int .i64 a0_3, .int .i64 a0_4, .int .i64 a0_5, .slice Ao141 x410006_2.length co141, .slice none 0 0, .bool false]) ?_ 7 _ rfl; (with_reducible repeat (first | refine blk_drewN ?_ _ | refine blk_drew ?_ | refine blk_alloc ?_ _)); refine blk_put (cs := #[.int .i64 a0_0, .int .i64 a0_1, .int .i64 a0_2, .int .i64 a0_3, .int .i64 a0_4, .int .i64 a0_5, .slice none 0 0, .slice none 0 0, .bool false]) ?_ 6 _ rfl; (with_reducible repeat (first | refine blk_drewN ?_ _ | refine blk_drew ?_ | refine blk_alloc ?_ _)); refine blk_put (cs := #[.int .i64 a0_0, .int .i64 a0_1, .int .i64 a0_2, .int .i64 a0_3, .int .i64 a0_4, .int .i64 0, .slice none 0 0, .slice none 0 0, .bool false]) ?_ 5 _ rfl; (with_reducible repeat (first | refine blk_drewN ?_ _ | refine blk_drew ?_ | refine blk_alloc ?_ _)); refine blk_put (cs := #[.int .i64 a0_0, .int .i64 a0_1, .int .i64 a0_2, .int .i64 a0_3, .int .i64 0, .int .i64 0, .slice none 0 0, .slice none 0 0, .bool false]) ?_ 4 _ rfl; (with_reducible repeat (first | refine blk_drewN ?_ _ | refine blk_drew ?_ | refine blk_alloc ?_ _)); refine blk_put (cs := #[.int .i64 a0_0, .int .i64 a0_1, .int .i64 a0_2, .int .i64 0, .int .i64 0, .int .i64 0, .slice none 0 0, .slice none 0 0, .bool false]) ?_ 3 _ rfl; (with_reducible repeat (first | refine blk_drewN ?_ _ | refine blk_drew ?_ | refine blk_alloc ?_ _)); refine blk_put (cs := #[.int .i64 a0_0, .int .i64 a0_1, .int .i64 0, .int .i64 0, .int .i64 0, .int .i64 0, .slice none 0 0, .slice none 0 0, .bool false]) ?_ 2 _ rfl; (with_reducible repeat (first | refine blk_drewN ?_ _ | refine blk_drew ?_ | refine blk_alloc ?_ _)); refine blk_put (cs := #[.int .i64 a0_0, .int .i64 0, .int .i64 0, .int .i64 0, .int .i64 0, .int .i64 0, .slice none 0 0, .slice none 0 0, .bool false]) ?_ 1 _ rfl; (with_reducible repeat (first | refine blk_drewN ?_ _ | refine blk_drew ?_ | refine blk_alloc ?_ _)); refine blk_put (cs := #[.int .i64 0, .int .i64 0, .int .i64 0, .int .i64 0, .int .i64 0, .int .i64 0, .slice none 0 0, .slice none 0 0, .bool false]) ?_ 0 _ rfl; (with_reducible repeat (first | refine blk_drewN ?_ _ | refine blk_drew ?_ | refine blk_alloc ?_ _)); exact BK407.out))⟩; have n6_ : Aside0 (w148.heap[gb409]? = some (.cells #[.int .i64 a0_0, .int .i64 a0_1, .int .i64 a0_2, .int .i64 a0_3, .int .i64 a0_4, .int .i64 a0_5, .slice Ao141 x410006_2.length co141, .slice Ao142 x410007_3.length co142, .bool a0_8] 29 (0, 0))) := ⟨(by rw [hw]; exact (by (with_reducible repeat (first | refine blk_drewN ?_ _ | refine blk_drew ?_ | refine blk_alloc ?_ _)); refine blk_far ?_ NB409_407.out _; (with_reducible repeat (first | refine blk_drewN ?_ _ | refine blk_drew ?_ | refine blk_alloc ?_ _)); refine blk_far ?_ NB409_407.out _; (with_reducible repeat (first | refine blk_drewN ?_ _ | refine blk_drew ?_ | refine blk_alloc ?_ _)); refine blk_far ?_ NB409_407.out _; (with_reducible repeat (first | refine blk_drewN ?_ _ | refine blk_drew ?_ | refine blk_alloc ?_ _)); refine blk_far ?_ NB409_407.out _; (with_reducible repeat (first | refine blk_drewN ?_ _ | refine blk_drew ?_ | refine blk_alloc ?_ _)); refine blk_far ?_ NB409_407.out _; (with_reducible repeat (first | refine blk_drewN ?_ _ | refine blk_drew ?_ | refine blk_alloc ?_ _)); refine blk_far ?_ NB409_407.out _; (with_reducible repeat (first | refine blk_drewN ?_ _ | refine blk_drew ?_ | refine blk_alloc ?_ _)); refine blk_far ?_ NB409_407.out _; (with_reducible repeat (first | refine blk_drewN ?_ _ | refine blk_drew ?_ | refine blk_alloc ?_ _)); refine blk_far ?_ NB409_407.out _; (with_reducible repeat (first | refine blk_drewN ?_ _ | refine blk_drew ?_ | refine blk_alloc ?_ _)); refine blk_far ?_ NB409_407.out _; (with_reducible repeat (first | refine blk_drewN ?_ _ | refine blk_drew ?_ | refine blk_alloc ?_ _)); exact BK409.out))⟩; have n7_ : Aside0 (Below w.heap.size w w148) := ⟨(by rw [hw]; exact lbt_)⟩; clear hw HO_410006 HO_410007 BK404 BK405 BK406 BK407 BK409 HB; have HO_410006 := n0_; have HO_410007 := n1_; have BK404 := n2_; have BK405 := n3_; have BK406 := n4_; have BK407 := n5_; have BK409 := n6_; have HB := n7_; clear n0_ n1_ n2_ n3_ n4_ n5_ n6_ n7_))
               refine bodyPost_ret (results_ct rfl _ _ gb407 29 #[.int .i64 a0_0, .int .i64 a0_1, .int .i64 a0_2, .int .i64 a0_3, .int .i64 a0_4, .int .i64 a0_5, .slice Ao141 x410006_2.length co141, .slice Ao142 x410007_3.length co142, .bool a0_8] (0, 0) _ rfl (kb_ BK407.out) Try.underlying29 rfl (by kernel_rfl)) rfl ?_
               exact ⟨_, _, by first | rfl | (simp [errW_none, errW_some] <;> rfl) | (simp [*, errW_none, errW_some] <;> rfl), by (with_reducible repeat (first | apply Kd.R_alloc | apply Kd.R_drewN | apply Kd.R_drew)); exact HO_410006.out, by (with_reducible repeat (first | apply Kd.R_alloc | apply Kd.R_drewN | apply Kd.R_drew)); exact HO_410007.out, by repeat (first | (with_reducible first | exact HB.out | apply below_alloc | apply pw_below_drewN | apply below_drew1 | refine below_set ?_ GE404.out | refine below_set ?_ GE405.out | refine below_set ?_ GE406.out | refine below_set ?_ GE407.out | refine below_set ?_ GE409.out) | exact HB.out)⟩
end Go.Proofs.Ytnjeeedndnfglaa.X
end
section
namespace Go.Proofs.Ytnjeeedndnfglaa.X
open Go.RowKit Go.Proofs.YtnjeeedndnfglaaW.PrintWords Go.Proofs.YtnjeeedndnfglaaW.PrintLast Go.Proofs.YtnjeeedndnfglaaW.PrintMore
attribute [local go_sem] max2_int min2_int max_two min_two max_three min_three max_four min_four   -- for this text's walks alone
set_option linter.unusedVariables false
set_option linter.unusedSimpArgs false
def althingref02_RightTxn.f (a0_0 : Int) (a0_1 : Int) : Option (Bool) := if a0_0 ≥ 0 then (if a0_0 ≤ 3 then (if a0_1 ≥ 1 then (some (decide (a0_1 ≤ 1099511627776))) else (some false)) else (some false)) else (some false)
set_option maxHeartbeats 40000000 in
set_option maxRecDepth 100000 in
theorem althingref02_RightTxn.calls (a0_0 : Int) (a0_1 : Int) (r : Bool) (w : World) (h : althingref02_RightTxn.f a0_0 a0_1 = some r) :
 Calls Try.prog 36 #[.agg #[.int .i64 a0_0, .int .i64 a0_1]] w fun e w' => e = .returned (.bool r) ∧ Below w.heap.size w w' := by
 have hu23 := Try.underlying23
 have HB := Aside0.mk (Below.refl w.heap.size w)
 have H : (if a0_0 ≥ 0 then (if a0_0 ≤ 3 then (if a0_1 ≥ 1 then (some (decide (a0_1 ≤ 1099511627776))) else (some false)) else (some false)) else (some false)) = some r := h
 clear h
 by_cases c2 : a0_0 ≥ 0
 · rw [if_pos c2] at H
   have c2b0 : decide (0 ≤ a0_0) = true := decide_eq_true c2
   clear c2
   by_cases c3 : a0_0 ≤ 3
   · rw [if_pos c3] at H
     have c3b0 : decide (a0_0 ≤ 3) = true := decide_eq_true c3
     clear c3
     by_cases c4 : a0_1 ≥ 1
     · rw [if_pos c4] at H
       have c4b0 : decide (1 ≤ a0_1) = true := decide_eq_true c4
       clear c4
       obtain rfl := Option.some.inj H
       go_enter Try.func36, Try.ntmps36
       go_wp2_with (first | ((with_reducible refine gate_dst (N := 1) rfl ?_); refine bx_ 1 23 #[.int .i64 a0_0, .int .i64 a0_1] ?_; intro gb463 hg w5 hbox hb; have BK463 := Aside0.mk hbox; have GE463 := ge_ HB hg; replace HB := hs_ HB hb; clear hb hbox hg; refine blk2_ BK463.out fun hcz6_0 hcz6_1 hfz6_0 hfz6_1 => ?_))
       go_ret
       exact ⟨by first | rfl | (simp [errW_none, errW_some] <;> rfl) | (simp [*, errW_none, errW_some] <;> rfl), by repeat (first | (with_reducible first | exact HB.out | apply below_alloc | apply pw_below_drewN | apply below_drew1 | refine below_set ?_ GE463.out) | exact HB.out)⟩
     · rw [if_neg c4] at H
       have c4b0 : decide (1 ≤ a0_1) = false := decide_eq_false c4
       clear c4
       obtain rfl := Option.some.inj H
       go_enter Try.func36, Try.ntmps36
       go_wp2_with (first | ((with_reducible refine gate_dst (N := 1) rfl ?_); refine bx_ 1 23 #[.int .i64 a0_0, .int .i64 a0_1] ?_; intro gb463 hg w7 hbox hb; have BK463 := Aside0.mk hbox; have GE463 := ge_ HB hg; replace HB := hs_ HB hb; clear hb hbox hg; refine blk2_ BK463.out fun hcz8_0 hcz8_1 hfz8_0 hfz8_1 => ?_))
       go_ret
       exact ⟨by first | rfl | (simp [errW_none, errW_some] <;> rfl) | (simp [*, errW_none, errW_some] <;> rfl), by repeat (first | (with_reducible first | exact HB.out | apply below_alloc | apply pw_below_drewN | apply below_drew1 | refine below_set ?_ GE463.out) | exact HB.out)⟩
   · rw [if_neg c3] at H
     have c3b0 : decide (a0_0 ≤ 3) = false := decide_eq_false c3
     clear c3
     obtain rfl := Option.some.inj H
     go_enter Try.func36, Try.ntmps36
     go_wp2_with (first | ((with_reducible refine gate_dst (N := 1) rfl ?_); refine bx_ 1 23 #[.int .i64 a0_0, .int .i64 a0_1] ?_; intro gb463 hg w9 hbox hb; have BK463 := Aside0.mk hbox; have GE463 := ge_ HB hg; replace HB := hs_ HB hb; clear hb hbox hg; refine blk2_ BK463.out fun hcz10_0 hcz10_1 hfz10_0 hfz10_1 => ?_))
     go_ret
     exact ⟨by first | rfl | (simp [errW_none, errW_some] <;> rfl) | (simp [*, errW_none, errW_some] <;> rfl), by repeat (first | (with_reducible first | exact HB.out | apply below_alloc | apply pw_below_drewN | apply below_drew1 | refine below_set ?_ GE463.out) | exact HB.out)⟩
 · rw [if_neg c2] at H
   have c2b0 : decide (0 ≤ a0_0) = false := decide_eq_false c2
   clear c2
   obtain rfl := Option.some.inj H
   go_enter Try.func36, Try.ntmps36
   go_wp2_with (first | ((with_reducible refine gate_dst (N := 1) rfl ?_); refine bx_ 1 23 #[.int .i64 a0_0, .int .i64 a0_1] ?_; intro gb463 hg w11 hbox hb; have BK463 := Aside0.mk hbox; have GE463 := ge_ HB hg; replace HB := hs_ HB hb; clear hb hbox hg; refine blk2_ BK463.out fun hcz12_0 hcz12_1 hfz12_0 hfz12_1 => ?_))
   go_ret
   exact ⟨by first | rfl | (simp [errW_none, errW_some] <;> rfl) | (simp [*, errW_none, errW_some] <;> rfl), by repeat (first | (with_reducible first | exact HB.out | apply below_alloc | apply pw_below_drewN | apply below_drew1 | refine below_set ?_ GE463.out) | exact HB.out)⟩
end Go.Proofs.Ytnjeeedndnfglaa.X
end
section
namespace Go.Proofs.Ytnjeeedndnfglaa.X
open Go.RowKit Go.Proofs.YtnjeeedndnfglaaW.PrintWords Go.Proofs.YtnjeeedndnfglaaW.PrintLast Go.Proofs.YtnjeeedndnfglaaW.PrintMore
attribute [local go_sem] max2_int min2_int max_two min_two max_three min_three max_four min_four   -- for this text's walks alone
set_option linter.unusedVariables false
set_option linter.unusedSimpArgs false
def althingref02_RightStamp.f (a0_0 : Int) (a0_1 : Int) : Option (Bool) := if a0_0 ≥ 0 then (if a0_0 ≤ 1099511627776 then (if a0_1 ≥ 0 then (some (decide (a0_1 ≤ 3))) else (some false)) else (some false)) else (some false)
set_option maxHeartbeats 40000000 in
set_option maxRecDepth 100000 in
theorem althingref02_RightStamp.calls (a0_0 : Int) (a0_1 : Int) (r : Bool) (w : World) (h : althingref02_RightStamp.f a0_0 a0_1 = some r) :
 Calls Try.prog 37 #[.agg #[.int .i64 a0_0, .int .i64 a0_1]] w fun e w' => e = .returned (.bool r) ∧ Below w.heap.size w w' := by
 have hu25 := Try.underlying25
 have HB := Aside0.mk (Below.refl w.heap.size w)
 have H : (if a0_0 ≥ 0 then (if a0_0 ≤ 1099511627776 then (if a0_1 ≥ 0 then (some (decide (a0_1 ≤ 3))) else (some false)) else (some false)) else (some false)) = some r := h
 clear h
 by_cases c2 : a0_0 ≥ 0
 · rw [if_pos c2] at H
   have c2b0 : decide (0 ≤ a0_0) = true := decide_eq_true c2
   clear c2
   by_cases c3 : a0_0 ≤ 1099511627776
   · rw [if_pos c3] at H
     have c3b0 : decide (a0_0 ≤ 1099511627776) = true := decide_eq_true c3
     clear c3
     by_cases c4 : a0_1 ≥ 0
     · rw [if_pos c4] at H
       have c4b0 : decide (0 ≤ a0_1) = true := decide_eq_true c4
       clear c4
       obtain rfl := Option.some.inj H
       go_enter Try.func37, Try.ntmps37
       go_wp2_with (first | ((with_reducible refine gate_dst (N := 1) rfl ?_); refine bx_ 1 25 #[.int .i64 a0_0, .int .i64 a0_1] ?_; intro gb464 hg w5 hbox hb; have BK464 := Aside0.mk hbox; have GE464 := ge_ HB hg; replace HB := hs_ HB hb; clear hb hbox hg; refine blk2_ BK464.out fun hcz6_0 hcz6_1 hfz6_0 hfz6_1 => ?_))
       go_ret
       exact ⟨by first | rfl | (simp [errW_none, errW_some] <;> rfl) | (simp [*, errW_none, errW_some] <;> rfl), by repeat (first | (with_reducible first | exact HB.out | apply below_alloc | apply pw_below_drewN | apply below_drew1 | refine below_set ?_ GE464.out) | exact HB.out)⟩
     · rw [if_neg c4] at H
       have c4b0 : decide (0 ≤ a0_1) = false := decide_eq_false c4
       clear c4
       obtain rfl := Option.some.inj H
       go_enter Try.func37, Try.ntmps37
       go_wp2_with (first | ((with_reducible refine gate_dst (N := 1) rfl ?_); refine bx_ 1 25 #[.int .i64 a0_0, .int .i64 a0_1] ?_; intro gb464 hg w7 hbox hb; have BK464 := Aside0.mk hbox; have GE464 := ge_ HB hg; replace HB := hs_ HB hb; clear hb hbox hg; refine blk2_ BK464.out fun hcz8_0 hcz8_1 hfz8_0 hfz8_1 => ?_))
       go_ret
       exact ⟨by first | rfl | (simp [errW_none, errW_some] <;> rfl) | (simp [*, errW_none, errW_some] <;> rfl), by repeat (first | (with_reducible first | exact HB.out | apply below_alloc | apply pw_below_drewN | apply below_drew1 | refine below_set ?_ GE464.out) | exact HB.out)⟩
   · rw [if_neg c3] at H
     have c3b0 : decide (a0_0 ≤ 1099511627776) = false := decide_eq_false c3
     clear c3
     obtain rfl := Option.some.inj H
     go_enter Try.func37, Try.ntmps37
     go_wp2_with (first | ((with_reducible refine gate_dst (N := 1) rfl ?_); refine bx_ 1 25 #[.int .i64 a0_0, .int .i64 a0_1] ?_; intro gb464 hg w9 hbox hb; have BK464 := Aside0.mk hbox; have GE464 := ge_ HB hg; replace HB := hs_ HB hb; clear hb hbox hg; refine blk2_ BK464.out fun hcz10_0 hcz10_1 hfz10_0 hfz10_1 => ?_))
     go_ret
     exact ⟨by first | rfl | (simp [errW_none, errW_some] <;> rfl) | (simp [*, errW_none, errW_some] <;> rfl), by repeat (first | (with_reducible first | exact HB.out | apply below_alloc | apply pw_below_drewN | apply below_drew1 | refine below_set ?_ GE464.out) | exact HB.out)⟩
 · rw [if_neg c2] at H
   have c2b0 : decide (0 ≤ a0_0) = false := decide_eq_false c2
   clear c2
   obtain rfl := Option.some.inj H
   go_enter Try.func37, Try.ntmps37
   go_wp2_with (first | ((with_reducible refine gate_dst (N := 1) rfl ?_); refine bx_ 1 25 #[.int .i64 a0_0, .int .i64 a0_1] ?_; intro gb464 hg w11 hbox hb; have BK464 := Aside0.mk hbox; have GE464 := ge_ HB hg; replace HB := hs_ HB hb; clear hb hbox hg; refine blk2_ BK464.out fun hcz12_0 hcz12_1 hfz12_0 hfz12_1 => ?_))
   go_ret
   exact ⟨by first | rfl | (simp [errW_none, errW_some] <;> rfl) | (simp [*, errW_none, errW_some] <;> rfl), by repeat (first | (with_reducible first | exact HB.out | apply below_alloc | apply pw_below_drewN | apply below_drew1 | refine below_set ?_ GE464.out) | exact HB.out)⟩
end Go.Proofs.Ytnjeeedndnfglaa.X
end
section
namespace Go.Proofs.Ytnjeeedndnfglaa.X
open Go.RowKit Go.Proofs.YtnjeeedndnfglaaW.PrintWords Go.Proofs.YtnjeeedndnfglaaW.PrintLast Go.Proofs.YtnjeeedndnfglaaW.PrintMore
attribute [local go_sem] max2_int min2_int max_two min_two max_three min_three max_four min_four   -- for this text's walks alone
set_option linter.unusedVariables false
set_option linter.unusedSimpArgs false
def althingref02_Order.f (a0 : Int) (a1 : Int) (a2 : Int) (a3 : Int) : Option (Int) := if a0 < a2 then (some (-1)) else (if a0 > a2 then (some 1) else (if a1 < a3 then (some (-1)) else (if a1 > a3 then (some 1) else (some 0))))
set_option maxHeartbeats 40000000 in
set_option maxRecDepth 100000 in
theorem althingref02_Order.calls (a0 : Int) (a1 : Int) (a2 : Int) (a3 : Int) (r : Int) (w : World) (h : althingref02_Order.f a0 a1 a2 a3 = some r) :
 Calls Try.prog 53 #[.int .i64 a0, .int .i64 a1, .int .i64 a2, .int .i64 a3] w fun e w' => e = .returned (.int .i64 r) ∧ Drawn0 w w' := by
 have H : (if a0 < a2 then (some (-1)) else (if a0 > a2 then (some 1) else (if a1 < a3 then (some (-1)) else (if a1 > a3 then (some 1) else (some 0))))) = some r := h
 clear h
 by_cases c5 : a0 < a2
 · rw [if_pos c5] at H
   have c5b0 : decide (a0 < a2) = true := decide_eq_true c5
   clear c5
   obtain rfl := Option.some.inj H
   go_enter Try.func53, Try.ntmps53
   go_wp2
   go_ret
   exact ⟨by first | rfl | (simp; done) | (simp [*]; done), by repeat (first | exact Drawn0.refl _ | apply Drawn0.step)⟩
 · rw [if_neg c5] at H
   have c5b0 : decide (a0 < a2) = false := decide_eq_false c5
   clear c5
   by_cases c6 : a0 > a2
   · rw [if_pos c6] at H
     have c6b0 : decide (a2 < a0) = true := decide_eq_true c6
     clear c6
     obtain rfl := Option.some.inj H
     go_enter Try.func53, Try.ntmps53
     go_wp2
     go_ret
     exact ⟨by first | rfl | (simp; done) | (simp [*]; done), by repeat (first | exact Drawn0.refl _ | apply Drawn0.step)⟩
   · rw [if_neg c6] at H
     have c6b0 : decide (a2 < a0) = false := decide_eq_false c6
     clear c6
     by_cases c7 : a1 < a3
     · rw [if_pos c7] at H
       have c7b0 : decide (a1 < a3) = true := decide_eq_true c7
       clear c7
       obtain rfl := Option.some.inj H
       go_enter Try.func53, Try.ntmps53
       go_wp2
       go_ret
       exact ⟨by first | rfl | (simp; done) | (simp [*]; done), by repeat (first | exact Drawn0.refl _ | apply Drawn0.step)⟩
     · rw [if_neg c7] at H
       have c7b0 : decide (a1 < a3) = false := decide_eq_false c7
       clear c7
       by_cases c8 : a1 > a3
       · rw [if_pos c8] at H
         have c8b0 : decide (a3 < a1) = true := decide_eq_true c8
         clear c8
         obtain rfl := Option.some.inj H
         go_enter Try.func53, Try.ntmps53
         go_wp2
         go_ret
         exact ⟨by first | rfl | (simp; done) | (simp [*]; done), by repeat (first | exact Drawn0.refl _ | apply Drawn0.step)⟩
       · rw [if_neg c8] at H
         have c8b0 : decide (a3 < a1) = false := decide_eq_false c8
         clear c8
         obtain rfl := Option.some.inj H
         go_enter Try.func53, Try.ntmps53
         go_wp2
         go_ret
         exact ⟨by first | rfl | (simp; done) | (simp [*]; done), by repeat (first | exact Drawn0.refl _ | apply Drawn0.step)⟩
end Go.Proofs.Ytnjeeedndnfglaa.X
end
section
namespace Go.Proofs.Ytnjeeedndnfglaa.X
open Go.RowKit Go.Proofs.YtnjeeedndnfglaaW.PrintWords Go.Proofs.YtnjeeedndnfglaaW.PrintLast Go.Proofs.YtnjeeedndnfglaaW.PrintMore
attribute [local go_sem] max2_int min2_int max_two min_two max_three min_three max_four min_four   -- for this text's walks alone
set_option linter.unusedVariables false
set_option linter.unusedSimpArgs false
def althingref02_Before.f (a0_0 : Int) (a0_1 : Int) (a1_0 : Int) (a1_1 : Int) : Option (Bool) := (althingref02_Order.f a0_0 a0_1 a1_0 a1_1).bind fun t467 => (some (decide (t467 < 0)))
set_option maxHeartbeats 40000000 in
set_option maxRecDepth 100000 in
theorem althingref02_Before.calls (a0_0 : Int) (a0_1 : Int) (a1_0 : Int) (a1_1 : Int) (r : Bool) (w : World) (h : althingref02_Before.f a0_0 a0_1 a1_0 a1_1 = some r) :
 Calls Try.prog 38 #[.agg #[.int .i64 a0_0, .int .i64 a0_1], .agg #[.int .i64 a1_0, .int .i64 a1_1]] w fun e w' => e = .returned (.bool r) ∧ Below w.heap.size w w' := by
 have hu25 := Try.underlying25
 have HB := Aside0.mk (Below.refl w.heap.size w)
 have H : ((althingref02_Order.f a0_0 a0_1 a1_0 a1_1).bind fun t467 => (some (decide (t467 < 0)))) = some r := h
 clear h
 obtain ⟨t467, A3, H⟩ := bs_ H
 obtain rfl := Option.some.inj H
 go_enter Try.func38, Try.ntmps38
 go_wp2_with (first | ((with_reducible refine gate_dst (N := 2) rfl ?_); refine bx_ 2 25 #[.int .i64 a0_0, .int .i64 a0_1] ?_; intro gb465 hg w4 hbox hb; have BK465 := Aside0.mk hbox; have GE465 := ge_ HB hg; replace HB := hs_ HB hb; clear hb hbox hg) | ((with_reducible refine gate_dst (N := 3) rfl ?_); refine bx_ 3 25 #[.int .i64 a1_0, .int .i64 a1_1] ?_; intro gb466 hg w5 hbox hb; have BK466 := Aside0.mk hbox; have GE466 := ge_ HB hg; have NB465_466 := na_ hg BK465; replace BK465 := bb_ BK465 hb; replace HB := hs_ HB hb; clear hb hbox hg; refine ne2_ NB465_466 fun hnb6 hnc6 => ?_; refine blk2_ BK465.out fun hcz7_0 hcz7_1 hfz7_0 hfz7_1 => ?_; refine blk2_ BK466.out fun hcz8_0 hcz8_1 hfz8_0 hfz8_1 => ?_) | ((with_reducible refine gate_callee (f := 53) rfl ?_); refine gl_ (some 13) Try.func53 #[.int .i64 a0_0, .int .i64 a0_1, .int .i64 a1_0, .int .i64 a1_1] ?_; (with_reducible refine (althingref02_Order.calls a0_0 a0_1 a1_0 a1_1 t467 _ A3.out).mono ?_); rintro e w' ⟨rfl, ⟨nd, rfl⟩⟩; refine ⟨_, rfl, ?_⟩))
 go_ret
 exact ⟨by first | rfl | (simp [errW_none, errW_some] <;> rfl) | (simp [*, errW_none, errW_some] <;> rfl), by repeat (first | (with_reducible first | exact HB.out | apply below_alloc | apply pw_below_drewN | apply below_drew1 | refine below_set ?_ GE465.out | refine below_set ?_ GE466.out) | exact HB.out)⟩
end Go.Proofs.Ytnjeeedndnfglaa.X
end
section
namespace Go.Proofs.Ytnjeeedndnfglaa.X
open Go.RowKit Go.Proofs.YtnjeeedndnfglaaW.PrintWords Go.Proofs.YtnjeeedndnfglaaW.PrintLast Go.Proofs.YtnjeeedndnfglaaW.PrintMore
attribute [local go_sem] max2_int min2_int max_two min_two max_three min_three max_four min_four   -- for this text's walks alone
set_option linter.unusedVariables false
set_option linter.unusedSimpArgs false
def althingref04_Before.l0 : Nat → ByteArray → ByteArray → Int → Option (Bool)
 | 0, _, _, _ => none
 | k + 1, x0, x1, x5 => if x5 < (x1.size : Int) then (if x5 = (x0.size : Int) then (some true) else (if 0 ≤ x5 then (if x5 < (x0.size : Int) then (if (bt x0 x5) = (bt x1 x5) then (althingref04_Before.l0 k x0 x1 (wrap64 (x5 + 1))) else (some (decide ((bt x0 x5) < (bt x1 x5))))) else (none)) else (none))) else (some false)
def althingref04_Before.f (k : Nat) (a0 : ByteArray) (a1 : ByteArray) : Option (Bool) := althingref04_Before.l0 k a0 a1 0
set_option maxHeartbeats 40000000 in
set_option maxRecDepth 100000 in
theorem althingref04_Before.calls (k : Nat) (a0 : ByteArray) (a1 : ByteArray) (r : Bool) (w : World) (h : althingref04_Before.f k a0 a1 = some r) :
 Calls Try.prog 41 #[.string a0, .string a1] w fun e w' => e = .returned (.bool r) ∧ Drawn0 w w' := by
 have H : (althingref04_Before.l0 k a0 a1 0) = some r := h
 clear h
 have H' := Aside0.mk H
 clear H
 go_enter Try.func41, Try.ntmps41
 go_wp2
 repeat (go_quiet (fail); try go_wp2)
 go_loopg [5] k (fun kq v5 w' => ∃ (x5_1 : Int), v5 = .int .i64 x5_1 ∧ Aside0 (althingref04_Before.l0 kq a0 a1 x5_1 = some r) ∧ Aside0 (kq ≤ k) ∧ Drawn0 w w')
 case atStart => exact ⟨(0), sm_, H', ⟨Nat.le_refl _⟩, by repeat (first | exact Drawn0.refl _ | apply Drawn0.step)⟩
 case round =>
  clear H'
  try clear p2
  obtain ⟨x5_1, rfl, HA, HK1, ⟨m1, rfl⟩⟩ := hrel
  cases gk with
  | zero => exact absurd HA.out (by simp [althingref04_Before.l0])
  | succ k1 =>
   have H := HA.out
   clear HA
   simp only [althingref04_Before.l0] at H
   by_cases c3 : x5_1 < (a1.size : Int)
   · rw [if_pos c3] at H
     have c3b0 : decide (x5_1 < (a1.size : Int)) = true := decide_eq_true c3
     clear c3
     by_cases c4 : x5_1 = (a0.size : Int)
     · rw [if_pos c4] at H
       have c4b0 : (x5_1 == (a0.size : Int)) = true := beq_iff_eq.mpr c4
       have c4b1 : (x5_1 != (a0.size : Int)) = false := bne_eq_false_iff_eq.mpr c4
       clear c4
       obtain rfl := Option.some.inj H
       go_wp2
       repeat (go_quiet (fail); try go_wp2)
       go_ret
       exact ⟨by first | rfl | (simp; done) | (simp [*]; done), by repeat (first | exact Drawn0.refl _ | apply Drawn0.step)⟩
     · rw [if_neg c4] at H
       have c4b0 : (x5_1 == (a0.size : Int)) = false := beq_eq_false_iff_ne.mpr c4
       have c4b1 : (x5_1 != (a0.size : Int)) = true := bne_iff_ne.mpr c4
       by_cases c5 : 0 ≤ x5_1
       · rw [if_pos c5] at H
         have c5b0 : decide (0 ≤ x5_1) = true := decide_eq_true c5
         clear c5
         by_cases c6 : x5_1 < (a0.size : Int)
         · rw [if_pos c6] at H
           have c6b0 : decide (x5_1 < (a0.size : Int)) = true := decide_eq_true c6
           clear c6
           by_cases c9 : (bt a0 x5_1) = (bt a1 x5_1)
           · rw [if_pos c9] at H
             have c9b0 : ((bt a0 x5_1) == (bt a1 x5_1)) = true := beq_iff_eq.mpr c9
             have c9b1 : ((bt a0 x5_1) != (bt a1 x5_1)) = false := bne_eq_false_iff_eq.mpr c9
             clear c9
             have H' := Aside0.mk H
             clear H
             have p7 : 0 ≤ (x5_1 : Int) := of_decide_eq_true (by first | (with_reducible assumption) | assumption)
             have q7 : x5_1 < (a0.size : Int) := of_decide_eq_true (by first | (with_reducible assumption) | assumption)
             have hx7 := bt_at a0 x5_1
             replace p7 := eq_true p7
             replace q7 := eq_true q7
             have p8 : 0 ≤ (x5_1 : Int) := of_decide_eq_true (by first | (with_reducible assumption) | assumption)
             have q8 : x5_1 < (a1.size : Int) := of_decide_eq_true (by first | (with_reducible assumption) | assumption)
             have hx8 := bt_at a1 x5_1
             replace p8 := eq_true p8
             replace q8 := eq_true q8
             go_wp2
             repeat (go_quiet (fail); try go_wp2)
             go_roundg k1
             case measure => have := HK1.out; omega
             case rel => exact ⟨(wrap64 (x5_1 + 1)), sm_, H', ⟨by have := HK1.out; omega⟩, by repeat (first | exact Drawn0.refl _ | apply Drawn0.step)⟩
           · rw [if_neg c9] at H
             have c9b0 : ((bt a0 x5_1) == (bt a1 x5_1)) = false := beq_eq_false_iff_ne.mpr c9
             have c9b1 : ((bt a0 x5_1) != (bt a1 x5_1)) = true := bne_iff_ne.mpr c9
             obtain rfl := Option.some.inj H
             have p7 : 0 ≤ (x5_1 : Int) := of_decide_eq_true (by first | (with_reducible assumption) | assumption)
             have q7 : x5_1 < (a0.size : Int) := of_decide_eq_true (by first | (with_reducible assumption) | assumption)
             have hx7 := bt_at a0 x5_1
             replace p7 := eq_true p7
             replace q7 := eq_true q7
             have p8 : 0 ≤ (x5_1 : Int) := of_decide_eq_true (by first | (with_reducible assumption) | assumption)
             have q8 : x5_1 < (a1.size : Int) := of_decide_eq_true (by first | (with_reducible assumption) | assumption)
             have hx8 := bt_at a1 x5_1
             replace p8 := eq_true p8
             replace q8 := eq_true q8
             have p10 : 0 ≤ (x5_1 : Int) := of_decide_eq_true (by first | (with_reducible assumption) | assumption)
             have q10 : x5_1 < (a0.size : Int) := of_decide_eq_true (by first | (with_reducible assumption) | assumption)
             have hx10 := bt_at a0 x5_1
             replace p10 := eq_true p10
             replace q10 := eq_true q10
             have p11 : 0 ≤ (x5_1 : Int) := of_decide_eq_true (by first | (with_reducible assumption) | assumption)
             have q11 : x5_1 < (a1.size : Int) := of_decide_eq_true (by first | (with_reducible assumption) | assumption)
             have hx11 := bt_at a1 x5_1
             replace p11 := eq_true p11
             replace q11 := eq_true q11
             go_wp2
             repeat (go_quiet (fail); try go_wp2)
             go_ret
             exact ⟨by first | rfl | (simp; done) | (simp [*]; done), by repeat (first | exact Drawn0.refl _ | apply Drawn0.step)⟩
         · rw [if_neg c6] at H
           exact absurd H (by simp)
       · rw [if_neg c5] at H
         exact absurd H (by simp)
   · rw [if_neg c3] at H
     have c3b0 : decide (x5_1 < (a1.size : Int)) = false := decide_eq_false c3
     clear c3
     obtain rfl := Option.some.inj H
     go_wp2
     repeat (go_quiet (fail); try go_wp2)
     go_ret
     exact ⟨by first | rfl | (simp; done) | (simp [*]; done), by repeat (first | exact Drawn0.refl _ | apply Drawn0.step)⟩
end Go.Proofs.Ytnjeeedndnfglaa.X
end
section
namespace Go.Proofs.Ytnjeeedndnfglaa.X
open Go.RowKit Go.Proofs.YtnjeeedndnfglaaW.PrintWords Go.Proofs.YtnjeeedndnfglaaW.PrintLast Go.Proofs.YtnjeeedndnfglaaW.PrintMore
attribute [local go_sem] max2_int min2_int max_two min_two max_three min_three max_four min_four   -- for this text's walks alone
set_option linter.unusedVariables false
set_option linter.unusedSimpArgs false
def althingref04_Right.f (a0 : ByteArray) : Option (Bool) := if (a0.size : Int) > 0 then (some (decide ((a0.size : Int) < 9))) else (some false)
set_option maxHeartbeats 40000000 in
set_option maxRecDepth 100000 in
theorem althingref04_Right.calls (a0 : ByteArray) (r : Bool) (w : World) (h : althingref04_Right.f a0 = some r) :
 Calls Try.prog 54 #[.string a0] w fun e w' => e = .returned (.bool r) ∧ Drawn0 w w' := by
 have H : (if (a0.size : Int) > 0 then (some (decide ((a0.size : Int) < 9))) else (some false)) = some r := h
 clear h
 by_cases c2 : (a0.size : Int) > 0
 · rw [if_pos c2] at H
   have c2b0 : decide (0 < (a0.size : Int)) = true := decide_eq_true c2
   have c2b1 : decide (0 < a0.size) = true := decide_eq_true (by omega)
   clear c2
   obtain rfl := Option.some.inj H
   go_enter Try.func54, Try.ntmps54
   go_wp2
   go_ret
   exact ⟨by first | rfl | (simp; done) | (simp [*]; done), by repeat (first | exact Drawn0.refl _ | apply Drawn0.step)⟩
 · rw [if_neg c2] at H
   have c2b0 : decide (0 < (a0.size : Int)) = false := decide_eq_false c2
   have c2b1 : decide (0 < a0.size) = false := decide_eq_false (by omega)
   clear c2
   obtain rfl := Option.some.inj H
   go_enter Try.func54, Try.ntmps54
   go_wp2
   go_ret
   exact ⟨by first | rfl | (simp; done) | (simp [*]; done), by repeat (first | exact Drawn0.refl _ | apply Drawn0.step)⟩
end Go.Proofs.Ytnjeeedndnfglaa.X
end
